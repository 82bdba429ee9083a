import Derived.Test.YtgbbmadjdaphnaaGreatDoorTTb
import Derived.Lib.SliceRun
import Derived.Deep.LoopGhost
import Derived.LoopN
import Derived.KernelRfl
import Derived.Test.YtgbbmadjdaphnaaGreatDoorProg
set_option maxRecDepth 100000
set_option linter.defProp false
set_option linter.unusedVariables false
set_option linter.unusedSimpArgs false
namespace Go.Proofs.YtgbbmadjdaphnaaGreatDoor
open Go
open Go.RowKit (Below)
variable {P:Program} {S:Pin} {m:Nm} {w:World} {a:Act} {G:Gh} {kp:List Nat} {st:St} {E:Env}
inductive Xa where
 | frz (k:Nat)
 | cls (k:Nat)
 | nop (k:Nat)
 | kil (k:Nat)
 | ren (j k:Nat)
 | mk (k e s:Nat)
 | nlz (k n:Nat)
structure Cx where
 fr:Nat:=0
 kp:List Nat:=[]
 nt:Nat
 tys:List TypeId:=[]
 frz:Nat->List Nat:=λ _=>[]
 emp:Nat->List (Nat × Nat × Nat × Nat):=λ _=>[]
 drop:Nat->Nat:=λ _=>0
 own:Bool:=false
 spl:Nat->List (Nat × List Int):=λ _=>[]
 act:Nat->List Xa:=λ _=>[]
 cas:Nat->St->Option (Prop × List Xa × List Xa):=λ _ _=>none
def aPN (P:Program) (t:TypeId):Bool:=match P.underlying t with | some (.slice _)=>true | _=>false
def isMap (P:Program):List TypeId->Bool
 | [t]=>(match P.underlying t with | some (.map _ _)=>true | _=>false)
 | _=>false
def stB:List Nat->Nat->AV->(AV->Prop)->Prop
 | [],_,r,k=>k r
 | p::l,t,r,k=>cond (Nat.beq p t) (bL r k) (stB l t r k)
theorem xO:∀ (l:List Nat) (t:Nat) (r:AV) (k:AV->Prop),stB l t r k->∃ y,k y∧∀ S m v,CV S r m v->CV S y m v
 | [],t,r,k,h=>⟨r,h,λ S m v hv=>hv⟩
 | p::l,t,r,k,h=>by
  simp only [stB] at h
  cases hb:Nat.beq p t with
  | true =>
   rw [hb] at h
   obtain ⟨y,h1,h2⟩:=eY _ _ h
   exact ⟨y,h1,λ S m v hv=>(h2 S m v hv).ext (Ext.refl S) (MLe.no m)⟩
  | false=>rw [hb] at h; exact xO l t r k h
def aWQ (h:Nat->Option Blk) (b:Bool) (r:AV) (K:AV->List (Nat × Blk)->List Nat->Prop):Prop:=cond b (match r with
 | .agg cs=>qE h cs λ cs ks=>K (.agg cs) (rT ks) ks
 | r=>K r [] []) (K r [] [])
theorem aD1 {h:Nat->Option Blk} {b:Bool} {r:AV} {K:AV->List (Nat × Blk)->List Nat->Prop} (H:aWQ h b r K):∃ y u rd,K y u rd∧(∀ p ∈ u,p.1 ∈ rd) ∧
  ∀ (G:Gh) (kp:List Nat) (st:St) (a:Act) (w:World) (S:Pin) (m:Nm) (v:Value),(∀ k ∈ rd,lk st.heap k=h k)->Rel G kp st a w S m->CV S r m v->∃ S',Rel G kp (st.blks u) a w S' m∧CV S' y m v:=by
 have no:K r [] []->∃ y u rd,K y u rd∧(∀ p ∈ u,p.1 ∈ rd) ∧
  ∀ (G:Gh) (kp:List Nat) (st:St) (a:Act) (w:World) (S:Pin) (m:Nm) (v:Value),(∀ k ∈ rd,lk st.heap k=h k)->Rel G kp st a w S m->CV S r m v->∃ S',Rel G kp (st.blks u) a w S' m∧CV S' y m v :=
  λ h=>⟨r,[],[],h,by simp,λ G kp st a w S m v _ hR hv=>⟨S,hR,hv⟩⟩
 unfold aWQ at H
 cases b with
 | false=>exact no H
 | true =>
  rw [cond_true] at H
  split at H
  ·rename_i cs
   obtain ⟨cs',ks,h1,h2⟩:=qD _ _ H
   refine ⟨.agg cs',rT ks,ks,h1,λ p hp=>qC hp,λ G kp st a w S m v hk hR hv=>?_⟩
   simp only [CV] at hv
   obtain ⟨us,rfl,hus⟩:=hv
   obtain ⟨S',q1,q2,q3⟩:=h2 G kp st a w S m _ hk hR hus
   exact ⟨S',q2,by simp only [CV]; exact ⟨us,rfl,q3⟩⟩
  ·exact no H
def rG (P:Program) (E:Env) (C:Cx) (wf:Bool) (o:Oper) (st:St) (K:AV->List (Nat × Blk)->List Nat->Prop):Prop :=
 cond (cU C.nt o.dst) (match o.op with
  | .load t x=>aD8 P E o.dst t (evO E st x) (lk st.heap) K
  | .store t x v=>(match o.dst with | none=>kG (evO E st v) λ v=>aH9 P t (evO E st x) v (lk st.heap) (λ u rd=>K .undef u rd) | some _=>False)
  | .alloc t=>(match o.dst with | some d=>cond (fresh C.kp st (Nat.add C.fr d)) (aLS P (Nat.add C.fr d) t K) False | none=>False)
  | .box t x=>(match o.dst with | some d=>cond (fresh C.kp st (Nat.add C.fr d)) (kG (evO E st x) λ x=>aXx (Nat.add C.fr d) x K) False | none=>False)
  | .buildSlice t len parts=>(match o.dst with | some d=>cond (fresh C.kp st (Nat.add C.fr d)) (aB1 P (Nat.add C.fr d) t len (parts.toList.map λ p=>(p.1,evO E st p.2)) K) False | none=>False)
  | .makeSlice t l c=>(match o.dst with | some d=>cond (fresh C.kp st (Nat.add C.fr d)) (aIf P (Nat.add C.fr d) t (evO E st l) (evO E st c) K) False | none=>False)
  | .convert t1 t2 x=>cond (aPN P t1&&Nat.beq t1 t2) (aWV P t1 t2 (evO E st x) (lk st.heap) K) (cond (aPN P t1) (aW9 P t1 t2 (lk st.heap) (match o.dst with | some d=>inT d E.shape | none=>false) (evO E st x) λ r rd=>K r [] rd) (cond (aPN P t2) (match o.dst with | some d=>cond (fresh C.kp st (Nat.add C.fr d)) (aWW P (Nat.add C.fr d) t1 t2 (evO E st x) K) False | none=>False) (wY P E C.tys (.convert t1 t2 x) (evO E st) λ r=>K r [] [])))
  | .makeMap t none=>(match o.dst with | some d=>cond (fresh C.kp st (Nat.add C.fr d)) (aWX P (Nat.add C.fr d) t K) False | none=>False)
  | .mapUpdate t mv k x=>(match o.dst with | none=>kG (evO E st x) λ x=>aWS P t (evO E st mv) (evO E st k) x (lk st.heap) (λ u rd=>K .undef u rd) | some _=>False)
  | .lookup t mv k ok=>aW0 P t (evO E st mv) (evO E st k) ok (lk st.heap) λ r rd=>K r [] rd
  | .index t x i=>cond (match o.dst with | some d=>inT d E.shape | none=>false) (aW6 P E o.dst t (evO E st x) (evO E st i) λ r=>K r [] []) (wY P E C.tys (.index t x i) (evO E st) λ r=>K r [] [])
  | .call c=>(match c.callee with
   | .value _=>aPC (wf&&!E.nowf) E C.kp st (Nat.add C.fr (match o.dst with | some d=>d | none=>C.nt)) c (evO E st) K
   | .builtin .append=>(match o.dst with | some d=>aXa P C.kp st (Nat.add C.fr d) c.argTypes.toList (c.args.toList.map (evO E st)) (lk st.heap) K | none=>False)
   | .builtin .copy=>aIx P c.argTypes.toList (c.args.toList.map (evO E st)) (lk st.heap) K
   | .builtin .clear=>aW7 P c.argTypes.toList (c.args.toList.map (evO E st)) (lk st.heap) K
   | .builtin .len=>cond (isMap P c.argTypes.toList) (aPq P c.argTypes.toList (c.args.toList.map (evO E st)) (lk st.heap) λ r rd=>K r [] rd) (wY P E C.tys (.call c) (evO E st) λ r=>K r [] [])
   | _=>wY P E C.tys (.call c) (evO E st) λ r=>K r [] [])
  | .build t parts=>wY P E C.tys (.build t parts) (evO E st) λ r=>aWQ (lk st.heap) (inT t E.bst) r λ r u rd=>stB E.bst t r λ r=>K r u rd
  | op=>wY P E C.tys op (evO E st) λ r=>K r [] []) False
theorem tB {nt:Nat} {o:Oper} {ev:Operand->AV} {h:Nat->Option Blk} {r:AV} (hd:cU nt o.dst=true) (H:PG P o ev r):kU P E nt o ev h r [] [] :=
 yP hd H
theorem rF {C:Cx} {wf:Bool} (hT:TyOK P C.tys) (hS:cF P E) {o:Oper} {K:AV->List (Nat × Blk)->List Nat->Prop} (H:rG P E C wf o st K) :
  ∃ r u rd,((wf=true->wfA r)->K r u rd)∧kU P E C.nt o (evO E st) (lk st.heap) r u rd∧∀ p ∈ u,p.1 ∉ rd->fresh C.kp st p.1=true:=by
 unfold rG at H
 obtain ⟨hd,H⟩:=aW H
 have pure:∀ op,o.op=op->wY P E C.tys op (evO E st) (λ r=>K r [] [])->∃ r u rd,((wf=true->wfA r)->K r u rd)∧kU P E C.nt o (evO E st) (lk st.heap) r u rd∧∀ p ∈ u,p.1 ∉ rd->fresh C.kp st p.1=true:=by
  intro op ho h
  rw [← ho] at h
  obtain ⟨r,h1,h2⟩:=rH hT h
  exact ⟨r,[],[],λ _=>h1,tB hd h2,by simp⟩
 split at H
 ·rename_i t x ho
  obtain ⟨r,rd,h1,h2⟩:=aBW (nt:=C.nt) ho hd H
  exact ⟨r,[],rd,λ _=>h1,h2,by simp⟩
 ·rename_i t x v ho
  split at H
  ·rename_i hdn
   rw [dH] at H
   obtain ⟨u,rd,h1,h3,h2⟩:=zL (E:=E) (nt:=C.nt) ho hdn H
   exact ⟨.undef,u,rd,λ _=>h1,h2,λ p hp hn=>absurd (h3 p hp) hn⟩
  ·exact H.elim
 ·rename_i t ho
  split at H
  ·rename_i d hdd
   obtain ⟨hf,H⟩:=aW H
   obtain ⟨r,b,h1,h2⟩:=zZ (E:=E) (nt:=C.nt) ho hd H
   exact ⟨r,_,_,λ _=>h1,h2,λ p hp _=>by simp at hp; subst hp; exact hf⟩
  ·exact H.elim
 ·rename_i t x ho
  split at H
  ·rename_i d hdd
   obtain ⟨hf,H⟩:=aW H
   rw [dH] at H
   obtain ⟨r,b,h1,h2⟩:=aEe (E:=E) (nt:=C.nt) ho hd H
   exact ⟨r,_,_,λ _=>h1,h2,λ p hp _=>by simp at hp; subst hp; exact hf⟩
  ·exact H.elim
 ·rename_i t len parts ho
  split at H
  ·rename_i d hdd
   obtain ⟨hf,H⟩:=aW H
   obtain ⟨r,b,h1,h2⟩:=xF (E:=E) (nt:=C.nt) ho hd H
   exact ⟨r,_,_,λ _=>h1,h2,λ p hp _=>by simp at hp; subst hp; exact hf⟩
  ·exact H.elim
 ·rename_i t l c ho
  split at H
  ·rename_i d hdd
   obtain ⟨hf,H⟩:=aW H
   obtain ⟨r,b,h1,h2⟩:=zO (E:=E) (nt:=C.nt) ho hd H
   exact ⟨r,_,_,λ _=>h1,h2,λ p hp _=>by simp at hp; subst hp; exact hf⟩
  ·exact H.elim
 ·rename_i t1 t2 x ho
  cases hss:(aPN P t1&&Nat.beq t1 t2) with
  | true =>
  rw [hss] at H
  simp only [cond_true] at H
  obtain ⟨r,u,rd,h1,h3,h2⟩:=aD5 (E:=E) (nt:=C.nt) ho hd H
  exact ⟨r,u,rd,λ _=>h1,h2,λ p hp hn=>absurd (h3 p hp) hn⟩
  | false =>
  rw [hss] at H
  simp only [cond_false] at H
  cases hsl:aPN P t1 with
  | true =>
   rw [hsl] at H
   simp only [cond_true] at H
   obtain ⟨r,rd,h1,h2⟩:=aEg (E:=E) (nt:=C.nt) ho hd H
   exact ⟨r,[],rd,λ _=>h1,h2,by simp⟩
  | false =>
   rw [hsl] at H
   simp only [cond_false] at H
   cases hsl2:aPN P t2 with
   | true =>
    rw [hsl2] at H
    simp only [cond_true] at H
    split at H
    ·rename_i d hdd
     obtain ⟨hf,H⟩:=aW H
     obtain ⟨r,b,h1,h2⟩:=aD6 (E:=E) (nt:=C.nt) ho hd H
     exact ⟨r,_,_,λ _=>h1,h2,λ p hp _=>by simp at hp; subst hp; exact hf⟩
    ·exact H.elim
   | false =>
    rw [hsl2] at H
    simp only [cond_false] at H
    exact pure _ ho H
 ·rename_i t ho
  split at H
  ·rename_i d hdd
   obtain ⟨hf,H⟩:=aW H
   obtain ⟨r,b,h1,h2⟩:=aD7 (E:=E) (nt:=C.nt) ho hd H
   exact ⟨r,_,_,λ _=>h1,h2,λ p hp _=>by simp at hp; subst hp; exact hf⟩
  ·exact H.elim
 ·rename_i t mv k x ho
  split at H
  ·rename_i hdn
   rw [dH] at H
   obtain ⟨u,rd,h1,h3,h2⟩:=aD3 hS.2.2.2.2 (E:=E) (nt:=C.nt) ho hdn H
   exact ⟨.undef,u,rd,λ _=>h1,h2,λ p hp hn=>absurd (h3 p hp) hn⟩
  ·exact H.elim
 ·rename_i t mv k ok ho
  obtain ⟨r,rd,h1,h2⟩:=aD9 hS.2.2.2.2 (E:=E) (nt:=C.nt) ho hd H
  exact ⟨r,[],rd,λ _=>h1,h2,by simp⟩
 ·rename_i t x i ho
  cases hsh:(match o.dst with | some d=>inT d E.shape | none=>false) with
  | true =>
   rw [hsh] at H
   simp only [cond_true] at H
   obtain ⟨r,h1,h2⟩:=aEa ho H
   exact ⟨r,[],[],λ _=>h1,tB hd h2,by simp⟩
  | false =>
   rw [hsh] at H
   simp only [cond_false] at H
   exact pure _ ho H
 ·rename_i c ho
  split at H
  ·obtain ⟨r,u,rd,h1,h2⟩:=aBZ (nt:=C.nt) hS ho hd H
   refine ⟨r,u,rd,λ hw=>h1 (λ hq=>?_),h2⟩
   simp only [aC] at hq
   exact hw hq.1
  ·rename_i hc
   split at H
   ·obtain ⟨r,u,rd,h1,h2,h3⟩:=aEh (E:=E) (nt:=C.nt) ho hc hd H
    exact ⟨r,u,rd,λ _=>h1,h3,h2⟩
   ·exact H.elim
  ·rename_i hc
   obtain ⟨r,u,rd,h1,h2,h3⟩:=zS (E:=E) (nt:=C.nt) ho hc hd H
   exact ⟨r,u,rd,λ _=>h1,h3,h2⟩
  ·rename_i hc
   obtain ⟨r,u,rd,h1,h2,h3⟩:=aEd (E:=E) (nt:=C.nt) ho hc hd H
   exact ⟨r,u,rd,λ _=>h1,h3,h2⟩
  ·rename_i hc
   cases hm:isMap P c.argTypes.toList with
   | true =>
    rw [hm] at H
    simp only [cond_true] at H
    obtain ⟨r,rd,h1,h2⟩:=aBX hS.2.2.2.2 (E:=E) (nt:=C.nt) ho hc hd H
    exact ⟨r,[],rd,λ _=>h1,h2,by simp⟩
   | false =>
    rw [hm] at H
    simp only [cond_false] at H
    exact pure _ ho H
  ·exact pure _ ho H
 ·rename_i t parts ho
  rw [← ho] at H
  obtain ⟨r,h1,h2⟩:=rH hT H
  obtain ⟨y,u,rd,h3,h4,h5⟩:=aD1 h1
  obtain ⟨z,h6,h7⟩:=xO _ _ _ _ h3
  refine ⟨z,u,rd,λ _=>h6,bI hd λ G kp st a w S m hG hR he hk _=>?_,λ p hp hn=>absurd (h4 p hp) hn⟩
  obtain ⟨v,q1,q2⟩:=h2 a w S m he
  obtain ⟨S',q3,q4⟩:=h5 G kp st a w S m v hk hR q2
  exact ⟨v,w,S',m,q1,q3,h7 S' m v q4⟩
 ·exact pure _ rfl H
def aK3:List (Nat × Blk)->List (Nat × Blk)->(List (Nat × Blk)->Prop)->Prop
 | h,[],k=>k h
 | h,(i,b)::u,k=>aBc h i b λ h'=>aK3 h' u k
theorem aDg:∀ (u:List (Nat × Blk)) (st:St) (k:List (Nat × Blk)->Prop),aK3 st.heap u k=k (st.blks u).heap
 | [],st,k=>rfl
 | (i,b)::u,st,k=>by
  simp only [aK3,St.blks]
  rw [eS]
  exact aDg u (st.blk i b) k
theorem mB:∀ (u:List (Nat × Blk)) (st:St),(st.blks u).tmps=st.tmps
 | [],_=>rfl
 | (i,b)::u,st=>by simp only [St.blks]; rw [mB u]; rfl
def rO (st:St) (d:Option Nat) (r:AV) (u:List (Nat × Blk)) (k:St->Prop):Prop :=
 match st with
 | ⟨tm,hp⟩=>aK3 hp u λ h=>match d with
  | some t=>kG r λ r=>aBc tm t r λ l=>k ⟨l,h⟩
  | none=>k ⟨tm,h⟩
theorem oY (st:St) (d:Option Nat) (r:AV) (u:List (Nat × Blk)) (k:St->Prop):rO st d r u k=k (st.upd d r u):=by
 unfold rO St.upd
 obtain ⟨tm,hp⟩:=st
 have hb:=λ k=>aDg u ⟨tm,hp⟩ k
 simp only at hb ⊢
 rw [hb]
 have ht:=mB u ⟨tm,hp⟩
 simp only at ht
 generalize St.blks ⟨tm,hp⟩ u=q at ht ⊢
 obtain ⟨qt,qh⟩:=q
 simp only at ht
 subst ht
 cases d with
 | none=>rfl
 | some t=>simp only [St.put,dH]; rw [eS]
def known (st:St) (t:Nat) (b:Bool) (k:St->Prop):Prop:=match st with | ⟨tm,hp⟩=>aBc tm t (.bool b) λ l=>k ⟨l,hp⟩
def vY (n:Nat) (k:Nat->Prop):Prop:=match n with | 0=>k 0 | m+1=>k (Nat.succ m)
theorem tF (n:Nat) (k:Nat->Prop):vY n k=k n:=by cases n <;> rfl
def aG9 (n:Int) (k:Int->Prop):Prop:=match n with | .ofNat m=>vY m λ m=>k (.ofNat m) | .negSucc m=>vY m λ m=>k (.negSucc m)
theorem aG8 (n:Int) (k:Int->Prop):aG9 n k=k n:=by cases n <;> simp only [aG9,tF]
mutual
def cY:AV->(AV->Prop)->Prop
 | .int k n,c=>aG9 n λ n=>c (.int k n)
 | .bool b,c=>cond b (c (.bool true)) (c (.bool false))
 | .ptr k o,c=>vY o λ o=>c (.ptr k o)
 | .agg cs,c=>nA cs λ cs=>c (.agg cs)
 | .tup cs,c=>nA cs λ cs=>c (.tup cs)
 | .str s,c=>c (.str s)
 | .sl s f xs,c=>c (.sl s f xs)
 | .nils,c=>c .nils
 | .ro cs,c=>c (.ro cs)
 | .nilp,c=>c .nilp
 | .fn f cs,c=>c (.fn f cs)
 | .acc k s xs,c=>c (.acc k s xs)
 | .ms k o n d s,c=>c (.ms k o n d s)
 | .rw k s n,c=>c (.rw k s n)
 | .mw k s q o n d,c=>c (.mw k s q o n d)
 | .prw k s q j o,c=>c (.prw k s q j o)
 | .frz k s n xs,c=>c (.frz k s n xs)
 | .mpv k,c=>c (.mpv k)
 | .undef,c=>c .undef
 | .dead,c=>c .dead
def nA:List AV->(List AV->Prop)->Prop
 | [],c=>c []
 | x::xs,c=>cY x λ x=>nA xs λ xs=>c (x::xs)
end
mutual
theorem yW:∀ (x:AV) (c:AV->Prop),cY x c=c x
 | .int k n,c=>by simp only [cY,aG8]
 | .bool b,c=>by cases b <;> simp only [cY,cond_true,cond_false]
 | .ptr k o,c=>by simp only [cY,tF]
 | .agg cs,c=>by simp only [cY]; exact mZ cs _
 | .tup cs,c=>by simp only [cY]; exact mZ cs _
 | .str s,c=>by simp only [cY]
 | .sl s f xs,c=>by simp only [cY]
 | .nils,c=>by simp only [cY]
 | .ro cs,c=>by simp only [cY]
 | .nilp,c=>by simp only [cY]
 | .fn f cs,c=>by simp only [cY]
 | .acc k s xs,c=>by simp only [cY]
 | .ms k o n d s,c=>by simp only [cY]
 | .rw k s n,c=>by simp only [cY]
 | .mw k s q o n d,c=>by simp only [cY]
 | .prw k s q j o,c=>by simp only [cY]
 | .frz k s n xs,c=>by simp only [cY]
 | .mpv k,c=>by simp only [cY]
 | .undef,c=>by simp only [cY]
 | .dead,c=>by simp only [cY]
theorem mZ:∀ (xs:List AV) (c:List AV->Prop),nA xs c=c xs
 | [],c=>by simp only [nA]
 | x::xs,c=>by simp only [nA]; rw [yW x]; exact mZ xs _
end
def aLG:Op->Bool
 | .move _=>true
 | .assign _=>true
 | .call _=>true
 | _=>false
def kF (e:Bool) (o:Op) (x:AV) (c:AV->Prop):Prop:=cond (e&&!aLG o) (cY x c) (c x)
theorem yV (e:Bool) (o:Op) (x:AV) (c:AV->Prop):kF e o x c=c x:=by
 unfold kF
 cases (e&&!aLG o) with
 | true=>exact yW x c
 | false=>rfl
def aCZ {β:Type}:List (Nat × AV)->(List (Nat × AV)->Prop)->Prop
 | [],k=>k []
 | (t,y)::l,k=>kG y λ y=>aCZ (β:=β) l λ l=>k ((t,y)::l)
theorem yT {β:Type}:∀ (l:List (Nat × AV)) (k:List (Nat × AV)->Prop),aCZ (β:=β) l k=k l
 | [],k=>rfl
 | (t,y)::l,k=>by simp only [aCZ,dH]; exact yT l _
def wA:List Nat->(List Nat->Prop)->Prop
 | [],k=>k []
 | j::l,k=>wA l λ l'=>k (j::l')
theorem tH:∀ (l:List Nat) (k:List Nat->Prop),wA l k=k l
 | [],k=>rfl
 | j::l,k=>by simp only [wA]; exact tH l _
def aHb:Blk->(Blk->Prop)->Prop
 | .cells cs,k=>k (.cells cs)
 | .tok e s n,k=>k (.tok e s n)
 | .row e s xs,k=>fcL (Nat.ble 2000000 e) xs λ xs=>k (.row e s xs)
 | .mp a b l,k=>k (.mp a b l)
 | .nrow e s ks xs,k=>wA ks λ ks=>k (.nrow e s ks xs)
 | .gone,k=>k .gone
theorem aHa (b:Blk) (k:Blk->Prop):aHb b k=k b:=by cases b <;> simp only [aHb,aLK,tH]
def aC0 {β:Type}:List (Nat × Blk)->(List (Nat × Blk)->Prop)->Prop
 | [],k=>k []
 | (t,y)::l,k=>aHb y λ y=>aC0 (β:=β) l λ l=>k ((t,y)::l)
theorem yU {β:Type}:∀ (l:List (Nat × Blk)) (k:List (Nat × Blk)->Prop),aC0 (β:=β) l k=k l
 | [],k=>rfl
 | (t,y)::l,k=>by simp only [aC0,aHa]; exact yU l _
def nW (st:St) (k:St->Prop):Prop:=match st with | ⟨tm,hp⟩=>aCZ (β:=Unit) tm λ tm=>aC0 (β:=Unit) hp λ hp=>k ⟨tm,hp⟩
theorem gO (st:St) (k:St->Prop):nW st k=k st:=by unfold nW; obtain ⟨tm,hp⟩:=st; simp only; rw [yT,yU]
def aCO:Option Blk->Bool
 | some (.row _ _ _)=>true
 | _=>false
def aGX (kp:List Nat):List Nat->St->(St->Prop)->Prop
 | [],st,K=>K st
 | k::l,st,K=>cond (Nat.ble 2000000 k) (cond (Nat.ble 4000000 k) (cond (Nat.ble 8000000 k) (aV2 st (Nat.sub k 8000000) λ st=>aGX kp l st K) (aNf st (Nat.sub k 4000000) λ st=>aGX kp l st K)) (aDc st (Nat.sub k 2000000) λ st=>aGX kp l st K)) (cond (aCO (lk st.heap k)) (aDc st k λ st=>aPQ kp st k λ st'=>nW st' λ st'=>aGX kp l st' K) (aGX kp l st K))
theorem cD:∀ (l:List Nat) (st:St) (S:Pin) (m:Nm) (K:St->Prop),aGX kp l st K->Rel G kp st a w S m->∃ st' S' m',K st'∧Rel G kp st' a w S' m'
 | [],st,S,m,K,H,h=>⟨st,S,m,H,h⟩
 | k::l,st,S,m,K,H,h=>by
  simp only [aGX] at H
  cases hc:Nat.ble 2000000 k with
  | true =>
   rw [hc] at H
   simp only [cond_true] at H
   cases hc4:Nat.ble 4000000 k with
   | true =>
    rw [hc4] at H
    simp only [cond_true] at H
    cases hc8:Nat.ble 8000000 k with
    | true =>
     rw [hc8] at H
     simp only [cond_true] at H
     obtain ⟨st0,H0,h0⟩:=aDN h H
     exact cD l st0 S m K H0 h0
    | false =>
     rw [hc8] at H
     simp only [cond_false] at H
     obtain ⟨st0,H0,h0⟩:=aAR h H
     exact cD l st0 S m K H0 h0
   | false =>
    rw [hc4] at H
    simp only [cond_false] at H
    obtain ⟨st0,H0,h0⟩:=oB h H
    exact cD l st0 S m K H0 h0
  | false =>
  rw [hc] at H
  simp only [cond_false] at H
  cases hb:aCO (lk st.heap k) with
  | true =>
   rw [hb] at H
   simp only [cond_true] at H
   obtain ⟨st0,H0,h0⟩:=oB h H
   obtain ⟨st',S',m',h1,h2⟩:=tD h0 H0
   rw [gO] at h1
   exact cD l st' S' m' K h1 h2
  | false =>
   rw [hb] at H
   simp only [cond_false] at H
   exact cD l st S m K H h
def aUE:List AV->List Nat
 | []=>[]
 | .rw k _ _::l=>k::aUE l
 | _::l=>aUE l
def aXI (E:Env) (st:St) (o:Oper):List Nat:=match o.op with
 | .build t parts=>cond (inT t E.bst) (aUE (parts.toList.map λ p=>evO E st p.2)) []
 | .call c=>(match c.callee with
  | .value f=>(match evO E st f with
   | .fn g _=>(match E.spec g with | some _=>aUE (c.args.toList.map (evO E st)) | none=>[])
   | _=>[])
  | _=>[])
 | _=>[]
def aV1 (P:Program) (E:Env) (st:St) (o:Oper):Option (LL):=cond E.nq (match o.op with
 | .binOp .eql t x y _=>(match P.underlying t,evO E st x,evO E st y with
  | some (.slice _),.sl _ _ xs,.nils=>some xs
  | _,_,_=>none)
 | _=>none) none
theorem aDM {o:Oper} {xs:LL} (h:aV1 P E st o=some xs) (hG:GOK E G.S0) (hR:Rel G kp st a w S m) :
  ∃ b:Bool,(execOp a.eval o).run P w=.ok (.value (.bool b)) w∧(b=true->xs=[]):=by
 unfold aV1 at h
 cases hq:E.nq with
 | false=>rw [hq] at h; cases h
 | true =>
  rw [hq] at h
  simp only [cond_true] at h
  split at h
  ·rename_i t x y yt ho
   split at h
   ·rename_i e s f ys hu hx hy
    simp only [aJ] at h
    subst h
    have cx:=nY (E:=E) hG hR x
    have cy:=nY (E:=E) hG hR y
    rw [hx] at cx
    rw [hy] at cy
    simp only [CV] at cx cy
    obtain ⟨A,c,ex,h1,h2,h3,h4,h5⟩:=cx
    refine ⟨A.isNone,?_,λ hb=>?_⟩
    ·have e1:(binOp .eql t (a.eval x) (a.eval y)).run P w=.ok (.bool A.isNone) w:=by
      rw [ex,cy]; exact Lib.run_eql_slice_nil w t e A ys.length c 0 0 hu
     have e2:(eqGuard .eql t x y (a.eval x) (a.eval y)).run P w=.ok () w:=by
      rw [ex,cy]; rfl
     simp [execOp,ho,e1,e2]
    ·have:A=none:=by cases A <;> first | rfl | cases hb
     have:=h4 this
     exact List.eq_nil_of_length_eq_zero (by omega)
   ·cases h
  ·cases h
def aBP (P:Program) (E:Env) (C:Cx) (ops:Array Oper):List Oper->St->(St->Prop)->Prop
 | [],st,k=>k st
 | o::rest,st,k=>match o.guard with
  | none=>match aV1 P E st o with
   | some xs=>cond (cU C.nt o.dst) ((xs=[]->rO st o.dst (.bool true) [] λ st'=>aBP P E C ops rest st' k)∧rO st o.dst (.bool false) [] λ st'=>aBP P E C ops rest st' k) False
   | none=>aGX C.kp (aXI E st o) st λ st=>rG P E C true o st λ r u _=>kF E.eager o.op r λ r=>rO st o.dst r u λ st'=>aBP P E C ops rest st' k
  | some (j,want)=>(match (ops[j]?).bind (·.dst) with
   | some t=>(match st.get t with
    | .bool c=>cond c
      (known st t true λ st=>cond want (rG P E C true o st λ r u _=>kF E.eager o.op r λ r=>rO st o.dst r u λ st'=>aBP P E C ops rest st' k) (cond (cU C.nt o.dst) (rO st o.dst .undef [] λ st'=>aBP P E C ops rest st' k) False))
      (known st t false λ st=>cond want (cond (cU C.nt o.dst) (rO st o.dst .undef [] λ st'=>aBP P E C ops rest st' k) False) (rG P E C true o st λ r u _=>kF E.eager o.op r λ r=>rO st o.dst r u λ st'=>aBP P E C ops rest st' k))
    | .undef=>cond (cU C.nt o.dst) (rO st o.dst .undef [] λ st'=>aBP P E C ops rest st' k) False
    | _=>False)
   | none=>False)
theorem tA (h:Rel G kp st a w S m) {t:Nat} {c:Bool} (e:st.get t=.bool c):a.tmps[t]?=some (.bool c):=by
 have:=h.tmps t
 rw [e] at this
 simp only [CV,Array.getD_eq_getD_getElem?] at this
 cases hq:a.tmps[t]? with
 | none=>rw [hq] at this; simp [undef] at this
 | some v=>rw [hq] at this; simp at this; rw [this]
theorem pZ (h:Rel G kp st a w S m) {t:Nat} (e:st.get t=.undef):∀ b,a.tmps[t]?≠some (.bool b):=by
 intro b hb
 have:=h.tmps t
 rw [e] at this
 simp only [CV,Array.getD_eq_getD_getElem?,hb] at this
 simp [undef] at this
theorem Rel.known (h:Rel G kp st a w S m) {t:Nat} {c:Bool} (e:st.get t=.bool c):Rel G kp (st.put t (.bool c)) a w S m:=by
 refine h.weaken (λ q v hv=>?_) (λ k b hk=>⟨⟨b,hk⟩,h.held k b hk⟩)
 rw [St.get_put]
 by_cases hq:q=t
 ·subst hq; rw [if_pos rfl,← e]; exact hv
 ·rw [if_neg hq]; exact hv
theorem oT (st:St) (t:Nat) (b:Bool) (k:St->Prop):known st t b k=k (st.put t (.bool b)):=by
 unfold known St.put; obtain ⟨tm,hp⟩:=st; simp only; rw [eS]
theorem dY (a:Act) (d:Option Nat) (v:Value):(a.put d v).tmps.size=a.tmps.size:=by
 cases d <;> simp [Act.put]
theorem xL (h:Rel G kp st a w S m) {d:Option Nat} (hd:cU a.tmps.size d=true):Rel G kp (st.upd d .undef []) (a.put d undef) w S m:=by
 cases d with
 | none=>exact h
 | some t=>exact h.put (by simp only [CV]) (aK hd)
theorem eU {C:Cx} (hT:TyOK P C.tys) (hS:cF P E) {ops:Array Oper} {Q:Exit->Act->World->Prop} (hG:GOK E G.S0) :
  ∀ (l:List Oper) (st:St) (k:St->Prop),aBP P E C ops l st k->∀ (a:Act) (w:World) (S:Pin) (m:Nm),Rel G C.kp st a w S m->a.tmps.size=C.nt ->
   (∀ st' a' w' S' m',k st'->Rel G C.kp st' a' w' S' m'->a'.tmps.size=C.nt->Q .normal a' w')->wpList P ops Q l a w
 | [],st,k,h,a,w,S,m,hR,hn,hQ=>hQ st a w S m h hR hn
 | o::rest,st,k,h,a,w,S,m,hR,hn,hQ=>by
  have ex:∀ (st:St) {S:Pin} {m:Nm},rG P E C true o st (λ r u _=>kF E.eager o.op r λ r=>rO st o.dst r u λ st'=>aBP P E C ops rest st' k)->Rel G C.kp st a w S m->o.wp P a w (wpList P ops Q rest) Q:=by
   intro st S m h hR
   obtain ⟨r,u,rd,h1,h2,h3⟩:=rF hT hS h
   refine h2 G C.kp st a w S m _ Q hG hR hn (λ _ _=>rfl) (λ _ _=>rfl) h3 (λ v w' S' m' hw hR'=>?_)
   have:=h1 (λ _=>hw)
   rw [yV,oY] at this
   exact eU hT hS hG rest _ k this _ _ _ _ hR' (by rw [dY]; exact hn) hQ
  have sk:∀ (st:St),cond (cU C.nt o.dst) (rO st o.dst .undef [] λ st'=>aBP P E C ops rest st' k) False->Rel G C.kp st a w S m->wpList P ops Q rest (a.put o.dst undef) w:=by
   intro st h hR
   obtain ⟨hd,h⟩:=aW h
   rw [oY] at h
   exact eU hT hS hG rest _ k h _ _ _ _ (xL hR (by rw [hn]; exact hd)) (by rw [dY]; exact hn) hQ
  unfold wpList
  simp only [aBP] at h
  split at h
  ·rename_i hg
   rw [if_pos (by simp [Region.wanted,hg])]
   split at h
   ·rename_i xs hx
    obtain ⟨hd,h⟩:=aW h
    obtain ⟨b,hrun,hb⟩:=aDM hx hG hR
    refine .inl ?_
    unfold Oper.wp
    rw [hrun]
    have go:rO st o.dst (.bool b) [] (λ st'=>aBP P E C ops rest st' k)->wpList P ops Q rest (a.put o.dst (.bool b)) w:=by
     intro h
     rw [oY] at h
     refine eU hT hS hG rest _ k h _ _ S m ?_ (by rw [dY]; exact hn) hQ
     unfold St.upd
     cases e:o.dst with
     | none=>exact hR
     | some d=>exact hR.put (by simp only [CV]) (by rw [hn]; rw [e] at hd; exact aK hd)
    cases b with
    | true=>exact go (h.1 (hb rfl))
    | false=>exact go h.2
   ·obtain ⟨st2,S2,m2,h,hR2⟩:=cD _ _ S m _ h hR
    exact .inl (ex st2 h hR2)
  ·rename_i j want hg
   split at h
   ·rename_i t ht
    split at h
    ·rename_i c hc
     have hs:=tA hR hc
     have hy:yielded ops a.tmps j=some c:=by simp only [yielded,ht,Option.bind_some,hs]
     have hR':=hR.known hc
     cases c with
     | true =>
      simp only [cond_true] at h
      rw [oT] at h
      cases want with
      | true=>rw [if_pos (by simp [Region.wanted,hg,hy])]; exact .inl (ex _ h hR')
      | false=>rw [if_neg (by simp [Region.wanted,hg,hy])]; exact sk _ h hR'
     | false =>
      simp only [cond_false] at h
      rw [oT] at h
      cases want with
      | true=>rw [if_neg (by simp [Region.wanted,hg,hy])]; exact sk _ h hR'
      | false=>rw [if_pos (by simp [Region.wanted,hg,hy])]; exact .inl (ex _ h hR')
    ·rename_i hc
     have hs:=pZ hR hc
     have hy:yielded ops a.tmps j=none:=by
      unfold yielded
      rw [ht]
      simp only [Option.bind_some]
     rw [if_neg (by simp [Region.wanted,hg,hy])]
     exact sk _ h hR
    ·exact h.elim
   ·exact h.elim
open Go.RowKit (Below)
mutual
def le:AV->AV->Prop
 | _,.dead=>True
 | .int k a,.int k' b=>cond (decide (k=k')) (a=b) False
 | .bool a,.bool b=>a=b
 | .str a,.str b=>a=b
 | .agg xs,.agg ys=>leL xs ys
 | .tup xs,.tup ys=>leL xs ys
 | .fn f xs,.fn g ys=>cond (Nat.beq f g) (leL xs ys) False
 | .nils,.nils=>True
 | .nils,.sl _ _ xs=>xs=[]
 | .sl s f xs,.sl s' f' ys=>cond (Nat.beq s s') (cond f' (f=true) True∧xs=ys) False
 | .acc _ s xs,.sl s' f' ys=>cond (Nat.beq s s'&&!f') (xs=ys) False
 | .acc k s xs,.acc k' s' ys=>cond (Nat.beq k k'&&Nat.beq s s') (xs=ys) False
 | .ro xs,.ro ys=>xs=ys
 | .nilp,.nilp=>True
 | .ptr k a,.ptr k' b=>cond (Nat.beq k k') (a=b) False
 | .ms k a b c d,.ms k' a' b' c' d'=>cond (Nat.beq k k'&&Nat.beq d d') (a=a'∧b=b'∧c=c') False
 | .rw k s n,.rw k' s' n'=>cond (Nat.beq k k'&&Nat.beq s s') (n=n') False
 | .mw k s q o n f,.mw k' s' q' o' n' f'=>cond (Nat.beq k k'&&Nat.beq s s') (q=q'∧o=o'∧n=n'∧cond f' (f=true) True) False
 | .prw k s q j o,.prw k' s' q' j' o'=>cond (Nat.beq k k'&&Nat.beq s s') (q=q'∧j=j'∧o=o') False
 | .frz k s n xs,.frz k' s' n' ys=>cond (Nat.beq k k'&&Nat.beq s s') (n=n'∧xs=ys) False
 | .frz _ s n xs,.sl s' f' ys=>cond (Nat.beq s s'&&!f') (n=xs.length∧xs=ys) False
 | .mpv k,.mpv k'=>cond (Nat.beq k k') True False
 | .undef,.undef=>True
 | _,_=>False
def leL:List AV->List AV->Prop
 | [],[]=>True
 | x::xs,y::ys=>le x y∧leL xs ys
 | _,_=>False
end
mutual
theorem fP {S:Pin}:∀ (x y:AV) (m:Nm) (v:Value),le x y->CV S x m v->CV S y m v:=by
 intro x y m v h hv
 unfold le at h
 split at h
 ·simp only [CV]
 ·obtain ⟨hk,h2⟩:=aW h
  have hk:=of_decide_eq_true hk
  subst hk; subst h2; exact hv
 ·subst h; exact hv
 ·subst h; exact hv
 ·simp only [CV] at hv ⊢
  obtain ⟨us,e,hu⟩:=hv
  exact ⟨us,e,jA _ _ m _ h hu⟩
 ·simp only [CV] at hv ⊢
  obtain ⟨us,e,hu⟩:=hv
  exact ⟨us,e,jA _ _ m _ h hu⟩
 ·obtain ⟨hf,h2⟩:=aW h
  have hf:=aA hf
  subst hf
  simp only [CV] at hv ⊢
  obtain ⟨us,e,hu⟩:=hv
  exact ⟨us,e,jA _ _ m _ h2 hu⟩
 ·exact hv
 ·subst h
  simp only [CV] at hv ⊢
  subst hv
  exact ⟨none,0,rfl,Nat.le_refl _,by unfold maxLen; omega,λ _=>rfl,λ _=>rfl,λ a e=>by cases e⟩
 ·rename_i s f xs s' f' ys
  obtain ⟨hs,h2⟩:=aW h
  have hs:=aA hs
  obtain ⟨hf,h3⟩:=h2
  subst hs; subst h3
  simp only [CV] at hv ⊢
  obtain ⟨A,c,e,p1,p2,p3,p4,p5⟩:=hv
  exact ⟨A,c,e,p1,p2,(λ q=>by subst q; exact p3 hf),p4,p5⟩
 ·rename_i k s xs s' f' ys
  obtain ⟨hs,h2⟩:=aW h
  simp only [aC,Bool.not_eq_true'] at hs
  have hs1:=aA hs.1
  subst hs1; subst h2
  simp only [CV] at hv ⊢
  obtain ⟨⟨A,c,e,p1,p2,p3,p4⟩,_⟩:=hv
  exact ⟨A,c,e,p1,p2,(λ q=>by rw [hs.2] at q; cases q),p3,p4⟩
 ·rename_i k s xs k' s' ys
  obtain ⟨hs,h2⟩:=aW h
  simp only [aC] at hs
  have hs1:=aA hs.1
  have hs2:=aA hs.2
  subst hs1; subst hs2; subst h2; exact hv
 ·subst h; exact hv
 ·exact hv
 ·rename_i k a k' b
  obtain ⟨hk,h2⟩:=aW h
  have hk:=aA hk
  subst hk; subst h2; exact hv
 ·rename_i k a b c d k' a' b' c' d'
  obtain ⟨hs,h2⟩:=aW h
  simp only [aC] at hs
  have hs1:=aA hs.1
  have hs2:=aA hs.2
  obtain ⟨e1,e2,e3⟩:=h2
  subst hs1; subst hs2; subst e1; subst e2; subst e3; exact hv
 ·obtain ⟨hs,h2⟩:=aW h
  simp only [aC] at hs
  have hs1:=aA hs.1
  have hs2:=aA hs.2
  subst hs1; subst hs2; subst h2; exact hv
 ·rename_i k s q o n f k' s' q' o' n' f'
  obtain ⟨hs,h2⟩:=aW h
  simp only [aC] at hs
  have hs1:=aA hs.1
  have hs2:=aA hs.2
  obtain ⟨e0,e1,e2,e3⟩:=h2
  subst hs1; subst hs2; subst e0; subst e1; subst e2
  simp only [CV] at hv ⊢
  obtain ⟨A,c,p1,p2,p3,p4,p5,p6,p7⟩:=hv
  exact ⟨A,c,p1,p2,p3,p4,p5,(λ q=>by subst q; exact p6 e3),p7⟩
 ·obtain ⟨hs,h2⟩:=aW h
  simp only [aC] at hs
  have hs1:=aA hs.1
  have hs2:=aA hs.2
  obtain ⟨e0,e1,e2⟩:=h2
  subst hs1; subst hs2; subst e0; subst e1; subst e2; exact hv
 ·obtain ⟨hs,h2⟩:=aW h
  simp only [aC] at hs
  have hs1:=aA hs.1
  have hs2:=aA hs.2
  obtain ⟨e1,e2⟩:=h2
  subst hs1; subst hs2; subst e1; subst e2; exact hv
 ·obtain ⟨hs,h2⟩:=aW h
  simp only [aC,Bool.not_eq_true'] at hs
  have hs1:=aA hs.1
  obtain ⟨e1,e2⟩:=h2
  subst hs1; subst e2
  simp only [CV] at hv ⊢
  obtain ⟨⟨A,c,e,p1,p2,p3,p4⟩,_⟩:=hv.2 e1
  exact ⟨A,c,e,p1,p2,(λ q=>by rw [hs.2] at q; cases q),p3,p4⟩
 ·obtain ⟨hk,_⟩:=aW h
  have hk:=aA hk
  subst hk; exact hv
 ·exact hv
 ·exact h.elim
theorem jA {S:Pin}:∀ (xs ys:List AV) (m:Nm) (vs:List Value),leL xs ys->CVl S xs m vs->CVl S ys m vs
 | [],[],m,vs,h,hv=>hv
 | x::xs,y::ys,m,vs,h,hv=>by
  simp only [leL] at h
  simp only [CVl] at hv ⊢
  obtain ⟨u,us,e,h1,h2⟩:=hv
  exact ⟨u,us,e,fP x y m u h.1 h1,jA xs ys m us h.2 h2⟩
 | [],_::_,m,vs,h,hv=>by simp [leL] at h
 | _::_,[],m,vs,h,hv=>by simp [leL] at h
end
open Go.RowKit (Below)
variable {P:Program} {S:Pin} {m:Nm} {w:World} {a:Act} {G:Gh} {kp:List Nat} {st:St} {E:Env} {C:Cx}
structure Lg where
 r:AV
 u:List (Nat × Blk)
 rd:List Nat
 ex:Bool
def oH (P:Program) (E:Env) (C:Cx) (ops:Array Oper):List Oper->St->List Lg->(St->List Lg->Prop)->Prop
 | [],st,lg,k=>k st lg
 | o::rest,st,lg,k=>match o.guard with
  | none=>rG P E C false o st λ r u rd=>kF E.eager o.op r λ r=>rO st o.dst r u λ st'=>oH P E C ops rest st' (lg++[⟨r,u,rd,true⟩]) k
  | some (j,want)=>(match (ops[j]?).bind (·.dst) with
   | some t=>(match st.get t with
    | .bool c=>cond c
      (known st t true λ st=>cond want (rG P E C false o st λ r u rd=>kF E.eager o.op r λ r=>rO st o.dst r u λ st'=>oH P E C ops rest st' (lg++[⟨r,u,rd,true⟩]) k) (cond (cU C.nt o.dst) (rO st o.dst .undef [] λ st'=>oH P E C ops rest st' (lg++[⟨.undef,[],[],false⟩]) k) False))
      (known st t false λ st=>cond want (cond (cU C.nt o.dst) (rO st o.dst .undef [] λ st'=>oH P E C ops rest st' (lg++[⟨.undef,[],[],false⟩]) k) False) (rG P E C false o st λ r u rd=>kF E.eager o.op r λ r=>rO st o.dst r u λ st'=>oH P E C ops rest st' (lg++[⟨r,u,rd,true⟩]) k))
    | .undef=>cond (cU C.nt o.dst) (rO st o.dst .undef [] λ st'=>oH P E C ops rest st' (lg++[⟨.undef,[],[],false⟩]) k) False
    | _=>False)
   | none=>False)
def nR:List Operand->List Nat
 | []=>[]
 | .tmp t::l=>t::nR l
 | _::l=>nR l
def tmR (ops:Array Oper) (o:Oper):List Nat :=
 match o.guard with
 | some (j,_)=>(match (ops[j]?).bind (·.dst) with | some t=>t::nR o.op.operands.toList | none=>nR o.op.operands.toList)
 | none=>nR o.op.operands.toList
def tmW (o:Oper):List Nat:=match o.dst with | some d=>[d] | none=>[]
def fH:List (Nat × Blk)->List Nat
 | []=>[]
 | (k,_)::l=>k::fH l
def meets (l l':List Nat):Bool:=match l with | []=>false | x::xs=>inL x l'||meets xs l'
def nD (ops:Array Oper) (o o':Oper) (g g':Lg):Bool :=
 meets (tmW o) (tmR ops o')||meets (tmW o) (tmW o')||meets (tmR ops o) (tmW o')||meets (fH g.u) g'.rd||meets (fH g.u) (fH g'.u)||meets g.rd (fH g'.u)
def mF (acc:List (List Nat)):List Edge->List Nat
 | []=>[]
 | e::l=>cond (Region.binds .any e) (e.on::(acc.getD e.on []++mF acc l)) (mF acc l)
def jJ:List Oper->List (List Nat)->List (List Nat)
 | [],acc=>acc
 | o::rest,acc=>jJ rest (acc++[mF acc o.after.toList])
def zK:List Oper->Nat->Bool
 | [],_=>true
 | o::rest,i=>o.after.toList.all (λ e=>!(Region.binds .any e)||Nat.blt e.on i)&&zK rest (i+1)
def nnU (k:Nat):List (Nat × Blk)->Bool
 | []=>true
 | (j,b)::l=>(Nat.beq j k||nnB k b)&&nnU k l
def newOk (g g':Lg):Bool:=g.u.all λ p=>inL p.1 g.rd||(nn p.1 g'.r&&nnU p.1 g'.u)
def aAM (ops:Array Oper) (l:List (Nat × Oper × Lg × List Nat)):Bool :=
 l.all λ (i,o,g,a)=>l.all λ (j,o',g',a')=>Nat.beq i j||(
  (Nat.ble j i||inL i a'||(!(nD ops o o' g g')&&newOk g g'&&newOk g' g))&&(inL i a'||newOk g g'))
def rN:Nat->List Oper->List Lg->List (List Nat)->List (Nat × Oper × Lg × List Nat)
 | i,o::os,g::gs,a::az=>(i,o,g,a)::rN (i+1) os gs az
 | _,_,_,_=>[]
def jV (kp:List Nat) (st:St):List Lg->Bool
 | []=>true
 | g::gs=>(g.u.all λ p=>inL p.1 g.rd||fresh kp st p.1)&&jV kp st gs
def aFC (kp:List Nat) (st:St) (ops:Array Oper) (lg:List Lg):Bool :=
 zK ops.toList 0&&Nat.beq lg.length ops.size&&jV kp st lg&&aAM ops (rN 0 ops.toList lg (jJ ops.toList []))
def rD (k:Nat):Nat:=Nat.shiftLeft 1 k
def pR:List Nat->Nat
 | []=>0
 | x::l=>Nat.lor (rD x) (pR l)
def kD (a b:Nat):Bool:=Nat.beq (Nat.land a b) 0
theorem rC (k:Nat):(rD k).testBit k=true:=by
 show (1 <<< k).testBit k=true
 simp [Nat.testBit_shiftLeft]
theorem fD (a b k:Nat):(Nat.lor a b).testBit k=(a.testBit k||b.testBit k):=Nat.testBit_or a b k
theorem lR {k:Nat}:∀ {l:List Nat},k ∈ l->(pR l).testBit k=true
 | [],h=>by cases h
 | x::l,h=>by
  simp only [pR,fD,Bool.or_eq_true]
  rcases List.mem_cons.1 h with h | h
  ·subst h; exact .inl (rC k)
  ·exact .inr (lR h)
theorem rI {a b k:Nat} (h:kD a b=true) (ha:a.testBit k=true):b.testBit k=false:=by
 have h:=aA h
 have h1:(Nat.land a b).testBit k=(a.testBit k&&b.testBit k):=Nat.testBit_and a b k
 rw [h,ha] at h1
 simpa using h1.symm
theorem dV {l l':List Nat} (h:kD (pR l) (pR l')=true):meets l l'=false:=by
 have key:∀ l1:List Nat,(∀ k ∈ l1,k ∈ l)->meets l1 l'=false:=by
  intro l1
  induction l1 with
  | nil=>intro _; rfl
  | cons x xs ih =>
   intro hs
   simp only [meets,Bool.or_eq_false_iff]
   refine ⟨?_,ih λ k hk=>hs k (aN _ hk)⟩
   cases hx:inL x l' with
   | false=>rfl
   | true =>
    have h1:=rI h (lR (hs x (aO ..)))
    have:x ∈ l':=by
     clear h1 ih hs h
     induction l' with
     | nil=>simp [inL] at hx
     | cons j l ih =>
      simp only [inL,Bool.or_eq_true] at hx
      rcases hx with hx | hx
      ·have:=aA hx; subst this; exact aO ..
      ·exact aN _ (ih hx)
    rw [lR this] at h1
    cases h1
 exact key l λ _ h=>h
mutual
def aAc:AV->Nat
 | .agg cs=>aLu cs
 | .tup cs=>aLu cs
 | .fn _ cs=>aLu cs
 | .ptr j _=>rD j
 | .acc j _ _=>rD j
 | .ms j _ _ _ _=>rD j
 | .rw j _ _=>rD j
 | .mw j _ _ _ _ _=>rD j
 | .prw j _ _ _ _=>rD j
 | .frz j _ _ _=>rD j
 | .mpv j=>rD j
 | _=>0
def aLu:List AV->Nat
 | []=>0
 | x::xs=>Nat.lor (aAc x) (aLu xs)
end
theorem jI {j k:Nat} (h:(rD j).testBit k=false):(!(Nat.beq j k))=true:=by
 cases hb:Nat.beq j k with
 | false=>rfl
 | true =>
  have:=aA hb
  subst this
  rw [rC] at h; cases h
mutual
theorem aAT {k:Nat}:∀ (x:AV),(aAc x).testBit k=false->nn k x=true
 | .agg cs,h=>by simp only [aAc] at h; simp only [nn]; exact mP cs h
 | .tup cs,h=>by simp only [aAc] at h; simp only [nn]; exact mP cs h
 | .fn _ cs,h=>by simp only [aAc] at h; simp only [nn]; exact mP cs h
 | .ptr j _,h=>by simp only [aAc] at h; simp only [nn]; exact jI h
 | .acc j _ _,h=>by simp only [aAc] at h; simp only [nn]; exact jI h
 | .ms j _ _ _ _,h=>by simp only [aAc] at h; simp only [nn]; exact jI h
 | .rw j _ _,h=>by simp only [aAc] at h; simp only [nn]; exact jI h
 | .mw j _ _ _ _ _,h=>by simp only [aAc] at h; simp only [nn]; exact jI h
 | .prw j _ _ _ _,h=>by simp only [aAc] at h; simp only [nn]; exact jI h
 | .frz j _ _ _,h=>by simp only [aAc] at h; simp only [nn]; exact jI h
 | .mpv j,h=>by simp only [aAc] at h; simp only [nn]; exact jI h
 | .int _ _,_=>by simp only [nn]
 | .bool _,_=>by simp only [nn]
 | .str _,_=>by simp only [nn]
 | .sl _ _ _,_=>by simp only [nn]
 | .nils,_=>by simp only [nn]
 | .ro _,_=>by simp only [nn]
 | .nilp,_=>by simp only [nn]
 | .undef,_=>by simp only [nn]
 | .dead,_=>by simp only [nn]
theorem mP {k:Nat}:∀ (xs:List AV),(aLu xs).testBit k=false->nnl k xs=true
 | [],_=>by simp only [nnl]
 | x::xs,h=>by
  simp only [aLu,fD,Bool.or_eq_false_iff] at h
  simp only [nnl,aC]
  exact ⟨aAT x h.1,mP xs h.2⟩
end
def aJ5:LL->Nat
 | []=>0
 | x::l=>Nat.lor (aLu x) (aJ5 l)
theorem aCy {k:Nat}:∀ (xs:LL),(aJ5 xs).testBit k=false->nnll k xs=true
 | [],_=>rfl
 | x::xs,h=>by
  simp only [aJ5,fD,Bool.or_eq_false_iff] at h
  simp only [nnll,aC]
  exact ⟨mP x h.1,aCy xs h.2⟩
def aUO:List Nat->Nat
 | []=>0
 | k::l=>Nat.lor (rD k) (aUO l)
def aVZ:Blk->Nat
 | .cells cs=>aLu cs
 | .row e _ xs=>cond (Nat.blt e 2000000) 0 (aJ5 xs)
 | .nrow _ _ ks _=>aUO ks
 | _=>0
def aJ4:List (Nat × Blk)->Nat
 | []=>0
 | (_,b)::l=>Nat.lor (aVZ b) (aJ4 l)
def aRy:List (Nat × AV)->Nat
 | []=>0
 | (_,x)::l=>Nat.lor (aAc x) (aRy l)
theorem aFK {k:Nat} {b:Blk} (h:(aVZ b).testBit k=false):nnB k b=true:=by
 cases b with
 | cells cs=>exact mP cs h
 | tok _ _ _=>rfl
 | mp _ _ _=>rfl
 | gone=>rfl
 | nrow e s ks xs =>
  simp only [nnB,Bool.not_eq_true']
  have key:∀ l:List Nat,(aUO l).testBit k=false->inL k l=false:=by
   intro l
   induction l with
   | nil=>intro _; rfl
   | cons j l ih =>
    intro h
    simp only [aUO,fD,Bool.or_eq_false_iff] at h
    simp only [inL,Bool.or_eq_false_iff]
    refine ⟨?_,ih h.2⟩
    cases q:Nat.beq j k with
    | false=>rfl
    | true =>
     have:=aA q
     subst this
     have h1:=h.1
     simp [rD,Nat.testBit_shiftLeft] at h1
  exact key ks h
 | row e s xs =>
  simp only [nnB]
  cases hb:Nat.blt e 2000000 with
  | true=>rfl
  | false =>
   simp only [aVZ,hb,cond_false] at h
   exact aCy xs h
theorem aCv {k:Nat}:∀ {l:List (Nat × Blk)},(aJ4 l).testBit k=false->nnU k l=true
 | [],_=>rfl
 | (j,b)::l,h=>by
  simp only [aJ4,fD,Bool.or_eq_false_iff] at h
  simp only [nnU,aC,Bool.or_eq_true]
  exact ⟨.inr (aFK h.1),aCv h.2⟩
theorem aCw {k:Nat}:∀ {l:List (Nat × Blk)},(aJ4 l).testBit k=false->nnH k l=true
 | [],_=>rfl
 | (j,b)::l,h=>by
  simp only [aJ4,fD,Bool.or_eq_false_iff] at h
  simp only [nnH,aC,Bool.or_eq_true]
  exact ⟨.inr (aFK h.1),aCw h.2⟩
theorem aCx {k:Nat}:∀ {l:List (Nat × AV)},(aRy l).testBit k=false->nnT k l=true
 | [],_=>rfl
 | (_,x)::l,h=>by
  simp only [aRy,fD,Bool.or_eq_false_iff] at h
  simp only [nnT,aC]
  exact ⟨aAT x h.1,aCx h.2⟩
def aNi:List (Nat × Blk)->List Nat->Nat
 | [],_=>0
 | (k,_)::l,rd=>cond (inL k rd) (aNi l rd) (Nat.lor (rD k) (aNi l rd))
theorem oN {p:Nat->Bool} {rd:List Nat}:∀ {u:List (Nat × Blk)},(∀ k,(aNi u rd).testBit k=true->p k=true)->(u.all λ q=>inL q.1 rd||p q.1)=true
 | [],_=>rfl
 | (k,b)::l,h=>by
  simp only [List.all_cons,aC,Bool.or_eq_true]
  simp only [aNi] at h
  cases hk:inL k rd with
  | true=>rw [hk] at h; exact ⟨.inl rfl,oN h⟩
  | false =>
   rw [hk] at h
   simp only [cond_false,fD,Bool.or_eq_true] at h
   exact ⟨.inr (h k (.inl (rC k))),oN λ j hj=>h j (.inr hj)⟩
structure Dg where
 i:Nat
 w:Nat
 r:Nat
 bw:Nat
 br:Nat
 nw:Nat
 oc:Nat
 an:Nat
def aTu (ops:Array Oper) (i:Nat) (o:Oper) (g:Lg) (an:Nat):Dg :=
 ⟨rD i,pR (tmW o),pR (tmR ops o),pR (fH g.u),pR g.rd,aNi g.u g.rd,Nat.lor (aAc g.r) (aJ4 g.u),an⟩
def rU (acc:List (Nat × Nat)):List Edge->Nat
 | []=>0
 | e::l=>cond (Region.binds .any e) (Nat.lor (rD e.on) (Nat.lor (match lk acc e.on with | some m=>m | none=>0) (rU acc l))) (rU acc l)
def dgs (ops:Array Oper):Nat->List Oper->List Lg->List (Nat × Nat)->List Dg
 | i,o::os,g::gs,acc=>aTu ops i o g (rU acc o.after.toList)::dgs ops (i+1) os gs ((i,rU acc o.after.toList)::acc)
 | _,_,_,_=>[]
def okP (p q:Dg):Bool:=kD q.nw p.oc&&(!(kD p.i q.an)||(kD p.w q.r&&kD p.w q.w&&kD p.r q.w&&kD p.bw q.br&&kD p.bw q.bw&&kD p.br q.bw&&kD p.nw q.oc))
def aU3 (p:Dg):List Dg->Bool
 | []=>true
 | q::l=>okP p q&&aU3 p l
def aU4:List Dg->Bool
 | []=>true
 | p::l=>aU3 p l&&aU4 l
def jD (n:Nat) (k:Nat->Bool):Bool:=match n with | 0=>k 0 | m+1=>k (Nat.succ m)
theorem qI (n:Nat) (k:Nat->Bool):jD n k=k n:=by cases n <;> rfl
def aBq (d:Dg) (k:Dg->Bool):Bool:=match d with
 | ⟨i,w,r,bw,br,nw,oc,an⟩=>jD i λ i=>jD w λ w=>jD r λ r=>jD bw λ bw=>jD br λ br=>jD nw λ nw=>jD oc λ oc=>jD an λ an=>k ⟨i,w,r,bw,br,nw,oc,an⟩
theorem aDU (d:Dg) (k:Dg->Bool):aBq d k=k d:=by simp only [aBq,qI]
def aUX (ops:Array Oper):Nat->List Oper->List Lg->List (Nat × Nat)->(List Dg->Bool)->Bool
 | i,o::os,g::gs,acc,k=>jD (rU acc o.after.toList) λ an=>aBq (aTu ops i o g an) λ d=>aUX ops (Nat.succ i) os gs ((i,an)::acc) λ l=>k (d::l)
 | _,_,_,_,k=>k []
theorem aHJ {ops:Array Oper}:∀ (i:Nat) (os:List Oper) (gs:List Lg) (acc:List (Nat × Nat)) (k:List Dg->Bool),aUX ops i os gs acc k=k (dgs ops i os gs acc)
 | i,o::os,g::gs,acc,k=>by
  simp only [aUX,dgs,qI,aDU]
  exact aHJ (i+1) os gs _ _
 | _,[],_,_,_=>rfl
 | _,_::_,[],_,_=>rfl
def lW (m:Nat):List Lg->Bool
 | []=>true
 | g::gs=>kD (aNi g.u g.rd) m&&lW m gs
def aCq (kp:List Nat) (st:St) (ops:Array Oper) (lg:List Lg):Bool :=
 zK ops.toList 0&&Nat.beq lg.length ops.size&&jD (Nat.lor (pR kp) (Nat.lor (aRy st.tmps) (aJ4 st.heap))) (λ m=>lW m lg)&&aUX ops 0 ops.toList lg [] aU4
theorem mW {k:Nat}:∀ {l:List Nat},inL k l=true->k ∈ l
 | [],h=>by simp [inL] at h
 | j::l,h=>by
  simp only [inL,Bool.or_eq_true] at h
  rcases h with h | h
  ·have:=aA h; subst this; exact aO ..
  ·exact aN _ (mW h)
theorem aDi {i k:Nat}:(rD i).testBit k=true↔k=i:=by
 show (1 <<< i).testBit k=true↔_
 rw [Nat.one_shiftLeft,Nat.testBit_two_pow,decide_eq_true_eq]
 exact eq_comm
theorem aGh {k:Nat}:∀ {l:List Nat},k ∈ l->inL k l=true
 | [],h=>by cases h
 | j::l,h=>by
  simp only [inL,Bool.or_eq_true]
  rcases List.mem_cons.1 h with h | h
  ·subst h; exact .inl (aY k)
  ·exact .inr (aGh h)
theorem uV {i a:Nat} (h:kD (rD i) a=false):a.testBit i=true:=by
 cases hb:a.testBit i with
 | true=>rfl
 | false =>
  have:kD (rD i) a=true:=by
   have h0:Nat.land (rD i) a=0:=by
    refine Nat.eq_of_testBit_eq λ k=>?_
    have h1:(Nat.land (rD i) a).testBit k=((rD i).testBit k&&a.testBit k):=Nat.testBit_and _ _ k
    rw [h1]
    cases hk:(rD i).testBit k with
    | false=>simp
    | true=>rw [aDi.1 hk,hb]; simp
   unfold kD
   rw [h0]; rfl
  rw [this] at h; cases h
theorem oM {g g':Lg} (h:kD (aNi g.u g.rd) (Nat.lor (aAc g'.r) (aJ4 g'.u))=true):newOk g g'=true:=by
 unfold newOk
 refine oN (p:=λ k=>nn k g'.r&&nnU k g'.u) λ k hk=>?_
 have:=rI h hk
 rw [fD,Bool.or_eq_false_iff] at this
 simp only [aC]
 exact ⟨aAT _ this.1,aCv this.2⟩
theorem aDn {p:Dg}:∀ {l:List Dg},aU3 p l=true->∀ q ∈ l,okP p q=true
 | [],_,q,h=>by cases h
 | x::l,h,q,hq=>by
  simp only [aU3,aC] at h
  rcases List.mem_cons.1 hq with e | hq
  ·subst e; exact h.1
  ·exact aDn h.2 q hq
theorem aEo:∀ (b:Nat) (os:List Oper) (gs:List Lg) (az:List (List Nat)) (x:Nat × Oper × Lg × List Nat),x ∈ rN b os gs az->b≤x.1
 | b,o::os,g::gs,a::az,x,h=>by
  simp only [rN,List.mem_cons] at h
  rcases h with h | h
  ·subst h; exact Nat.le_refl _
  ·have:=aEo (b+1) os gs az x h; omega
 | _,[],_,_,_,h=>by simp [rN] at h
 | _,_::_,[],_,_,h=>by simp [rN] at h
 | _,_::_,_::_,[],_,h=>by simp [rN] at h
def aPF (ops:Array Oper) (d:Dg) (x:Nat × Oper × Lg × List Nat):Prop:=∃ an,d=aTu ops x.1 x.2.1 x.2.2.1 an∧∀ k,an.testBit k=true->k ∈ x.2.2.2
theorem kA {acc:List (Nat × Nat)} {accL:List (List Nat)} (h:∀ j m,lk acc j=some m->∀ k,m.testBit k=true->k ∈ accL.getD j []):∀ (l:List Edge) (k:Nat),(rU acc l).testBit k=true->k ∈ mF accL l
 | [],k,hk=>by simp [rU] at hk
 | e::l,k,hk=>by
  simp only [rU] at hk
  simp only [mF]
  cases hb:Region.binds .any e with
  | false=>rw [hb] at hk; exact kA h l k hk
  | true =>
   rw [hb] at hk
   simp only [cond_true,fD,Bool.or_eq_true] at hk
   simp only [cond_true,List.mem_cons,List.mem_append]
   rcases hk with hk | hk | hk
   ·exact .inl (aDi.1 hk)
   ·right; left
    cases hl:lk acc e.on with
    | none=>rw [hl] at hk; simp at hk
    | some m=>rw [hl] at hk; exact h _ m hl k hk
   ·exact .inr (.inr (kA h l k hk))
theorem kR:∀ (l:List Oper) (acc:List (List Nat)),∃ t,jJ l acc=acc++t
 | [],acc=>⟨[],by simp [jJ]⟩
 | o::rest,acc=>by
  obtain ⟨t,ht⟩:=kR rest (acc++[mF acc o.after.toList])
  exact ⟨mF acc o.after.toList::t,by simp only [jJ]; rw [ht]; simp⟩
theorem zG {ops:Array Oper}:∀ (os:List Oper) (gs:List Lg) (acc:List (Nat × Nat)) (accL:List (List Nat)),(∀ j m,lk acc j=some m->j < accL.length∧∀ k,m.testBit k=true->k ∈ accL.getD j []) ->
  ∀ x ∈ rN accL.length os gs ((jJ os accL).drop accL.length),∀ y ∈ rN accL.length os gs ((jJ os accL).drop accL.length),x.1 < y.1->aU4 (dgs ops accL.length os gs acc)=true ->
   ∃ p q,aPF ops p x∧aPF ops q y∧okP p q=true
 | [],_,_,_,_,x,hx,_,_,_,_=>by simp [rN] at hx
 | _::_,[],_,_,_,x,hx,_,_,_,_=>by simp [rN] at hx
 | o::os,g::gs,acc,accL,hacc,x,hx,y,hy,hlt,hP=>by
  have key:∀ (z:Nat × Oper × Lg × List Nat) (os:List Oper) (gs:List Lg) (acc:List (Nat × Nat)) (accL:List (List Nat)),(∀ j m,lk acc j=some m->j < accL.length∧∀ k,m.testBit k=true->k ∈ accL.getD j []) ->
    z ∈ rN accL.length os gs ((jJ os accL).drop accL.length)->∃ q ∈ dgs ops accL.length os gs acc,aPF ops q z:=by
   intro z os
   induction os with
   | nil=>intro gs acc accL _ hz; simp [rN] at hz
   | cons o os ih =>
    intro gs acc accL hacc hz
    cases gs with
    | nil=>simp [rN] at hz
    | cons g gs =>
     obtain ⟨t,ht⟩:=kR os (accL++[mF accL o.after.toList])
     have e1:(jJ (o::os) accL).drop accL.length=mF accL o.after.toList::t:=by simp only [jJ]; rw [ht]; simp
     have e2:(jJ os (accL++[mF accL o.after.toList])).drop (accL++[mF accL o.after.toList]).length=t:=by rw [ht]; simp
     rw [e1] at hz
     simp only [rN,List.mem_cons] at hz
     simp only [dgs]
     rcases hz with hz | hz
     ·subst hz
      exact ⟨_,aO ..,_,rfl,kA (λ j m hj=>(hacc j m hj).2) _⟩
     ·have hacc':∀ j m,lk ((accL.length,rU acc o.after.toList)::acc) j=some m->j < (accL++[mF accL o.after.toList]).length∧∀ k,m.testBit k=true->k ∈ (accL++[mF accL o.after.toList]).getD j []:=by
       intro j m hj
       simp only [lk] at hj
       rw [aG,aH]
       cases hb:Nat.beq accL.length j with
       | true =>
        rw [hb] at hj
        simp only [cond_true,aJ] at hj
        have:=aA hb
        subst this; subst hj
        refine ⟨by omega,λ k hk=>?_⟩
        rw [aB,List.getElem?_append_right (Nat.le_refl _)]
        simpa using kA (λ j m hj=>(hacc j m hj).2) _ k hk
       | false =>
        rw [hb] at hj
        obtain ⟨h1,h2⟩:=hacc j m hj
        refine ⟨by omega,λ k hk=>?_⟩
        rw [aB,List.getElem?_append_left h1]
        simpa [aB] using h2 k hk
      have hz':z ∈ rN (accL++[mF accL o.after.toList]).length os gs ((jJ os (accL++[mF accL o.after.toList])).drop (accL++[mF accL o.after.toList]).length):=by
       rw [e2,aG,aH]; exact hz
      obtain ⟨q,hq,hT⟩:=ih gs _ _ hacc' hz'
      rw [aG,aH] at hq
      exact ⟨q,aN _ hq,hT⟩
  obtain ⟨t,ht⟩:=kR os (accL++[mF accL o.after.toList])
  have e1:(jJ (o::os) accL).drop accL.length=mF accL o.after.toList::t:=by simp only [jJ]; rw [ht]; simp
  have e2:(jJ os (accL++[mF accL o.after.toList])).drop (accL++[mF accL o.after.toList]).length=t:=by rw [ht]; simp
  have hacc':∀ j m,lk ((accL.length,rU acc o.after.toList)::acc) j=some m->j < (accL++[mF accL o.after.toList]).length∧∀ k,m.testBit k=true->k ∈ (accL++[mF accL o.after.toList]).getD j []:=by
   intro j m hj
   simp only [lk] at hj
   rw [aG,aH]
   cases hb:Nat.beq accL.length j with
   | true =>
    rw [hb] at hj
    simp only [cond_true,aJ] at hj
    have:=aA hb
    subst this; subst hj
    refine ⟨by omega,λ k hk=>?_⟩
    rw [aB,List.getElem?_append_right (Nat.le_refl _)]
    simpa using kA (λ j m hj=>(hacc j m hj).2) _ k hk
   | false =>
    rw [hb] at hj
    obtain ⟨h1,h2⟩:=hacc j m hj
    refine ⟨by omega,λ k hk=>?_⟩
    rw [aB,List.getElem?_append_left h1]
    simpa [aB] using h2 k hk
  have lift:∀ z,z ∈ rN (accL.length+1) os gs t->z ∈ rN (accL++[mF accL o.after.toList]).length os gs ((jJ os (accL++[mF accL o.after.toList])).drop (accL++[mF accL o.after.toList]).length):=by
   intro z hz
   rw [e2,aG,aH]; exact hz
  rw [e1] at hx hy
  simp only [rN,List.mem_cons] at hx hy
  simp only [dgs,aU4,aC] at hP
  rcases hy with hy | hy
  ·rcases hx with hx | hx
   ·subst hx; subst hy; omega
   ·have:=aEo _ _ _ _ x hx; subst hy; simp only at hlt; omega
  ·rcases hx with hx | hx
   ·obtain ⟨q,hq,hT⟩:=key y os gs _ _ hacc' (lift y hy)
    rw [aG,aH] at hq
    subst hx
    exact ⟨_,q,⟨_,rfl,kA (λ j m hj=>(hacc j m hj).2) _⟩,hT,aDn hP.1 q hq⟩
   ·have:=zG (ops:=ops) os gs _ _ hacc' x (lift x hx) y (lift y hy) hlt
    rw [aG,aH] at this
    exact this hP.2
theorem nV:∀ {gs:List Lg},lW (Nat.lor (pR kp) (Nat.lor (aRy st.tmps) (aJ4 st.heap))) gs=true->jV kp st gs=true
 | [],_=>rfl
 | g::gs,h=>by
  simp only [lW,aC] at h
  simp only [jV,aC]
  refine ⟨oN (p:=λ k=>fresh kp st k) λ k hk=>?_,nV h.2⟩
  have h1:=rI h.1 hk
  simp only [fD,Bool.or_eq_false_iff] at h1
  simp only [fresh,aC]
  refine ⟨⟨aCx h1.2.1,aCw h1.2.2⟩,?_⟩
  cases hi:inL k kp with
  | false=>rfl
  | true=>rw [lR (mW hi)] at h1; exact absurd h1.1 (by simp)
theorem aFB {ops:Array Oper} {lg:List Lg} (h:aCq kp st ops lg=true):aFC kp st ops lg=true:=by
 unfold aCq at h
 rw [qI,aHJ] at h
 simp only [aC] at h
 obtain ⟨⟨⟨h1,h2⟩,h3⟩,h4⟩:=h
 unfold aFC
 simp only [aC]
 refine ⟨⟨⟨h1,h2⟩,nV h3⟩,?_⟩
 unfold aAM
 rw [List.all_eq_true]
 intro x hx
 rw [List.all_eq_true]
 intro y hy
 obtain ⟨i,o,g,a⟩:=x
 obtain ⟨j,o',g',a'⟩:=y
 simp only [Bool.or_eq_true,aC,Bool.not_eq_true']
 have tell:=zG (ops:=ops) ops.toList lg [] [] (λ j m hj=>by simp [lk] at hj)
 simp only [List.length_nil,List.drop_zero] at tell
 rcases Nat.lt_trichotomy i j with hij | hij | hij
 ·right
  obtain ⟨p,q,⟨an,rfl,ha⟩,⟨an',rfl,ha'⟩,h5⟩:=tell _ hx _ hy hij h4
  simp only [okP,aTu,aC,Bool.or_eq_true,Bool.not_eq_true'] at h5
  obtain ⟨h6,h7⟩:=h5
  rcases h7 with h7 | h7
  ·have:=aGh (ha' _ (uV h7))
   exact ⟨.inl (.inr this),.inl this⟩
  ·obtain ⟨⟨⟨⟨⟨⟨k1,k2⟩,k3⟩,k4⟩,k5⟩,k6⟩,k7⟩:=h7
   refine ⟨.inr ⟨⟨?_,oM k7⟩,oM h6⟩,.inr (oM k7)⟩
   unfold nD
   rw [dV k1,dV k2,dV k3,dV k4,dV k5,dV k6]
   rfl
 ·left; subst hij; exact aY i
 ·right
  obtain ⟨p,q,⟨an,rfl,ha⟩,⟨an',rfl,ha'⟩,h5⟩:=tell _ hy _ hx hij h4
  simp only [okP,aTu,aC] at h5
  exact ⟨.inl (.inl (Nat.ble_eq_true_of_le (by omega))),.inr (oM h5.1)⟩
def aLa (P:Program) (E:Env) (C:Cx) (ops:Array Oper) (st:St) (k:St->Prop):Prop :=
 oH P E C ops ops.toList st [] λ st' lg=>cond (aCq C.kp st ops lg) (k st') False
def rV (ops:Array Oper) (st:St) (o:Oper) (ex:Bool):Prop :=
 match o.guard with
 | none=>ex=true
 | some (j,want)=>∃ t,(ops[j]?).bind (·.dst)=some t∧((∃ c,st.get t=.bool c∧ex=(c == want))∨(st.get t=.undef∧ex=false))
def aIK (P:Program) (E:Env) (C:Cx) (ops:Array Oper) (o:Oper) (st:St) (g:Lg):Prop :=
 rV ops st o g.ex∧cU C.nt o.dst=true∧(g.ex=true->kU P E C.nt o (evO E st) (lk st.heap) g.r g.u g.rd)∧(g.ex=false->g.r=.undef∧g.u=[])
def Tr (P:Program) (E:Env) (C:Cx) (ops:Array Oper):List Oper->St->List Lg->St->Prop
 | [],st,[],fin=>fin=st
 | o::os,st,g::gs,fin=>aIK P E C ops o st g∧Tr P E C ops os (st.upd o.dst g.r g.u) gs fin
 | _,_,_,_=>False
theorem aIa {wf:Bool} {o:Oper} {K:AV->List (Nat × Blk)->List Nat->Prop} (H:rG P E C wf o st K):cU C.nt o.dst=true:=(aW H).1
theorem aCP {α:Type} {i:Nat} {v:α}:∀ {l:List (Nat × α)},lk l i=some v->ins l i v=l
 | [],h=>by simp [lk] at h
 | (j,x)::l,h=>by
  simp only [lk] at h
  simp only [ins]
  cases hb:Nat.beq j i with
  | true=>rw [hb] at h; simp only [cond_true,aJ] at h; simp only [cond_true]; rw [h]
  | false=>rw [hb] at h; simp only [cond_false] at h ⊢; rw [aCP h]
theorem aJY {t:Nat} {c:Bool} (h:st.get t=.bool c):st.put t (.bool c)=st:=by
 unfold St.get at h
 split at h
 ·next x e=>rw [h] at e; unfold St.put; rw [aCP e]
 ·cases h
theorem wX (hT:TyOK P C.tys) (hS:cF P E) {ops:Array Oper}:∀ (l:List Oper) (st:St) (lg:List Lg) (k:St->List Lg->Prop),oH P E C ops l st lg k->∃ gs fin,Tr P E C ops l st gs fin∧k fin (lg++gs)
 | [],st,lg,k,h=>⟨[],st,rfl,by simpa [oH] using h⟩
 | o::rest,st,lg,k,h=>by
  have ex:(rV ops st o true)->rG P E C false o st (λ r u rd=>kF E.eager o.op r λ r=>rO st o.dst r u λ st'=>oH P E C ops rest st' (lg++[⟨r,u,rd,true⟩]) k)->∃ gs fin,Tr P E C ops (o::rest) st gs fin∧k fin (lg++gs):=by
   intro hw h
   obtain ⟨r,u,rd,h1,h2,h3⟩:=rF hT hS h
   have h4:=h1 (λ e=>by cases e)
   rw [yV,oY] at h4
   obtain ⟨gs,fin,h5,h6⟩:=wX hT hS rest _ _ _ h4
   exact ⟨⟨r,u,rd,true⟩::gs,fin,⟨⟨hw,aIa h,λ _=>h2,λ e=>by cases e⟩,h5⟩,by simpa using h6⟩
  have sk:(rV ops st o false)->cond (cU C.nt o.dst) (rO st o.dst .undef [] λ st'=>oH P E C ops rest st' (lg++[⟨.undef,[],[],false⟩]) k) False->∃ gs fin,Tr P E C ops (o::rest) st gs fin∧k fin (lg++gs):=by
   intro hw h
   obtain ⟨hd,h⟩:=aW h
   rw [oY] at h
   obtain ⟨gs,fin,h5,h6⟩:=wX hT hS rest _ _ _ h
   exact ⟨⟨.undef,[],[],false⟩::gs,fin,⟨⟨hw,hd,(λ e=>by cases e),λ _=>⟨rfl,rfl⟩⟩,h5⟩,by simpa using h6⟩
  simp only [oH] at h
  split at h
  ·rename_i hg
   exact ex (by simp [rV,hg]) h
  ·rename_i j want hg
   split at h
   ·rename_i t ht
    split at h
    ·rename_i c hc
     cases c <;> cases want <;> simp only [cond_true,cond_false] at h <;> rw [oT,aJY hc] at h
     ·exact ex (by simp only [rV,hg]; exact ⟨t,ht,.inl ⟨_,hc,rfl⟩⟩) h
     ·exact sk (by simp only [rV,hg]; exact ⟨t,ht,.inl ⟨_,hc,rfl⟩⟩) h
     ·exact sk (by simp only [rV,hg]; exact ⟨t,ht,.inl ⟨_,hc,rfl⟩⟩) h
     ·exact ex (by simp only [rV,hg]; exact ⟨t,ht,.inl ⟨_,hc,rfl⟩⟩) h
    ·rename_i hc
     exact sk (by simp only [rV,hg]; exact ⟨t,ht,.inr ⟨hc,trivial⟩⟩) h
    ·exact h.elim
   ·exact h.elim
def apD (D:Nat->Bool):Nat->List Oper->List Lg->St->St
 | i,o::os,g::gs,st=>apD D (i+1) os gs (if D i then st.upd o.dst g.r g.u else st)
 | _,_,_,st=>st
def lkU (u:List (Nat × Blk)) (k:Nat) (d:Option Blk):Option Blk:=match u with | []=>d | (j,b)::u=>lkU u k (if k=j then some b else d)
theorem aA7:∀ (u:List (Nat × Blk)) (st:St) (k:Nat),lk (st.blks u).heap k=lkU u k (lk st.heap k)
 | [],st,k=>rfl
 | (j,b)::u,st,k=>by
  simp only [St.blks,lkU]
  rw [aA7 u]
  congr 1
  simp only [St.blk,bS]
theorem aGy:∀ (u:List (Nat × Blk)) (k:Nat) (d:Option Blk),k ∉ fH u->lkU u k d=d
 | [],k,d,_=>rfl
 | (j,b)::u,k,d,h=>by
  simp only [fH,List.mem_cons,not_or] at h
  simp only [lkU]
  rw [if_neg h.1]
  exact aGy u k d h.2
theorem aGz:∀ (u:List (Nat × Blk)) (k:Nat) (d d':Option Blk),k ∈ fH u->lkU u k d=lkU u k d'
 | [],k,d,d',h=>by simp [fH] at h
 | (j,b)::u,k,d,d',h=>by
  simp only [lkU]
  by_cases hk:k=j
  ·rw [if_pos hk,if_pos hk]
  ·rw [if_neg hk,if_neg hk]
   simp only [fH,List.mem_cons] at h
   exact aGz u k d d' (h.resolve_left hk)
theorem mJ (st:St) (d:Option Nat) (r:AV) (u:List (Nat × Blk)) (t:Nat):(st.upd d r u).get t=if d=some t then r else st.get t:=by
 unfold St.upd
 cases d with
 | none=>simp [St.get,mB]
 | some q =>
  simp only [St.get_put,aJ]
  by_cases h:t=q
  ·rw [if_pos h,if_pos h.symm]
  ·rw [if_neg h,if_neg (λ e=>h e.symm)]; simp [St.get,mB]
theorem rZ (st:St) (d:Option Nat) (r:AV) (u:List (Nat × Blk)) (k:Nat):lk (st.upd d r u).heap k=lkU u k (lk st.heap k):=by
 unfold St.upd
 cases d with
 | none=>exact aA7 u st k
 | some q=>exact aA7 u st k
theorem wZ (D D':Nat->Bool) (t:Nat):∀ (os:List Oper) (gs:List Lg) (i:Nat) (st st':St),st.get t=st'.get t->(∀ j o,os[j]?=some o->o.dst=some t->D (i+j)=D' (i+j))->(apD D i os gs st).get t=(apD D' i os gs st').get t
 | [],gs,i,st,st',h,_=>by simpa [apD] using h
 | _::_,[],i,st,st',h,_=>by simpa [apD] using h
 | o::os,g::gs,i,st,st',h,hD=>by
  simp only [apD]
  refine wZ D D' t os gs (i+1) _ _ ?_ (λ j q hj hq=>by have:=hD (j+1) q (by simpa using hj) hq; rwa [show i+1+j=i+(j+1) by omega])
  by_cases hw:o.dst=some t
  ·have:=hD 0 o rfl hw
   simp only [Nat.add_zero] at this
   rw [← this]
   by_cases hb:D i=true
   ·rw [if_pos hb,if_pos hb,mJ,mJ,if_pos hw,if_pos hw]
   ·rw [if_neg hb,if_neg hb]; exact h
  ·have key:∀ (b:Bool) (s:St),(if b=true then s.upd o.dst g.r g.u else s).get t=s.get t:=by
    intro b s
    cases b
    ·rfl
    ·rw [if_pos rfl,mJ,if_neg hw]
   rw [key,key]; exact h
theorem aDl (D D':Nat->Bool) (k:Nat):∀ (os:List Oper) (gs:List Lg) (i:Nat) (st st':St),lk st.heap k=lk st'.heap k->(∀ j g,gs[j]?=some g->k ∈ fH g.u->D (i+j)=D' (i+j))->lk (apD D i os gs st).heap k=lk (apD D' i os gs st').heap k
 | [],gs,i,st,st',h,_=>by simpa [apD] using h
 | _::_,[],i,st,st',h,_=>by simpa [apD] using h
 | o::os,g::gs,i,st,st',h,hD=>by
  simp only [apD]
  refine aDl D D' k os gs (i+1) _ _ ?_ (λ j q hj hq=>by have:=hD (j+1) q (by simpa using hj) hq; rwa [show i+1+j=i+(j+1) by omega])
  by_cases hw:k ∈ fH g.u
  ·have:=hD 0 g rfl hw
   simp only [Nat.add_zero] at this
   rw [← this]
   by_cases hb:D i=true
   ·rw [if_pos hb,if_pos hb,rZ,rZ]; exact aGz _ _ _ _ hw
   ·rw [if_neg hb,if_neg hb]; exact h
  ·have key:∀ (b:Bool) (s:St),lk (if b=true then s.upd o.dst g.r g.u else s).heap k=lk s.heap k:=by
    intro b s
    cases b
    ·rfl
    ·rw [if_pos rfl,rZ,aGy _ _ _ hw]
   rw [key,key]; exact h
theorem aP5 {ops:Array Oper} (D:Nat->Bool):∀ (os:List Oper) (gs:List Lg) (b:Nat) (st fin:St),Tr P E C ops os st gs fin->∀ (i:Nat) (o:Oper),os[i]?=some o ->
  ∃ g,gs[i]?=some g∧aIK P E C ops o (apD (λ j=>decide (j < b+i)) b os gs st) g
 | [],gs,b,st,fin,h,i,o,e=>by simp at e
 | _::_,[],b,st,fin,h,i,o,e=>by simp [Tr] at h
 | o::os,g::gs,b,st,fin,h,i,o',e=>by
  simp only [Tr] at h
  cases i with
  | zero =>
   simp at e
   subst e
   refine ⟨g,rfl,?_⟩
   have:apD (λ j=>decide (j < b+0)) b (o::os) (g::gs) st=st:=by
    have key:∀ (os:List Oper) (gs:List Lg) (q:Nat) (s:St),b≤q->apD (λ j=>decide (j < b+0)) q os gs s=s:=by
     intro os
     induction os with
     | nil=>intro gs q s _; simp [apD]
     | cons o os ih =>
      intro gs q s hq
      cases gs with
      | nil=>simp [apD]
      | cons g gs =>
       simp only [apD]
       rw [if_neg (by simp; omega)]
       exact ih gs (q+1) s (by omega)
    exact key _ _ b st (Nat.le_refl _)
   rw [this]; exact h.1
  | succ i =>
   simp at e
   obtain ⟨g',h1,h2⟩:=aP5 D os gs (b+1) _ fin h.2 i o' e
   refine ⟨g',by simpa using h1,?_⟩
   simp only [apD]
   rw [if_pos (by simp)]
   rwa [show b+(i+1)=b+1+i by omega]
theorem aLh {ops:Array Oper}:∀ (os:List Oper) (gs:List Lg) (b:Nat) (st fin:St),Tr P E C ops os st gs fin->∀ D:Nat->Bool,(∀ j,j < os.length->D (b+j)=true)->apD D b os gs st=fin
 | [],[],b,st,fin,h,D,_=>by simp only [Tr] at h; subst h; rfl
 | [],_::_,b,st,fin,h,D,_=>by simp [Tr] at h
 | _::_,[],b,st,fin,h,D,_=>by simp [Tr] at h
 | o::os,g::gs,b,st,fin,h,D,hD=>by
  simp only [Tr] at h
  simp only [apD]
  rw [if_pos (by simpa using hD 0 (by simp))]
  exact aLh os gs (b+1) _ fin h.2 D (λ j hj=>by have:=hD (j+1) (by simp; omega); rwa [show b+1+j=b+(j+1) by omega])
def tO (ops:Array Oper) (D:Nat->Bool):Prop:=∀ (i:Nat) (o:Oper),ops[i]?=some o->D i=true->∀ e ∈ o.after,Region.binds .any e=true->D e.on=true
theorem aBV {D:Nat->Bool} {acc:List (List Nat)} (hacc:∀ i j,D i=true->j ∈ acc.getD i []->D j=true):∀ (l:List Edge),(∀ e ∈ l,Region.binds .any e=true->D e.on=true)->∀ j ∈ mF acc l,D j=true
 | [],_,j,hj=>by simp [mF] at hj
 | e::l,h,j,hj=>by
  simp only [mF] at hj
  cases hb:Region.binds .any e with
  | true =>
   rw [hb] at hj
   simp only [cond_true,List.mem_cons,List.mem_append] at hj
   have he:=h e aO hb
   rcases hj with rfl | hj | hj
   ·exact he
   ·exact hacc _ _ he hj
   ·exact aBV hacc l (λ e' he'=>h e' (aN _ he')) j hj
  | false =>
   rw [hb] at hj
   exact aBV hacc l (λ e' he'=>h e' (aN _ he')) j hj
theorem xB {ops:Array Oper} {D:Nat->Bool} (hD:tO ops D):∀ (l:List Oper) (acc:List (List Nat)),(∀ j,l[j]?=ops[acc.length+j]?)->(∀ i j,D i=true->j ∈ acc.getD i []->D j=true)->∀ i j,D i=true->j ∈ (jJ l acc).getD i []->D j=true
 | [],acc,hl,hacc,i,j,hi,hj=>hacc i j hi hj
 | o::rest,acc,hl,hacc,i,j,hi,hj=>by
  simp only [jJ] at hj
  refine xB hD rest _ (λ q=>by have:=hl (q+1); simp at this ⊢; rw [this]; congr 1; omega) (λ p q hp hq=>?_) i j hi hj
  by_cases hlt:p < acc.length
  ·rw [aB,List.getElem?_append_left hlt,← aB] at hq
   exact hacc p q hp hq
  ·by_cases he:p=acc.length
   ·subst he
    rw [aB,List.getElem?_append_right (Nat.le_refl _)] at hq
    simp at hq
    have ho:=hl 0
    simp at ho
    exact aBV hacc _ (λ e he hb=>hD _ o ho.symm hp e (by simpa using he) hb) q hq
   ·rw [aB,List.getElem?_append_right (by omega)] at hq
    have:([mF acc o.after.toList]:List (List Nat))[p - acc.length]?=none:=by
     rw [List.getElem?_eq_none]; simp; omega
    rw [this] at hq
    simp at hq
theorem aDm:∀ (l:List Oper) (acc:List (List Nat)),(jJ l acc).length=acc.length+l.length
 | [],acc=>by simp [jJ]
 | o::rest,acc=>by simp only [jJ]; rw [aDm]; simp; omega
theorem tQ:∀ (b:Nat) (os:List Oper) (gs:List Lg) (az:List (List Nat)) (i:Nat) (o:Oper) (g:Lg) (a:List Nat),os[i]?=some o->gs[i]?=some g->az[i]?=some a->(b+i,o,g,a) ∈ rN b os gs az
 | b,[],gs,az,i,o,g,a,h,_,_=>by simp at h
 | b,_::_,[],az,i,o,g,a,_,h,_=>by simp at h
 | b,_::_,_::_,[],i,o,g,a,_,_,h=>by simp at h
 | b,o'::os,g'::gs,a'::az,i,o,g,a,h1,h2,h3=>by
  simp only [rN]
  cases i with
  | zero=>simp at h1 h2 h3; subst h1 h2 h3; simp
  | succ i =>
   simp at h1 h2 h3
   have:=tQ (b+1) os gs az i o g a h1 h2 h3
   rw [show b+(i+1)=b+1+i by omega]
   exact aN _ this
theorem gY {k:Nat}:∀ {l:List Nat},inL k l=true↔k ∈ l
 | []=>by simp [inL]
 | j::l=>by
  simp only [inL,Bool.or_eq_true,List.mem_cons]
  rw [gY]
  constructor
  ·rintro (h | h)
   ·exact .inl (aA h).symm
   ·exact .inr h
  ·rintro (rfl | h)
   ·exact .inl (aY _)
   ·exact .inr h
theorem aAZ {l l':List Nat}:meets l l'=false->∀ k ∈ l,k ∉ l':=by
 induction l with
 | nil=>simp
 | cons x xs ih =>
  intro h k hk
  simp only [meets,Bool.or_eq_false_iff] at h
  rcases List.mem_cons.1 hk with rfl | hk
  ·exact λ hm=>by rw [gY.2 hm] at h; simp at h
  ·exact ih h.2 k hk
theorem sR:∀ {l:List Operand} {t:Nat},Operand.tmp t ∈ l->t ∈ nR l
 | [],t,h=>by simp at h
 | x::l,t,h=>by
  rcases List.mem_cons.1 h with rfl | h
  ·simp [nR]
  ·have h1:=sR h
   cases x <;> simp [nR,h1]
theorem aFQ {k:Nat} {t:Nat} {x:AV} (hx:nn k x=true):∀ {l:List (Nat × AV)},nnT k l=true->nnT k (ins l t x)=true
 | [],_=>by simp [ins,nnT,hx]
 | (j,y)::l,h=>by
  simp only [nnT,aC] at h
  simp only [ins]
  cases Nat.beq j t with
  | true=>simp only [cond_true,nnT,hx,h.2,Bool.and_true]
  | false=>simp only [cond_false,nnT,h.1,aFQ hx h.2,Bool.and_true]
theorem aFS {k:Nat} {t:Nat} {b:Blk} (hx:(Nat.beq t k||nnB k b)=true):∀ {l:List (Nat × Blk)},nnH k l=true->nnH k (ins l t b)=true
 | [],_=>by simp [ins,nnH,hx]
 | (j,y)::l,h=>by
  simp only [nnH,aC] at h
  simp only [ins]
  cases hj:Nat.beq j t with
  | true =>
   have:=aA hj
   subst this
   simp only [cond_true,nnH,hx,h.2,Bool.and_true]
  | false=>simp only [cond_false,nnH,h.1,aFS hx h.2,Bool.and_true]
theorem aG2 {k:Nat} {d:Option Nat} {r:AV} (hr:nn k r=true):∀ {u:List (Nat × Blk)} {st:St},fresh kp st k=true->nnU k u=true->fresh kp (st.upd d r u) k=true:=by
 have hb:∀ (u:List (Nat × Blk)) (st:St),fresh kp st k=true->nnU k u=true->fresh kp (st.blks u) k=true:=by
  intro u
  induction u with
  | nil=>intro st h _; exact h
  | cons p u ih =>
   intro st h hu
   obtain ⟨j,b⟩:=p
   simp only [nnU,aC] at hu
   refine ih _ ?_ hu.2
   simp only [fresh,aC] at h ⊢
   exact ⟨⟨h.1.1,aFS hu.1 h.1.2⟩,h.2⟩
 intro u st h hu
 unfold St.upd
 have h1:=hb u st h hu
 cases d with
 | none=>exact h1
 | some t =>
  simp only [fresh,aC] at h1 ⊢
  exact ⟨⟨aFQ hr h1.1.1,h1.1.2⟩,h1.2⟩
theorem yQ {k:Nat} (D:Nat->Bool):∀ (os:List Oper) (gs:List Lg) (b:Nat) (st:St),fresh kp st k=true->(∀ j g,gs[j]?=some g->D (b+j)=true->nn k g.r=true∧nnU k g.u=true)->fresh kp (apD D b os gs st) k=true
 | [],gs,b,st,h,_=>by simpa [apD] using h
 | _::_,[],b,st,h,_=>by simpa [apD] using h
 | o::os,g::gs,b,st,h,hg=>by
  simp only [apD]
  refine yQ D os gs (b+1) _ ?_ (λ j g' e hD=>hg (j+1) g' (by simpa using e) (by rwa [show b+(j+1)=b+1+j by omega]))
  by_cases hD:D b=true
  ·rw [if_pos hD]
   have:=hg 0 g rfl (by simpa using hD)
   exact aG2 this.1 h this.2
  ·rw [if_neg hD]; exact h
theorem Rel.congr {st st':St} (h:Rel G kp st a w S m) (h1:∀ t,st'.get t=st.get t) (h2:∀ k,lk st'.heap k=lk st.heap k):Rel G kp st' a w S m :=
 h.weaken (λ t v hv=>by rw [h1]; exact hv) (λ k b hk=>by rw [h2] at hk; exact ⟨⟨b,hk⟩,h.held k b hk⟩)
theorem aEx {ops:Array Oper} {o:Oper} {j t:Nat} {want:Bool} (hg:o.guard=some (j,want)) (ht:(ops[j]?).bind (·.dst)=some t):t ∈ tmR ops o:=by
 unfold tmR
 rw [hg]
 simp only [ht]
 simp
theorem aP9 {ops:Array Oper} {o:Oper} {t:Nat} (h:Operand.tmp t ∈ o.op.operands):t ∈ tmR ops o:=by
 have h1:=sR (Array.mem_toList_iff.2 h)
 unfold tmR
 split
 ·split
  ·exact aN _ h1
  ·exact h1
 ·exact h1
theorem tN:∀ (l:List Oper) (b:Nat),zK l b=true->∀ (i:Nat) (o:Oper),l[i]?=some o->∀ e ∈ o.after,Region.binds .any e=true->e.on < b+i
 | [],b,_,i,o,h=>by simp at h
 | o'::l,b,h,i,o,e0=>by
  simp only [zK,aC] at h
  cases i with
  | zero =>
   simp at e0
   subst e0
   intro e he hb
   have:=List.all_eq_true.1 h.1 e (by simpa using he)
   rw [hb] at this
   simp only [Bool.not_true,Bool.false_or] at this
   have:=aK this
   omega
  | succ i =>
   intro e he hb
   have:=tN l (b+1) h.2 i o (by simpa using e0) e he hb
   omega
theorem nU:∀ (gs:List Lg),jV kp st gs=true->∀ (i:Nat) (g:Lg),gs[i]?=some g->∀ p ∈ g.u,p.1 ∉ g.rd->fresh kp st p.1=true
 | [],_,i,g,e=>by simp at e
 | g'::gs,h,i,g,e=>by
  simp only [jV,aC] at h
  cases i with
  | zero =>
   simp at e
   subst e
   intro p hp hn
   have:=List.all_eq_true.1 h.1 p hp
   simp only [Bool.or_eq_true] at this
   exact this.resolve_left (λ q=>hn (gY.1 q))
  | succ i=>exact nU gs h.2 i g (by simpa using e)
theorem pL {ops:Array Oper} {gs:List Lg} (h:aFC kp st ops gs=true) {i j:Nat} {o o':Oper} {g g':Lg} (hi:ops[i]?=some o) (hj:ops[j]?=some o') (hgi:gs[i]?=some g) (hgj:gs[j]?=some g') (hne:i≠j) :
  (i < j->i ∈ (jJ ops.toList []).getD j []∨nD ops o o' g g'=false)∧(i ∈ (jJ ops.toList []).getD j []∨newOk g g'=true):=by
 unfold aFC at h
 simp only [aC] at h
 have hp:=h.2
 unfold aAM at hp
 have hlen:=aDm ops.toList []
 simp only [List.length_nil,Nat.zero_add] at hlen
 have li:i < ops.size:=(aM.1 hi).1
 have lj:j < ops.size:=(aM.1 hj).1
 have ai:(jJ ops.toList [])[i]?=some ((jJ ops.toList [])[i]'(by rw [hlen]; simpa using li)):=aD _
 have aj:(jJ ops.toList [])[j]?=some ((jJ ops.toList [])[j]'(by rw [hlen]; simpa using lj)):=aD _
 have mi:=tQ 0 ops.toList gs (jJ ops.toList []) i o g _ (by simpa using hi) hgi ai
 have mj:=tQ 0 ops.toList gs (jJ ops.toList []) j o' g' _ (by simpa using hj) hgj aj
 simp only [Nat.zero_add] at mi mj
 have h1:=List.all_eq_true.1 hp _ mi
 have h2:=List.all_eq_true.1 h1 _ mj
 simp only [nbeq_ne hne,Bool.false_or,aC,Bool.or_eq_true,Bool.not_eq_true'] at h2
 have ea:(jJ ops.toList []).getD j []=(jJ ops.toList [])[j]'(by rw [hlen]; simpa using lj):=by rw [aB,aj]; rfl
 rw [ea]
 refine ⟨λ hlt=>?_,h2.2.imp gY.1 id⟩
 rcases h2.1 with (h3 | h3) | h3
 ·have:=aK h3; omega
 ·exact .inl (gY.1 h3)
 ·exact .inr h3.1.1
theorem aEb {ops:Array Oper} {Q:Exit->Act->World->Prop} (hG:GOK E G.S0) {st fin:St} {gs:List Lg} (htr:Tr P E C ops ops.toList st gs fin) (hord:aCq C.kp st ops gs=true)
  (hR:Rel G C.kp st a w S m) (hn:a.tmps.size=C.nt)
  (hQ:∀ a' w' S' m',Rel G C.kp fin a' w' S' m'->a'.tmps.size=C.nt->Q .normal a' w') :
  wpAny P .any ops Q ops.size (Array.replicate ops.size false) a { w with drawn:=w.drawn+1 }:=by
 replace hord:=aFB hord
 have hord':=hord
 unfold aFC at hord'
 simp only [aC] at hord'
 obtain ⟨⟨⟨hback,hlen⟩,hfr⟩,_⟩:=hord'
 have hlg:gs.length=ops.size:=aA hlen
 have step:∀ (D:Nat->Bool),tO ops D->∀ (i:Nat) (o:Oper),ops[i]?=some o->D i=false->(∀ e ∈ o.after,Region.binds .any e=true->D e.on=true) ->
   ∃ g,gs[i]?=some g∧aIK P E C ops o (apD (λ j=>decide (j < i)) 0 ops.toList gs st) g ∧
    (∀ t ∈ tmR ops o,(apD D 0 ops.toList gs st).get t=(apD (λ j=>decide (j < i)) 0 ops.toList gs st).get t) ∧
    (∀ q ∈ g.rd,lk (apD D 0 ops.toList gs st).heap q=lk (apD (λ j=>decide (j < i)) 0 ops.toList gs st).heap q) ∧
    (∀ p ∈ g.u,p.1 ∉ g.rd->fresh C.kp (apD D 0 ops.toList gs st) p.1=true) ∧
    (∀ t,(apD (λ j=>D j||decide (j=i)) 0 ops.toList gs st).get t=((apD D 0 ops.toList gs st).upd o.dst g.r g.u).get t) ∧
    (∀ q,lk (apD (λ j=>D j||decide (j=i)) 0 ops.toList gs st).heap q=lk ((apD D 0 ops.toList gs st).upd o.dst g.r g.u).heap q):=by
  intro D hD i o hi hDi hdep
  obtain ⟨g,hg,hok⟩:=aP5 (λ _=>true) ops.toList gs 0 st fin htr i o (by simpa using hi)
  simp only [Nat.zero_add] at hok
  have hD':tO ops (λ j=>D j||decide (j=i)):=by
   intro q o' hq hDq e he hb
   simp only [Bool.or_eq_true,decide_eq_true_eq] at hDq ⊢
   rcases hDq with hDq | rfl
   ·exact .inl (hD q o' hq hDq e he hb)
   ·rw [hi] at hq
    injection hq with hq
    subst hq
    exact .inl (hdep e he hb)
  have acl:∀ q,q ∈ (jJ ops.toList []).getD i []->q≠i->D q=true:=by
   intro q hq hne
   have:=xB hD' ops.toList [] (λ j=>by simp) (λ p q hp hq=>by simp at hq) i q (by simp) hq
   simpa [hne] using this
  have acg:∀ j,D j=true->i ∉ (jJ ops.toList []).getD j []:=by
   intro j hj hm
   have:=xB hD ops.toList [] (λ j=>by simp) (λ p q hp hq=>by simp at hq) j i hj hm
   rw [this] at hDi; cases hDi
  have sep:∀ (j:Nat) (o':Oper) (g':Lg),ops[j]?=some o'->gs[j]?=some g'->(j < i->nD ops o' o g' g=true)->(i < j->nD ops o o' g g'=true)->j≠i->D j=decide (j < i):=by
   intro j o' g' hj hgj c1 c2 hne
   rcases Nat.lt_or_ge j i with hlt | hge
   ·rw [decide_eq_true hlt]
    rcases (pL hord hj hi hgj hg hne).1 hlt with h1 | h1
    ·exact acl j h1 hne
    ·rw [c1 hlt] at h1; cases h1
   ·have hlt:i < j:=by omega
    rw [decide_eq_false (by omega)]
    rcases (pL hord hi hj hg hgj (λ e=>hne e.symm)).1 hlt with h1 | h1
    ·cases hb:D j with
     | false=>rfl
     | true=>exact absurd h1 (acg j hb)
    ·rw [c2 hlt] at h1; cases h1
  have gex:∀ (j:Nat) (o':Oper),ops[j]?=some o'->∃ g',gs[j]?=some g':=λ j o' hj=>⟨gs[j]'(by rw [hlg]; exact (aM.1 hj).1),aD _⟩
  have oex:∀ (j:Nat) (g':Lg),gs[j]?=some g'->∃ o',ops[j]?=some o':=λ j g' hj=>⟨ops[j]'(by rw [← hlg]; exact (aF.1 hj).1),Array.getElem?_eq_getElem _⟩
  have mt:∀ (l l':List Nat) (x:Nat),x ∈ l->x ∈ l'->meets l l'=true:=by
   intro l l' x h1 h2
   cases hm:meets l l' with
   | true=>rfl
   | false=>exact absurd h2 (aAZ hm x h1)
  have tw:∀ {o':Oper} {t:Nat},o'.dst=some t->t ∈ tmW o':=λ h=>by simp [tmW,h]
  have readT:∀ t ∈ tmR ops o,(apD D 0 ops.toList gs st).get t=(apD (λ j=>decide (j < i)) 0 ops.toList gs st).get t:=by
   intro t ht
   refine wZ _ _ t _ _ 0 _ _ rfl (λ j o' hj hw=>?_)
   simp only [Nat.zero_add]
   have hj':ops[j]?=some o':=by simpa using hj
   by_cases hne:j=i
   ·subst hne; rw [hDi,decide_eq_false (by omega)]
   ·obtain ⟨g',hg'⟩:=gex j o' hj'
    refine sep j o' g' hj' hg' (λ _=>?_) (λ _=>?_) hne
    ·unfold nD; rw [mt (tmW o') (tmR ops o) t (tw hw) ht]; simp
    ·unfold nD; rw [mt (tmR ops o) (tmW o') t ht (tw hw)]; simp
  have readN:∀ q ∈ g.rd,lk (apD D 0 ops.toList gs st).heap q=lk (apD (λ j=>decide (j < i)) 0 ops.toList gs st).heap q:=by
   intro q hq
   refine aDl _ _ q _ _ 0 _ _ rfl (λ j g' hg' hw=>?_)
   simp only [Nat.zero_add]
   by_cases hne:j=i
   ·subst hne; rw [hDi,decide_eq_false (by omega)]
   ·obtain ⟨o',hj'⟩:=oex j g' hg'
    refine sep j o' g' hj' hg' (λ _=>?_) (λ _=>?_) hne
    ·unfold nD; rw [mt (fH g'.u) g.rd q hw hq]; simp
    ·unfold nD; rw [mt g.rd (fH g'.u) q hq hw]; simp
  have wrT:∀ t,o.dst=some t->∀ j o',ops[j]?=some o'->o'.dst=some t->j≠i->D j=decide (j < i):=by
   intro t ht j o' hj hw hne
   obtain ⟨g',hg'⟩:=gex j o' hj
   refine sep j o' g' hj hg' (λ _=>?_) (λ _=>?_) hne
   ·unfold nD; rw [mt (tmW o') (tmW o) t (tw hw) (tw ht)]; simp
   ·unfold nD; rw [mt (tmW o) (tmW o') t (tw ht) (tw hw)]; simp
  have wrN:∀ q,q ∈ fH g.u->∀ j g',gs[j]?=some g'->q ∈ fH g'.u->j≠i->D j=decide (j < i):=by
   intro q hq j g' hg' hw hne
   obtain ⟨o',hj'⟩:=oex j g' hg'
   refine sep j o' g' hj' hg' (λ _=>?_) (λ _=>?_) hne
   ·unfold nD; rw [mt (fH g'.u) (fH g.u) q hw hq]; simp
   ·unfold nD; rw [mt (fH g.u) (fH g'.u) q hq hw]; simp
  have nextT:apD (λ j=>decide (j < i+1)) 0 ops.toList gs st=(apD (λ j=>decide (j < i)) 0 ops.toList gs st).upd o.dst g.r g.u:=by
   have key:∀ (os:List Oper) (gs:List Lg) (b i:Nat) (s:St),os[i]?=some o->gs[i]?=some g->apD (λ j=>decide (j < b+i+1)) b os gs s=(apD (λ j=>decide (j < b+i)) b os gs s).upd o.dst g.r g.u:=by
    intro os
    induction os with
    | nil=>intro gs b i s e; simp at e
    | cons o1 os ih =>
     intro gs b i s e1 e2
     cases gs with
     | nil=>simp at e2
     | cons g1 gs =>
      simp only [apD]
      cases i with
      | zero =>
       simp at e1 e2
       subst e1 e2
       rw [if_pos (by simp),if_neg (by simp)]
       have stop:∀ (os:List Oper) (gs:List Lg) (B q:Nat) (s:St),B≤q->apD (λ j=>decide (j < B)) q os gs s=s:=by
        intro os
        induction os with
        | nil=>intro gs B q s _; simp [apD]
        | cons o os ih =>
         intro gs B q s hq
         cases gs with
         | nil=>simp [apD]
         | cons g gs =>
          simp only [apD]
          rw [if_neg (by simp; omega)]
          exact ih gs B (q+1) s (by omega)
       rw [stop _ _ (b+0+1) (b+1) _ (by omega),stop _ _ (b+0) (b+1) _ (by omega)]
      | succ i =>
       simp at e1 e2
       rw [if_pos (by simp; omega),if_pos (by simp)]
       have:=ih gs (b+1) i (s.upd o1.dst g1.r g1.u) e1 e2
       rw [show b+(i+1)+1=b+1+i+1 by omega,show b+(i+1)=b+1+i by omega]
       exact this
   have:=key ops.toList gs 0 i st (by simpa using hi) hg
   simpa using this
  refine ⟨g,hg,hok,readT,readN,?_,?_,?_⟩
  ·intro p hp hnr
   refine yQ D ops.toList gs 0 st (nU gs hfr i g hg p hp hnr) (λ j g' hg' hDj=>?_)
   simp only [Nat.zero_add] at hDj
   obtain ⟨o',hj'⟩:=oex j g' hg'
   have hne:i≠j:=by rintro rfl; rw [hDj] at hDi; cases hDi
   rcases (pL hord hi hj' hg hg' hne).2 with h1 | h1
   ·exact absurd h1 (acg j hDj)
   ·have:=List.all_eq_true.1 h1 p hp
    simp only [Bool.or_eq_true,aC] at this
    exact this.resolve_left (λ q=>hnr (gY.1 q))
  ·intro t
   by_cases ht:o.dst=some t
   ·have e1:(apD (λ j=>D j||decide (j=i)) 0 ops.toList gs st).get t=(apD (λ j=>decide (j < i+1)) 0 ops.toList gs st).get t:=by
     refine wZ _ _ t _ _ 0 _ _ rfl (λ j o' hj hw=>?_)
     simp only [Nat.zero_add]
     by_cases hne:j=i
     ·subst hne; simp
     ·rw [wrT t ht j o' (by simpa using hj) hw hne,decide_eq_false hne,Bool.or_false]
      by_cases hlt:j < i
      ·rw [decide_eq_true hlt,decide_eq_true (by omega)]
      ·rw [decide_eq_false hlt,decide_eq_false (by omega)]
    rw [e1,nextT,mJ,mJ,if_pos ht,if_pos ht]
   ·rw [mJ,if_neg ht]
    refine wZ _ _ t _ _ 0 _ _ rfl (λ j o' hj hw=>?_)
    simp only [Nat.zero_add]
    have hne:j≠i:=by
     rintro rfl
     have hj':ops[j]?=some o':=by simpa using hj
     rw [hi] at hj'
     injection hj' with hj'
     subst hj'
     exact ht hw
    rw [decide_eq_false hne,Bool.or_false]
  ·intro q
   by_cases hq:q ∈ fH g.u
   ·have e1:lk (apD (λ j=>D j||decide (j=i)) 0 ops.toList gs st).heap q=lk (apD (λ j=>decide (j < i+1)) 0 ops.toList gs st).heap q:=by
     refine aDl _ _ q _ _ 0 _ _ rfl (λ j g' hg' hw=>?_)
     simp only [Nat.zero_add]
     by_cases hne:j=i
     ·subst hne; simp
     ·rw [wrN q hq j g' hg' hw hne,decide_eq_false hne,Bool.or_false]
      by_cases hlt:j < i
      ·rw [decide_eq_true hlt,decide_eq_true (by omega)]
      ·rw [decide_eq_false hlt,decide_eq_false (by omega)]
    rw [e1,nextT,rZ,rZ]
    exact aGz _ _ _ _ hq
   ·rw [rZ,aGy _ _ _ hq]
    refine aDl _ _ q _ _ 0 _ _ rfl (λ j g' hg' hw=>?_)
    simp only [Nat.zero_add]
    have hne:j≠i:=by
     rintro rfl
     rw [hg] at hg'
     injection hg' with hg'
     subst hg'
     exact hq hw
    rw [decide_eq_false hne,Bool.or_false]
 have all:∀ (fuel:Nat) (listed:Array Bool),listed.size=ops.size->((List.range ops.size).countP λ i=>!listed.getD i false)=fuel->tO ops (λ i=>listed.getD i false) ->
   ∀ (a:Act) (w:World) (S:Pin) (m:Nm),Rel G C.kp (apD (λ i=>listed.getD i false) 0 ops.toList gs st) a w S m->a.tmps.size=C.nt->wpAny P .any ops Q fuel listed a w:=by
  have rdy:∀ (listed:Array Bool),listed.size=ops.size->Region.ready .any ops listed=[]->∀ i,i < ops.size->listed.getD i false=true:=by
   intro listed hsz hr i
   induction i using Nat.strongRecOn with
   | _ i ih =>
    intro hi
    cases hl:listed.getD i false with
    | true=>rfl
    | false =>
     have hm:i ∈ Region.ready .any ops listed:=by
      unfold Region.ready
      rw [List.mem_filter]
      refine ⟨List.mem_range.2 hi,?_⟩
      have h1:listed.getD i true=false:=by
       rw [Array.getD_eq_getD_getElem?,Array.getElem?_eq_getElem (by omega)] at hl ⊢
       exact hl
      rw [h1,Array.getElem?_eq_getElem hi]
      simp only [Bool.not_false,Option.map_some,Option.getD_some,Bool.true_and]
      rw [Array.all_eq_true_iff_forall_mem]
      intro e he
      cases hb:Region.binds .any e with
      | false=>simp
      | true =>
       simp only [Bool.not_true,Bool.false_or]
       have:=tN ops.toList 0 hback i ops[i] (by simp [hi]) e he hb
       exact ih e.on (by omega) (by omega)
     rw [hr] at hm
     simp at hm
  have done:∀ (listed:Array Bool),listed.size=ops.size->Region.ready .any ops listed=[]->∀ (a:Act) (w:World) (S:Pin) (m:Nm),Rel G C.kp (apD (λ i=>listed.getD i false) 0 ops.toList gs st) a w S m->a.tmps.size=C.nt->Q .normal a w:=by
   intro listed hsz hr a w S m hR hn
   have:=aLh ops.toList gs 0 st fin htr (λ i=>listed.getD i false) (λ j hj=>by simp only [Nat.zero_add]; exact rdy listed hsz hr j (by simpa using hj))
   rw [this] at hR
   exact hQ a w S m hR hn
  intro fuel
  induction fuel with
  | zero =>
   intro listed hsz hc hD a w S m hR hn
   have hr:Region.ready .any ops listed=[]:=by
    unfold Region.ready
    rw [List.filter_eq_nil_iff]
    intro i hi
    rw [List.countP_eq_zero] at hc
    have:=hc i hi
    have hi':=List.mem_range.1 hi
    have h1:listed.getD i true=true:=by
     rw [Array.getD_eq_getD_getElem?,Array.getElem?_eq_getElem (by omega)] at this ⊢
     simpa using this
    simp [h1]
   exact ⟨hr,done listed hsz hr a w S m hR hn⟩
  | succ fuel ih =>
   intro listed hsz hc hD a w S m hR hn
   refine ⟨λ hr=>done listed hsz hr a w S m hR hn,λ i hi=>?_⟩
   unfold Region.ready at hi
   rw [List.mem_filter] at hi
   obtain ⟨hi1,hi2⟩:=hi
   have hil:=List.mem_range.1 hi1
   simp only [aC,Bool.not_eq_true'] at hi2
   obtain ⟨hl,hdep⟩:=hi2
   have hlf:listed.getD i false=false:=by
    rw [Array.getD_eq_getD_getElem?,Array.getElem?_eq_getElem (by omega)] at hl ⊢
    exact hl
   have ho:ops[i]?=some ops[i]:=Array.getElem?_eq_getElem hil
   rw [ho] at hdep
   simp only [Option.map_some,Option.getD_some,Array.all_eq_true_iff_forall_mem,Bool.or_eq_true,Bool.not_eq_true'] at hdep
   have hdep':∀ e ∈ ops[i].after,Region.binds .any e=true->listed.getD e.on false=true:=by
    intro e he hb
    rcases hdep e he with h1 | h1
    ·rw [hb] at h1; cases h1
    ·exact h1
   obtain ⟨g,hg,hok,hrT,hrN,hfr',hsT,hsN⟩:=step (λ j=>listed.getD j false) hD i ops[i] ho hlf hdep'
   have hset:∀ j,(listed.setIfInBounds i true).getD j false=(listed.getD j false||decide (j=i)):=by
    intro j
    simp only [Array.getD_eq_getD_getElem?]
    by_cases hj:j=i
    ·subst hj
     rw [Array.getElem?_setIfInBounds_self_of_lt (by omega)]; simp
    ·rw [Array.getElem?_setIfInBounds_ne (λ e=>hj e.symm),decide_eq_false hj,Bool.or_false]
   have hfun:(λ j=>(listed.setIfInBounds i true).getD j false)=(λ j=>listed.getD j false||decide (j=i)):=funext hset
   have goOn:∀ (a':Act) (w':World) (S':Pin) (m':Nm),Rel G C.kp ((apD (λ i=>listed.getD i false) 0 ops.toList gs st).upd ops[i].dst g.r g.u) a' w' S' m'->a'.tmps.size=C.nt->wpAny P .any ops Q fuel (listed.setIfInBounds i true) a' w':=by
    intro a' w' S' m' hR' hn'
    refine ih _ (by simpa using hsz) ?_ ?_ a' w' S' m' ?_ hn'
    ·have hc':=hc
     have e1:((List.range ops.size).countP λ j=>!(listed.setIfInBounds i true).getD j false)+1=(List.range ops.size).countP λ j=>!listed.getD j false:=by
      have hnd:=List.nodup_range (n:=ops.size)
      have key:∀ (l:List Nat),l.Nodup->i ∈ l->(l.countP λ j=>!(listed.setIfInBounds i true).getD j false)+1=l.countP λ j=>!listed.getD j false:=by
       intro l
       induction l with
       | nil=>intro _ h; simp at h
       | cons x l ih2 =>
        intro hnd hm
        rw [List.nodup_cons] at hnd
        simp only [List.countP_cons]
        by_cases hx:x=i
        ·subst hx
         have e2:(l.countP λ j=>!(listed.setIfInBounds x true).getD j false)=l.countP λ j=>!listed.getD j false:=by
          refine List.countP_congr (λ j hj=>?_)
          have:j≠x:=by rintro rfl; exact hnd.1 hj
          rw [hset,decide_eq_false this,Bool.or_false]
         rw [e2,hset,hlf]
         simp
        ·have hm':i ∈ l:=by
          rcases List.mem_cons.1 hm with h | h
          ·exact absurd h.symm hx
          ·exact h
         have:=ih2 hnd.2 hm'
         rw [hset,decide_eq_false hx,Bool.or_false]
         omega
      exact key _ hnd (List.mem_range.2 hil)
     omega
    ·rw [hfun]
     intro q o' hq hDq e he hb
     simp only [Bool.or_eq_true,decide_eq_true_eq] at hDq ⊢
     rcases hDq with hDq | rfl
     ·exact .inl (hD q o' hq hDq e he hb)
     ·rw [ho] at hq
      injection hq with hq
      subst hq
      exact .inl (hdep' e he hb)
    ·rw [hfun]
     exact hR'.congr hsT hsN
   unfold wpOp
   rw [ho]
   simp only
   have hwant:Region.wanted ops[i] (yielded ops a.tmps)=g.ex:=by
    have hw:=hok.1
    unfold rV at hw
    cases hgd:ops[i].guard with
    | none=>rw [hgd] at hw; simp only at hw; rw [hw]; simp [Region.wanted,hgd]
    | some jw =>
     obtain ⟨j,want⟩:=jw
     rw [hgd] at hw
     simp only at hw
     obtain ⟨t,ht,hcase⟩:=hw
     have hT:=hrT t (aEx hgd ht)
     rcases hcase with ⟨c,hc1,hc2⟩ | ⟨hc1,hc2⟩
     ·have hs:=tA hR (hT.trans hc1)
      have hy:yielded ops a.tmps j=some c:=by
       unfold yielded
       rw [ht]
       simp only [Option.bind_some,hs]
      rw [hc2]
      simp only [Region.wanted,hgd,hy]
      cases c <;> cases want <;> rfl
     ·have hs:=pZ hR (hT.trans hc1)
      have hy:yielded ops a.tmps j=none:=by
       unfold yielded
       rw [ht]
       simp only [Option.bind_some]
      rw [hc2]
      simp only [Region.wanted,hgd,hy]
      rfl
   rw [hwant]
   cases hex:g.ex with
   | true =>
    rw [if_pos rfl]
    refine .inl (hok.2.2.1 hex G C.kp (apD (λ i=>listed.getD i false) 0 ops.toList gs st) a w S m _ Q hG hR hn (λ x hx=>?_) hrN hfr' (λ v w' S' m' _ hR'=>goOn _ _ _ _ hR' (by rw [dY]; exact hn)))
    cases x with
    | tmp t=>exact hrT t (aP9 hx)
    | _=>rfl
   | false =>
    rw [if_neg (by simp)]
    obtain ⟨e1,e2⟩:=hok.2.2.2 hex
    refine goOn _ _ S m ?_ (by rw [dY]; exact hn)
    rw [e1,e2]
    exact xL hR (by rw [hn]; exact hok.2.1)
 have hR1:Rel G C.kp (apD (λ i=>(Array.replicate ops.size false).getD i false) 0 ops.toList gs st) a w.drew S m:=by
  have:∀ (os:List Oper) (gs:List Lg) (b:Nat) (s:St),apD (λ i=>(Array.replicate ops.size false).getD i false) b os gs s=s:=by
   intro os
   induction os with
   | nil=>intro gs b s; simp [apD]
   | cons o os ih =>
    intro gs b s
    cases gs with
    | nil=>simp [apD]
    | cons g gs =>
     simp only [apD]
     rw [if_neg (by simp [Array.getD_eq_getD_getElem?,Array.getElem?_replicate]; split <;> simp)]
     exact ih gs (b+1) s
  rw [this]
  exact hR.drew
 refine all ops.size _ (by simp) ?_ ?_ a w.drew S m hR1 hn
 ·rw [List.countP_eq_length.2]
  ·simp
  ·intro i _
   simp [Array.getD_eq_getD_getElem?,Array.getElem?_replicate]
   split <;> simp
 ·intro i o _ hDi
  exfalso
  simp [Array.getD_eq_getD_getElem?,Array.getElem?_replicate] at hDi
  split at hDi <;> simp at hDi
theorem kS (hT:TyOK P C.tys) (hS:cF P E) {ops:Array Oper} {Q:Exit->Act->World->Prop} (hG:GOK E G.S0) {k:St->Prop} (h:aLa P E C ops st k)
  (hR:Rel G C.kp st a w S m) (hn:a.tmps.size=C.nt)
  (hQ:∀ st' a' w' S' m',k st'->Rel G C.kp st' a' w' S' m'->a'.tmps.size=C.nt->Q .normal a' w') :
  wpAny P .any ops Q ops.size (Array.replicate ops.size false) a { w with drawn:=w.drawn+1 }:=by
 unfold aLa at h
 obtain ⟨gs,fin,htr,hk⟩:=wX hT hS _ _ _ _ h
 simp only [List.nil_append] at hk
 obtain ⟨hord,hk⟩:=aW hk
 exact aEb hG htr hord hR hn λ a' w' S' m' hR' hn'=>hQ fin a' w' S' m' hk hR' hn'
open Go.RowKit (Below)
variable {P:Program} {S:Pin} {m:Nm} {w:World} {a:Act} {G:Gh} {kp:List Nat} {st:St} {E:Env} {C:Cx}
mutual
def aXd:AV->List Nat
 | .rw k _ _=>[k]
 | .agg cs=>aQP cs
 | .tup cs=>aQP cs
 | .fn _ cs=>aQP cs
 | _=>[]
def aQP:List AV->List Nat
 | []=>[]
 | x::xs=>aXd x++aQP xs
end
def uF (st:St):List Nat->List Nat
 | []=>[]
 | t::l=>cond (Nat.ble 1000000 t) [Nat.sub t 1000000] (aXd (st.get t))++uF st l
def yM (k:Nat) (x:AV):AV:=cond (nn k x) x .dead
def mU (k:Nat):List AV->List AV
 | []=>[]
 | x::xs=>yM k x::mU k xs
def fI (k:Nat):List (Nat × AV)->List (Nat × AV)
 | []=>[]
 | (t,x)::l=>(t,yM k x)::fI k l
def lS (k:Nat):LL->LL
 | []=>[]
 | x::xs=>mU k x::lS k xs
theorem aCM (k:Nat):∀ (l:List AV) (i:Nat),(mU k l)[i]?=(l[i]?).map (yM k)
 | [],i=>by simp [mU]
 | y::l,0=>by simp [mU]
 | y::l,i+1=>by simp only [mU,List.getElem?_cons_succ]; exact aCM k l i
theorem yL (k:Nat):∀ (l:LL) (i:Nat),(lS k l)[i]?=(l[i]?).map (mU k)
 | [],i=>by simp [lS]
 | y::l,0=>by simp [lS]
 | y::l,i+1=>by simp only [lS,List.getElem?_cons_succ]; exact yL k l i
theorem yK (k:Nat):∀ (l:List AV),(mU k l).length=l.length
 | []=>rfl
 | y::l=>by simp [mU,yK k l]
theorem mT (k:Nat):∀ (l:LL),(lS k l).length=l.length
 | []=>rfl
 | y::l=>by simp [lS,mT k l]
def rS (k:Nat):Blk->Blk
 | .cells cs=>.cells (mU k cs)
 | .row e s xs=>cond (Nat.blt e 2000000) (.row e s xs) (.row e s (lS k xs))
 | .nrow e s ks xs=>cond (inL k ks) (.nrow e s (rmN k ks) (kC (yM k) xs)) (.nrow e s ks xs)
 | b=>b
def cR (k:Nat):List (Nat × Blk)->List (Nat × Blk)
 | []=>[]
 | (j,b)::l=>cond (Nat.beq j k) (cR k l) ((j,rS k b)::cR k l)
theorem oU {v:Value} {x:AV} (k:Nat) (h:CV S x m v):CV S (yM k x) m v:=by
 unfold yM
 cases nn k x with
 | true=>exact h
 | false=>simp only [cond_false,CV]
theorem aCL (k:Nat):∀ {xs:List AV} {vs:List Value},CVl S xs m vs->CVl S (mU k xs) m vs
 | [],vs,h=>by simp only [mU]; exact h
 | x::xs,vs,h=>by
  simp only [CVl,mU] at h ⊢
  obtain ⟨u,us,e,h1,h2⟩:=h
  exact ⟨u,us,e,oU k h1,aCL k h2⟩
theorem aCK (k t:Nat):∀ (l:List (Nat × AV)),lk (fI k l) t=(lk l t).map (yM k)
 | []=>rfl
 | (j,x)::l=>by
  simp only [fI,lk]
  cases Nat.beq j t with
  | true=>rfl
  | false=>exact aCK k t l
theorem gW (k t:Nat):∀ (l:List (Nat × Blk)) (b:Blk),lk (cR k l) t=some b->∃ b0,lk l t=some b0∧b=rS k b0
 | [],b,h=>by simp [cR,lk] at h
 | (j,x)::l,b,h=>by
  simp only [cR] at h
  cases hj:Nat.beq j k with
  | true =>
   rw [hj] at h
   simp only [cond_true] at h
   obtain ⟨b0,h1,h2⟩:=gW k t l b h
   simp only [lk]
   cases hjt:Nat.beq j t with
   | false=>exact ⟨b0,h1,h2⟩
   | true =>
    have e1:=aA hj
    have e2:=aA hjt
    subst e1; subst e2
    exfalso
    have key:∀ (l:List (Nat × Blk)),lk (cR j l) j=none:=by
     intro l
     induction l with
     | nil=>rfl
     | cons p l ih =>
      obtain ⟨i,y⟩:=p
      simp only [cR]
      cases hi:Nat.beq i j with
      | true=>exact ih
      | false=>simp only [cond_false,lk,hi]; exact ih
    rw [key] at h; cases h
  | false =>
   rw [hj] at h
   simp only [cond_false,lk] at h ⊢
   cases hjt:Nat.beq j t with
   | true =>
    rw [hjt] at h
    simp only [cond_true,aJ] at h ⊢
    exact ⟨x,rfl,h.symm⟩
   | false =>
    rw [hjt] at h
    simp only [cond_false] at h ⊢
    exact gW k t l b h
theorem jT (h:Rel G kp st a w S m) (k:Nat):Rel G kp ⟨fI k st.tmps,cR k st.heap⟩ a w S m:=by
 refine h.weaken (λ t v hv=>?_) (λ j b hj=>?_)
 ·unfold St.get at hv ⊢
  simp only [aCK]
  cases e:lk st.tmps t with
  | none=>rw [e] at hv; exact hv
  | some x=>rw [e] at hv; exact oU k hv
 ·obtain ⟨b0,h1,h2⟩:=gW k j _ b hj
  refine ⟨⟨b0,h1⟩,?_⟩
  have hh:=h.held j b0 h1
  subst h2
  cases b0 with
  | cells cs =>
   obtain ⟨g,arr,t,p1,p2,p3,p4⟩:=hh
   exact ⟨g,arr,t,p1,p2,aCL k p3,p4⟩
  | row e s xs =>
   cases hb:Nat.blt e 2000000 with
   | true =>
    have e1:rS k (.row e s xs)=.row e s xs:=by simp only [rS,hb,cond_true]
    rw [e1]; exact hh
   | false =>
    have he:¬ e < 2000000:=λ q=>by
     have:Nat.blt e 2000000=true:=Nat.ble_eq_true_of_le q
     rw [hb] at this; cases this
    have e1:rS k (.row e s xs)=.row e s (lS k xs):=by simp only [rS,hb,cond_false]
    rw [e1]
    obtain ⟨A,c,p1,p2,p3,p4⟩:=hh
    refine ⟨A,c,by rw [mT]; exact p1,by rw [mT]; exact p2,p3,?_⟩
    rcases p4 with p4 | ⟨g,cur,fr,rfl,p5,p6,p7,p8,p9⟩
    ·exact .inl p4
    ·refine .inr ⟨g,cur,fr,rfl,p5,p6,p7,p8,λ q x hx=>?_⟩
     rw [yL] at hx
     cases hy:xs[q]? with
     | none=>rw [hy] at hx; cases hx
     | some x0 =>
      rw [hy] at hx
      simp only [Option.map_some,aJ] at hx
      subst hx
      obtain ⟨r1,r2⟩:=p9 q x0 hy
      refine ⟨by rw [yK]; exact r1,λ i y hi=>?_⟩
      rw [aCM] at hi
      cases hz:x0[i]? with
      | none=>rw [hz] at hi; cases hi
      | some y0 =>
       rw [hz] at hi
       simp only [Option.map_some,aJ] at hi
       subst hi
       obtain ⟨v,q1,q2,q3⟩:=r2 i y0 hz
       rw [bN he] at q3 ⊢
       exact ⟨v,q1,q2,oU k q3⟩
  | nrow e s ks xs =>
   cases hb:inL k ks with
   | false =>
    have e1:rS k (.nrow e s ks xs)=.nrow e s ks xs:=by simp only [rS,hb,cond_false]
    rw [e1]; exact hh
   | true =>
    have e1:rS k (.nrow e s ks xs)=.nrow e s (rmN k ks) (kC (yM k) xs):=by simp only [rS,hb,cond_true]
    rw [e1]
    exact ⟨hh.1.mapA _ rfl (λ _ _ _ _ _=>rfl) (λ _ _ _ y _ _ v hv=>oU k hv),hh.2.mapA λ y i hy hn=>aCk (hy i (aNY hn).1) (aNY hn).2⟩
  | tok e s n=>exact hh
  | mp a b l=>exact hh
  | gone=>exact hh
def yO:AV->Bool
 | .nils=>true
 | _=>false
def aMw:List AV->Nat->AV->(List AV->Prop)->Prop
 | _::cs,0,x,k=>k (x::cs)
 | c::cs,n+1,x,k=>aMw cs n x λ l=>k (c::l)
 | [],_,_,_=>False
theorem uG:∀ {cs:List AV} {n:Nat} {x:AV} {k:List AV->Prop},aMw cs n x k->k (cs.set n x)∧n < cs.length
 | c::cs,0,x,k,h=>by simp only [aMw] at h; exact ⟨h,by simp⟩
 | c::cs,n+1,x,k,h=>by
  simp only [aMw] at h
  have:=uG h
  exact ⟨this.1,by simp; exact this.2⟩
 | [],_,_,_,h=>by simp [aMw] at h
def aAU:List AV->Nat->Bool
 | x::_,0=>yO x
 | _::l,n+1=>aAU l n
 | [],_=>false
theorem yE:∀ {cs:List AV} {n:Nat},aAU cs n=true->cs[n]?=some .nils
 | x::_,0,h=>by cases x <;> first | rfl | cases h
 | _::l,n+1,h=>by simp only [aAU] at h; simpa using yE h
 | [],_,h=>by cases h
theorem CVl.setAt {cs:List AV} {vs:List Value} {n:Nat} {x:AV} (h:CVl S cs m vs) (hx:∀ v,vs[n]?=some v->CV S x m v):CVl S (cs.set n x) m vs:=by
 refine CVl.mk (by simp; exact h.len) λ j y v e1 e2=>?_
 rw [List.getElem?_set] at e1
 split at e1
 ·rename_i hj
  subst hj
  split at e1
  ·simp only [aJ] at e1; subst e1; exact hx v e2
  ·cases e1
 ·obtain ⟨v',h1,h2⟩:=h.get e1
  rw [e2] at h1
  injection h1 with h1
  subst h1; exact h2
def noB:Option Blk->Bool
 | none=>true
 | some _=>false
def aVF (kp:List Nat) (st:St) (t k:Nat) (K:St->Prop):Prop:=match st.get t with
 | .rw j s n=>(match lk st.heap j with
  | some (.row e s' xs)=>cond (Nat.blt e 2000000) (nW ⟨fI j (fI k st.tmps),cR j (cR k st.heap)⟩ λ st1=>cond (fresh kp st1 k&&noB (lk st1.heap j)) (match st1 with | ⟨tm,hp⟩=>aBc tm t (.rw k s n) λ tm=>aBc hp k (.row e s' xs) λ hp=>K ⟨tm,hp⟩) False) False
  | _=>False)
 | _=>False
theorem Rel.renm (h:Rel G kp st a w S m) {k:Nat} (hf:fresh kp st k=true) {b:Blk} {u:Value} (hinj:∀ j' b' u' g,lk st.heap j'=some b'->m j'=some u'->bk u=some g->bk u'≠some g)
  (hown:∀ g,bk u=some g->G.w0.heap.size≤g∨G.M g) (hh:fJ S (m.set k u) w k b):Rel G kp (st.blk k b) a w S (m.set k u):=by
 have hf':=hf
 simp only [fresh,aC,Bool.not_eq_true'] at hf'
 obtain ⟨⟨hT,hH⟩,hK⟩:=hf'
 refine { h with defers:=h.defers,tmps:=λ t=>(h.tmps t).set (qH hf t),held:=?_,inj:=?_,own:=?_,m0:=?_ }
 ·intro j c hj
  simp only [St.blk,bS] at hj
  by_cases e:j=k
  ·subst e
   rw [if_pos rfl] at hj
   injection hj with hj
   subst hj; exact hh
  ·rw [if_neg e] at hj
   refine (h.held j c hj).keep (Ext.refl _) (λ cs vs hc hv=>hv.set ?_) (Nm.set_ne m u e) (λ _ _ _ _=>⟨rfl,λ _=>rfl⟩)
   exact aFT (uZ hH hj e) hc
 ·intro j j' c c' v v' g hj hj' hne hv hv' hg hg'
  simp only [St.blk,bS] at hj hj'
  by_cases e:j=k
  ·subst e
   rw [Nm.set_same] at hv
   injection hv with hv
   subst hv
   rw [if_neg (λ q=>hne q.symm)] at hj'
   rw [Nm.set_ne m _ (λ q=>hne q.symm)] at hv'
   exact hinj j' c' v' g hj' hv' hg hg'
  ·rw [if_neg e] at hj
   rw [Nm.set_ne m _ e] at hv
   by_cases e':j'=k
   ·subst e'
    rw [Nm.set_same] at hv'
    injection hv' with hv'
    subst hv'
    exact hinj j c v g hj hv hg' hg
   ·rw [if_neg e'] at hj'
    rw [Nm.set_ne m _ e'] at hv'
    exact h.inj j j' c c' v v' g hj hj' hne hv hv' hg hg'
 ·intro j c v g hj hv hg
  simp only [St.blk,bS] at hj
  by_cases e:j=k
  ·subst e
   rw [Nm.set_same] at hv
   injection hv with hv
   subst hv
   exact hown g hg
  ·rw [if_neg e] at hj
   rw [Nm.set_ne m _ e] at hv
   exact h.own j c v g hj hv hg
 ·intro j v hj
  obtain ⟨v',hv',hg⟩:=h.m0 j v hj
  have:j≠k:=λ e=>gZ hK (e ▸ h.keep j v hj)
  exact ⟨v',by rw [Nm.set_ne m _ this]; exact hv',hg⟩
theorem Rel.put_ (h:Rel G kp st a w S m) {t:Nat} {x:AV} (hx:CV S x m (a.tmps.getD t undef)):Rel G kp (st.put t x) a w S m :=
 { h with defers:=h.defers,tmps:=(λ q=>by
   rw [St.get_put]
   by_cases e:q=t
   ·subst e; rw [if_pos rfl]; exact hx
   ·rw [if_neg e]; exact h.tmps q),held:=h.held,inj:=h.inj,own:=h.own }
theorem aDA {t k:Nat} {K:St->Prop} (H:aVF kp st t k K) (h:Rel G kp st a w S m):∃ st' m',K st'∧Rel G kp st' a w S m':=by
 unfold aVF at H
 split at H
 ·rename_i j s n ht
  split at H
  ·rename_i e s' xs hj
   obtain ⟨he,H⟩:=aW H
   have he:e < 2000000:=aK he
   rw [gO] at H
   obtain ⟨hc,H⟩:=aW H
   simp only [aC] at hc
   obtain ⟨hf,hno⟩:=hc
   have hno:lk (cR j (cR k st.heap)) j=none:=by
    cases q:lk (cR j (cR k st.heap)) j with
    | none=>rfl
    | some b=>rw [q] at hno; cases hno
   simp only [eS] at H
   have h2:=jT (jT h k) j
   obtain ⟨A,c,hm,q1,q2,q3⟩:=h.held j _ hj
   have htm:=h.tmps t
   rw [ht] at htm
   have h3:=h2.renm hf (b:=.row e s' xs) (u:=.iface 0 (.slice A xs.length c)) (λ j' b' u' g hj' hu' hg=>by
    obtain ⟨b1,p1,_⟩:=gW j j' (cR k st.heap) b' hj'
    obtain ⟨b0,p0,_⟩:=gW k j' st.heap b1 p1
    refine h.inj j j' _ b0 _ u' g hj p0 (λ z=>?_) hm hu' hg
    subst z
    rw [show lk (St.mk (fI j (fI k st.tmps)) (cR j (cR k st.heap))).heap j=none from hno] at hj'
    cases hj') (λ g hg=>h.own j _ _ g hj hm hg) ⟨A,c,Nm.set_same _ _ _,q1,q2,by
     rcases q3 with z | ⟨g,cur,fr,z1,z2,z3,z4,z5,z6⟩
     ·exact .inl z
     ·refine .inr ⟨g,cur,fr,z1,z2,z3,z4,z5,λ i x hx=>?_⟩
      obtain ⟨y1,y2⟩:=z6 i x hx
      rw [bG he] at y2
      rw [bG he]
      exact ⟨y1,y2⟩⟩
   refine ⟨_,_,H,h3.put_ (t:=t) (x:=.rw k s n) ?_⟩
   simp only [CV] at htm ⊢
   rw [Nm.set_same,← hm]
   exact htm
  ·exact H.elim
 ·exact H.elim
def aMB:List AV->Nat->Option (Nat × Nat × Nat)
 | .rw j s n::_,0=>some (j,s,n)
 | _::l,n+1=>aMB l n
 | _,_=>none
theorem aCh:∀ {cs:List AV} {n j s q:Nat},aMB cs n=some (j,s,q)->cs[n]?=some (.rw j s q)
 | x::_,0,_,_,_,h=>by cases x <;> simp_all [aMB]
 | _::l,n+1,_,_,_,h=>by simp only [aMB] at h; simpa using aCh h
 | [],_,_,_,_,h=>by simp [aMB] at h
def aQQ (cs:List AV) (n k:Nat):Bool:=match aMB cs n with | some (j,_,_)=>!(Nat.beq j k) | none=>false
def aVG (kp:List Nat) (st:St) (b:Nat) (cs:List AV) (n k:Nat) (K:St->Prop):Prop:=match aMB cs n with
 | some (j,s,q)=>(match lk st.heap j with
  | some (.row e s' xs)=>cond (Nat.blt e 2000000&&!(Nat.beq k b)) (nW ⟨fI j (fI k st.tmps),cR j (cR k st.heap)⟩ λ st1=>cond (fresh kp st1 k&&noB (lk st1.heap j)) (match lk st1.heap b with
   | some (.cells cs1)=>aMw cs1 n (.rw k s q) λ cs'=>(match st1 with | ⟨tm,hp⟩=>aBc hp k (.row e s' xs) λ hp=>aBc hp b (.cells cs') λ hp=>K ⟨tm,hp⟩)
   | _=>False) False) False
  | _=>False)
 | none=>False
theorem aJI (h:Rel G kp st a w S m) {j k e s':Nat} {xs:LL} (hj:lk st.heap j=some (.row e s' xs)) (he:e < 2000000)
  (hf:fresh kp ⟨fI j (fI k st.tmps),cR j (cR k st.heap)⟩ k=true) (hno:lk (cR j (cR k st.heap)) j=none):∃ u,m j=some u∧Rel G kp ((St.mk (fI j (fI k st.tmps)) (cR j (cR k st.heap))).blk k (.row e s' xs)) a w S (m.set k u):=by
 have h2:=jT (jT h k) j
 obtain ⟨A,c,hm,q1,q2,q3⟩:=h.held j _ hj
 refine ⟨_,hm,h2.renm hf (b:=.row e s' xs) (u:=.iface 0 (.slice A xs.length c)) (λ j' b' u' g hj' hu' hg=>?_) (λ g hg=>h.own j _ _ g hj hm hg) ⟨A,c,Nm.set_same _ _ _,q1,q2,?_⟩⟩
 ·obtain ⟨b1,p1,_⟩:=gW j j' (cR k st.heap) b' hj'
  obtain ⟨b0,p0,_⟩:=gW k j' st.heap b1 p1
  refine h.inj j j' _ b0 _ u' g hj p0 (λ z=>?_) hm hu' hg
  subst z
  rw [show lk (St.mk (fI j (fI k st.tmps)) (cR j (cR k st.heap))).heap j=none from hno] at hj'
  cases hj'
 ·rcases q3 with z | ⟨g,cur,fr,z1,z2,z3,z4,z5,z6⟩
  ·exact .inl z
  ·refine .inr ⟨g,cur,fr,z1,z2,z3,z4,z5,λ i x hx=>?_⟩
   obtain ⟨y1,y2⟩:=z6 i x hx
   rw [bG he] at y2
   rw [bG he]
   exact ⟨y1,y2⟩
theorem aDB {b n k:Nat} {cs:List AV} {K:St->Prop} (hcs:lk st.heap b=some (.cells cs)) (H:aVG kp st b cs n k K) (h:Rel G kp st a w S m):∃ st' m',K st'∧Rel G kp st' a w S m':=by
 unfold aVG at H
 split at H
 ·rename_i j s q hrw
  split at H
  ·rename_i e s' xs hj
   obtain ⟨he,H⟩:=aW H
   simp only [aC,Bool.not_eq_true'] at he
   obtain ⟨he,hkb⟩:=he
   have he:e < 2000000:=aK he
   have hkb:b≠k:=λ z=>by rw [z,aY] at hkb; cases hkb
   rw [gO] at H
   obtain ⟨hc,H⟩:=aW H
   simp only [aC] at hc
   obtain ⟨hf,hno⟩:=hc
   have hno:lk (cR j (cR k st.heap)) j=none:=by
    cases q:lk (cR j (cR k st.heap)) j with
    | none=>rfl
    | some b=>rw [q] at hno; cases hno
   obtain ⟨u,hu,h3⟩:=aJI h hj he hf hno
   split at H
   ·rename_i cs1 hcs1
    obtain ⟨H,hlt⟩:=uG H
    simp only [eS] at H
    refine ⟨_,m.set k u,H,?_⟩
    obtain ⟨g0,arr0,ty0,o1,o2,o3,o4⟩:=h.held _ _ hcs
    obtain ⟨v0,w1,w2⟩:=o3.get (aCh hrw)
    refine h3.weaken (λ t v hv=>hv) (λ i d hi=>?_)
    simp only [bS] at hi
    by_cases hib:i=b
    ·subst hib
     rw [if_pos rfl] at hi
     injection hi with hi
     subst hi
     have hk:lk ((St.mk (fI j (fI k st.tmps)) (cR j (cR k st.heap))).blk k (.row e s' xs)).heap i=some (.cells cs1):=by
      simp only [St.blk,bS]; rw [if_neg hkb]; exact hcs1
     refine ⟨⟨_,hk⟩,?_⟩
     obtain ⟨g,arr,ty,p1,p2,p3,p4⟩:=h3.held _ _ hk
     refine ⟨g,arr,ty,p1,p2,p3.setAt λ v hv=>?_,p4⟩
     rw [Nm.set_ne m _ hkb,o1] at p1
     injection p1 with p1
     injection p1 with p1
     injection p1 with p1
     injection p1 with p1
     subst p1
     rw [o2] at p2
     injection p2 with p2
     injection p2 with p2
     subst p2
     rw [w1] at hv
     injection hv with hv
     subst hv
     simp only [CV] at w2 ⊢
     rw [Nm.set_same,← hu]
     exact w2
    ·rw [if_neg hib] at hi
     have hk:lk ((St.mk (fI j (fI k st.tmps)) (cR j (cR k st.heap))).blk k (.row e s' xs)).heap i=some d:=by simp only [St.blk,bS]; exact hi
     exact ⟨⟨d,hk⟩,h3.held _ _ hk⟩
   ·exact H.elim
  ·exact H.elim
 ·exact H.elim
def aIT (kp:List Nat):List (Nat × Nat × Nat × Nat)->St->(St->Prop)->Prop
 | [],st,K=>K st
 | (t,k,e,s)::l,st,K=>cond (Nat.ble 1000000 t)
  (match lk st.heap (Nat.div (Nat.sub t 1000000) 100) with
   | some (.cells cs)=>cond (aAU cs (Nat.mod t 100)&&fresh kp st k&&!(Nat.beq k (Nat.div (Nat.sub t 1000000) 100))) (aMw cs (Nat.mod t 100) (.rw k s 0) λ cs'=>match st with | ⟨tm,hp⟩=>aBc hp k (.row e s []) λ hp=>aBc hp (Nat.div (Nat.sub t 1000000) 100) (.cells cs') λ hp=>aIT kp l ⟨tm,hp⟩ K) (cond (aAU cs (Nat.mod t 100)) (nW ⟨fI k st.tmps,cR k st.heap⟩ λ st=>aIT kp l st K) (cond (aQQ cs (Nat.mod t 100) k) (aVG kp st (Nat.div (Nat.sub t 1000000) 100) cs (Nat.mod t 100) k λ st=>aIT kp l st K) (aIT kp l st K)))
   | _=>False)
  (cond (yO (st.get t)&&fresh kp st k) (match st with | ⟨tm,hp⟩=>aBc tm t (.rw k s 0) λ tm=>aBc hp k (.row e s []) λ hp=>aIT kp l ⟨tm,hp⟩ K) (aVF kp st t k λ st=>aIT kp l st K))
theorem aC6 {k e s:Nat} (hf:fresh kp st k=true) (h:Rel G kp st a w S m):Rel G kp (st.blk k (.row e s [])) a w S (m.set k (.iface 0 (.slice none 0 0))) :=
 h.fresh_ hf (Go.RowKit.Below.refl _ _) (Ext.refl S) (λ _ _ _=>rfl) h.agree (λ g hg=>by simp [bk] at hg)
  ⟨none,0,Nm.set_same _ _ _,Nat.le_refl _,by simp [maxLen],.inl ⟨rfl,rfl⟩⟩
theorem aLL {k s:Nat}:CV S (.rw k s 0) (m.set k (.iface 0 (.slice none 0 0))) (.slice none 0 0):=by
 simp only [CV]
 exact ⟨⟨none,0,rfl,Nat.le_refl _,by simp [maxLen],λ _=>rfl,λ a e=>by cases e⟩,none,0,0,Nm.set_same _ _ _,Nat.le_refl _,λ _=>rfl⟩
theorem dA:∀ (l:List (Nat × Nat × Nat × Nat)) (st:St) (S:Pin) (m:Nm) (K:St->Prop),aIT kp l st K->Rel G kp st a w S m->∃ st' S' m',K st'∧Rel G kp st' a w S' m'
 | [],st,S,m,K,H,h=>⟨st,S,m,H,h⟩
 | (t,k,e,s)::l,st,S,m,K,H,h=>by
  simp only [aIT] at H
  cases hb1:Nat.ble 1000000 t with
  | true =>
   rw [hb1] at H
   simp only [cond_true] at H
   split at H
   ·rename_i cs hcs
    cases hb:(aAU cs (Nat.mod t 100)&&fresh kp st k&&!(Nat.beq k (Nat.div (Nat.sub t 1000000) 100))) with
    | false =>
     rw [hb] at H
     simp only [cond_false] at H
     cases hb3:aAU cs (Nat.mod t 100) with
     | false =>
      rw [hb3] at H
      simp only [cond_false] at H
      cases hb4:aQQ cs (Nat.mod t 100) k with
      | false=>rw [hb4] at H; exact dA l st S m K H h
      | true =>
       rw [hb4] at H
       simp only [cond_true] at H
       obtain ⟨st',m',H,hR⟩:=aDB hcs H h
       exact dA l st' S m' K H hR
     | true=>rw [hb3] at H; simp only [cond_true,gO] at H; exact dA l _ S m K H (jT h k)
    | true =>
    rw [hb] at H
    simp only [cond_true] at H
    simp only [aC,Bool.not_eq_true'] at hb
    obtain ⟨⟨hn,hf⟩,hne⟩:=hb
    obtain ⟨H,hlt⟩:=uG H
    have hne:Nat.div (Nat.sub t 1000000) 100≠k:=λ q=>by rw [← q,aY] at hne; cases hne
    have h1:=aC6 (e:=e) (s:=s) hf h
    have h2:Rel G kp ((st.blk k (.row e s [])).blk (Nat.div (Nat.sub t 1000000) 100) (.cells (cs.set (Nat.mod t 100) (.rw k s 0)))) a w S (m.set k (.iface 0 (.slice none 0 0))):=by
     refine h1.weaken (λ q v hq=>hq) (λ j b hj=>?_)
     simp only [St.blk,bS] at hj
     by_cases hjt:j=Nat.div (Nat.sub t 1000000) 100
     ·subst hjt
      rw [if_pos rfl] at hj
      injection hj with hj
      subst hj
      have hk:lk (st.blk k (.row e s [])).heap (Nat.div (Nat.sub t 1000000) 100)=some (.cells cs):=by
       simp only [St.blk,bS]; rw [if_neg hne]; exact hcs
      refine ⟨⟨_,hk⟩,?_⟩
      obtain ⟨g,arr,ty,p1,p2,p3,p4⟩:=h1.held _ _ hk
      refine ⟨g,arr,ty,p1,p2,p3.setAt λ v hv=>?_,p4⟩
      obtain ⟨v',q1,q2⟩:=p3.get (yE hn)
      rw [hv] at q1
      injection q1 with q1
      subst q1
      simp only [CV] at q2
      subst q2
      exact aLL
     ·rw [if_neg hjt] at hj
      have hk:lk (st.blk k (.row e s [])).heap j=some b:=by simp only [St.blk,bS]; exact hj
      exact ⟨⟨b,hk⟩,h1.held _ _ hk⟩
    obtain ⟨tm,hp⟩:=st
    simp only [eS] at H
    exact dA l _ S _ K H h2
   ·exact H.elim
  | false =>
  rw [hb1] at H
  simp only [cond_false] at H
  cases hb:(yO (st.get t)&&fresh kp st k) with
  | false =>
   rw [hb] at H
   simp only [cond_false] at H
   obtain ⟨st',m',H,hR⟩:=aDA H h
   exact dA l st' S m' K H hR
  | true =>
  rw [hb] at H
  simp only [cond_true] at H
  simp only [aC] at hb
  obtain ⟨hn,hf⟩:=hb
  have hnil:st.get t=.nils:=by
   cases e:st.get t <;> rw [e] at hn <;> first | rfl | cases hn
  have h1:=aC6 (e:=e) (s:=s) hf h
  have hv:CV S .nils m (a.tmps.getD t undef):=hnil ▸ h.tmps t
  simp only [CV] at hv
  have h2:Rel G kp ((st.blk k (.row e s [])).put t (.rw k s 0)) a w S (m.set k (.iface 0 (.slice none 0 0))):=by
   refine h1.weaken (λ q v hq=>?_) (λ j b hj=>⟨⟨b,hj⟩,h1.held j b hj⟩)
   rw [St.get_put]
   by_cases hqt:q=t
   ·subst hqt
    rw [if_pos rfl]
    have hq':CV S .nils (m.set k (.iface 0 (.slice none 0 0))) v:=by
     have:(st.blk k (.row e s [])).get q=.nils:=hnil
     rw [this] at hq; exact hq
    simp only [CV] at hq'
    subst hq'
    exact aLL
   ·rw [if_neg hqt]; exact hq
  obtain ⟨tm,hp⟩:=st
  simp only [eS] at H
  exact dA l _ S _ K H h2
def yH (fr:Nat):List Oper->List Nat
 | []=>[]
 | o::l=>match o.op,o.dst with
  | .alloc _,some d=>Nat.add fr d::yH fr l
  | .box _ _,some d=>Nat.add fr d::yH fr l
  | .buildSlice _ _ _,some d=>Nat.add fr d::yH fr l
  | .makeSlice _ _ _,some d=>Nat.add fr d::yH fr l
  | .convert _ _ _,some d=>Nat.add fr d::yH fr l
  | .makeMap _ _,some d=>Nat.add fr d::yH fr l
  | _,_=>yH fr l
def aGH (kp:List Nat):List Nat->St->(St->Prop)->Prop
 | [],st,K=>K st
 | k::l,st,K=>cond (fresh kp st k) (aGH kp l st K) (nW ⟨fI k st.tmps,cR k st.heap⟩ λ st=>aGH kp l st K)
theorem gV:∀ (l:List Nat) (st:St) (K:St->Prop),aGH kp l st K->Rel G kp st a w S m->∃ st',K st'∧Rel G kp st' a w S m
 | [],st,K,H,h=>⟨st,H,h⟩
 | k::l,st,K,H,h=>by
  simp only [aGH] at H
  cases hb:fresh kp st k with
  | true=>rw [hb] at H; exact gV l st K H h
  | false =>
   rw [hb] at H
   simp only [cond_false,gO] at H
   exact gV l _ K H (jT h k)
structure LInv where
 X:Type
 S:X->St
 p:X->Prop
 m:X->Nat
 cs:Option (List X):=none
def LInv.listed (L:LInv) (K:L.X->Prop):List L.X->Prop
 | []=>True
 | x::l=>(L.p x->K x)∧L.listed K l
def aGM {α:Type} (x:α):List α->Prop
 | []=>False
 | y::l=>x=y∨aGM x l
def LInv.all (L:LInv) (K:L.X->Prop):Prop:=match L.cs with
 | none=>∀ x,L.p x->K x
 | some l=>(∀ x,L.p x->aGM x l)∧L.listed K l
theorem LInv.all_get {L:LInv} {K:L.X->Prop} (h:L.all K) (x:L.X) (hx:L.p x):K x:=by
 unfold LInv.all at h
 split at h
 ·exact h x hx
 ·obtain ⟨h1,h2⟩:=h
  have key:∀ l:List L.X,aGM x l->L.listed K l->K x:=by
   intro l
   induction l with
   | nil=>intro h _; exact h.elim
   | cons y l ih =>
    intro h k
    rcases h with rfl | h
    ·exact k.1 hx
    ·exact ih h k.2
  exact key _ (h1 x hx) h2
def leT (st:St):List (Nat × AV)->Prop
 | []=>True
 | (t,y)::l=>le (st.get t) y∧leT st l
def aQF:List Nat->List Nat->Bool
 | [],_=>true
 | k::l,l'=>inL k l'&&aQF l l'
theorem aAq:∀ {l l':List Nat} {k:Nat},aQF l l'=true->inL k l=true->inL k l'=true
 | [],_,_,_,h=>by cases h
 | j::l,l',k,h,hk=>by
  simp only [aQF,aC] at h
  simp only [inL,Bool.or_eq_true] at hk
  rcases hk with hk | hk
  ·have:=aA hk
   subst this; exact h.1
  ·exact aAq h.2 hk
def leB:Option Blk->Blk->Prop
 | some (.cells xs),.cells ys=>leL xs ys
 | some (.tok e s n),.tok e' s' n'=>cond (Nat.beq e e'&&Nat.beq s s') (n=n') False
 | some (.row e s xs),.row e' s' ys=>cond (Nat.beq e e'&&Nat.beq s s') (xs=ys) False
 | some (.mp a b l),.mp a' b' l'=>cond (Nat.beq a a'&&Nat.beq b b') (l=l') False
 | some (.nrow e s ks xs),.nrow e' s' ks' ys=>cond (Nat.beq e e'&&Nat.beq s s'&&aQF ks ks') (xs=ys) False
 | some _,.gone=>True
 | _,_=>False
def leH (st:St):List (Nat × Blk)->Prop
 | []=>True
 | (k,b)::l=>leB (lk st.heap k) b∧leH st l
def leS (st st':St):Prop:=leT st st'.tmps∧leH st st'.heap
theorem aGB:∀ {l:List (Nat × AV)} {t:Nat} {y:AV},leT st l->lk l t=some y->le (st.get t) y
 | [],_,_,_,e=>by simp [lk] at e
 | (j,x)::l,t,y,h,e=>by
  simp only [leT] at h
  simp only [lk] at e
  cases hj:Nat.beq j t with
  | true =>
   rw [hj] at e
   simp only [cond_true,aJ] at e
   subst e
   have:=aA hj
   subst this; exact h.1
  | false=>rw [hj] at e; simp only [cond_false] at e; exact aGB h.2 e
theorem aGC:∀ {l:List (Nat × Blk)} {t:Nat} {y:Blk},leH st l->lk l t=some y->leB (lk st.heap t) y
 | [],_,_,_,e=>by simp [lk] at e
 | (j,x)::l,t,y,h,e=>by
  simp only [leH] at h
  simp only [lk] at e
  cases hj:Nat.beq j t with
  | true =>
   rw [hj] at e
   simp only [cond_true,aJ] at e
   subst e
   have:=aA hj
   subst this; exact h.1
  | false=>rw [hj] at e; simp only [cond_false] at e; exact aGC h.2 e
theorem fJ.name {k:Nat} {b:Blk} (h:fJ S m w k b):∃ u,m k=some u:=by
 cases b with
 | cells cs=>obtain ⟨g,arr,t,h1,_⟩:=h; exact ⟨_,h1⟩
 | tok e s n=>obtain ⟨A,c,h1,_⟩:=h; exact ⟨_,h1⟩
 | row e s xs=>obtain ⟨A,c,h1,_⟩:=h; exact ⟨_,h1⟩
 | mp kt et l=>obtain ⟨g,D,h1,_⟩:=h; exact ⟨_,h1⟩
 | nrow e s ks xs=>obtain ⟨⟨A,c,h1,_⟩,_⟩:=h; exact ⟨_,h1⟩
 | gone=>obtain ⟨u,h1,_⟩:=h; exact ⟨u,h1⟩
theorem oS {k:Nat} {b b':Blk} (h:leB (some b) b') (hb:fJ S m w k b):fJ S m w k b':=by
 unfold leB at h
 split at h
 ·rename_i xs ys e
  injection e with e
  subst e
  obtain ⟨g,arr,t,h1,h2,h3,h4⟩:=hb
  exact ⟨g,arr,t,h1,h2,jA _ _ m _ h h3,h4⟩
 ·rename_i e1 s n e2 s' n' e
  injection e with e
  subst e
  obtain ⟨hs,h5⟩:=aW h
  simp only [aC] at hs
  have hs1:=aA hs.1
  have hs2:=aA hs.2
  subst hs1; subst hs2; subst h5; exact hb
 ·rename_i e1 s xs e2 s' ys e
  injection e with e
  subst e
  obtain ⟨hs,h5⟩:=aW h
  simp only [aC] at hs
  have hs1:=aA hs.1
  have hs2:=aA hs.2
  subst hs1; subst hs2; subst h5; exact hb
 ·rename_i e1 s xs e2 s' ys e
  injection e with e
  subst e
  obtain ⟨hs,h5⟩:=aW h
  simp only [aC] at hs
  have hs1:=aA hs.1
  have hs2:=aA hs.2
  subst hs1; subst hs2; subst h5; exact hb
 ·rename_i e1 s ks xs e2 s' ks' ys e
  injection e with e
  subst e
  obtain ⟨hs,h5⟩:=aW h
  simp only [aC] at hs
  have hs1:=aA hs.1.1
  have hs2:=aA hs.1.2
  subst hs1; subst hs2; subst h5
  exact ⟨hb.1,λ j i x y hx hy k hk=>aAq hs.2 (hb.2 j i x y hx hy k hk)⟩
 ·obtain ⟨u,hu⟩:=hb.name
  exact ⟨u,hu,λ g hg=>hb.lt hu hg⟩
 ·exact h.elim
theorem Rel.le {st st':St} (h:Rel G kp st a w S m) (hl:leS st st'):Rel G kp st' a w S m:=by
 refine h.weaken (λ t v hv=>?_) (λ k b hk=>?_)
 ·unfold St.get
  cases e:lk st'.tmps t with
  | none=>simp only [CV]
  | some y=>exact fP _ _ m v (aGB hl.1 e) hv
 ·have hb:=aGC hl.2 hk
  cases e:lk st.heap k with
  | none=>rw [e] at hb; simp [leB] at hb
  | some b0=>rw [e] at hb; exact ⟨⟨b0,rfl⟩,oS hb (h.held k b0 e)⟩
def qN:Code->Nat
 | .region id _ _=>id
 | .seq a _=>qN a
 | .block _ b=>qN b
 | .loop b=>qN b
 | .cond _ a _=>qN a
 | .scope b=>qN b
 | _=>0
def unr (step:St->(St->Prop)->Prop):Nat->St->Prop
 | 0,_=>False
 | n+1,st=>step st λ st'=>unr step n st'
def aB9 (st:St) (c:Operand) (b:Bool) (k:St->Prop):Prop:=match c with | .tmp t=>known st t b k | _=>k st
def aOh (m j:Nat):Bool:=Nat.beq (Nat.land (Nat.shiftRight m j) 1) 1
def aHI {β:Type} (m:Nat):List (Nat × AV)->(List (Nat × AV)->Prop)->Prop
 | [],k=>k []
 | (j,x)::l,k=>cond (aOh m j) (aHI (β:=β) m l k) (aHI (β:=β) m l λ l=>k ((j,x)::l))
def aBD (m:Nat):List (Nat × AV)->List (Nat × AV)
 | []=>[]
 | (j,x)::l=>cond (aOh m j) (aBD m l) ((j,x)::aBD m l)
theorem wM {β:Type} (m:Nat):∀ (l:List (Nat × AV)) (k:List (Nat × AV)->Prop),aHI (β:=β) m l k=k (aBD m l)
 | [],k=>rfl
 | (j,x)::l,k=>by
  simp only [aHI,aBD]
  cases aOh m j with
  | true=>exact wM m l k
  | false=>exact wM m l _
theorem wN (m t:Nat):∀ (l:List (Nat × AV)),lk (aBD m l) t=cond (aOh m t) none (lk l t)
 | []=>by simp only [aBD,lk]; cases aOh m t <;> rfl
 | (j,x)::l=>by
  simp only [aBD]
  cases hj:aOh m j with
  | true =>
   simp only [cond_true,lk]
   rw [wN m t l]
   cases hb:Nat.beq j t with
   | true=>have:=aA hb; subst this; rw [hj]; rfl
   | false=>rfl
  | false =>
   simp only [cond_false,lk]
   rw [wN m t l]
   cases hb:Nat.beq j t with
   | true=>have:=aA hb; subst this; rw [hj]; rfl
   | false=>rfl
def aOS (m:Nat) (st:St) (k:St->Prop):Prop:=match st with | ⟨tm,hp⟩=>aHI (β:=Unit) m tm λ tm=>k ⟨tm,hp⟩
theorem aBE {d:Nat} {k:St->Prop} (h:aOS d st k) (hR:Rel G kp st a w S m):∃ st',k st'∧Rel G kp st' a w S m:=by
 obtain ⟨tm,hp⟩:=st
 simp only [aOS,wM] at h
 refine ⟨_,h,hR.weaken (λ t v hv=>?_) (λ k b hk=>⟨⟨b,hk⟩,hR.held k b hk⟩)⟩
 unfold St.get
 simp only [wN]
 cases aOh d t with
 | true=>simp only [cond_true,CV]
 | false=>simp only [cond_false]; exact hv
def aVz (v:Int):List Int->(Int->Prop)->Prop
 | [],_=>True
 | a::l,K=>(v=a->K a)∧aVz v l K
theorem aCg {v:Int} {K:Int->Prop}:∀ {l:List Int},aGM v l->aVz v l K->K v
 | [],h,_=>h.elim
 | a::l,h,k=>by
  rcases h with rfl | h
  ·exact k.1 rfl
  ·exact aCg h k.2
def aUC:List (Nat × List Int)->St->(St->Prop)->Prop
 | [],st,K=>K st
 | (t,l)::r,st,K=>match st.get t with
  | .int k v=>aGM v l∧aVz v l λ a=>match st with | ⟨tm,hp⟩=>aBc tm t (.int k a) λ tm=>aUC r ⟨tm,hp⟩ K
  | _=>False
theorem xP:∀ (l:List (Nat × List Int)) (st:St) (K:St->Prop),aUC l st K->∃ st',K st'∧∀ (G:Gh) (kp:List Nat) (a:Act) (w:World) (S:Pin) (m:Nm),Rel G kp st a w S m->Rel G kp st' a w S m
 | [],st,K,h=>⟨st,h,λ G kp a w S m hR=>hR⟩
 | (t,l)::r,⟨tm,hp⟩,K,h=>by
  simp only [aUC] at h
  split at h
  ·rename_i k v hv
   obtain ⟨h1,h2⟩:=h
   have h3:=aCg h1 h2
   rw [eS] at h3
   obtain ⟨st',h4,h5⟩:=xP r _ K h3
   refine ⟨st',h4,λ G kp a w S m hR=>h5 G kp a w S m (hR.weaken (λ q u hu=>?_) (λ k b hk=>⟨⟨b,hk⟩,hR.held k b hk⟩))⟩
   unfold St.get
   rw [bS]
   by_cases hq:q=t
   ·subst hq
    rw [if_pos rfl,← hv]; exact hu
   ·rw [if_neg hq]; exact hu
  ·exact h.elim
def aOR (C:Cx) (id:Nat) (st:St) (K:St->Prop):Prop:=aOS (C.drop id) st λ st=>aUC (C.spl id) st K
theorem iB {id:Nat} {k:St->Prop} (h:aOR C id st k) (hR:Rel G kp st a w S m):∃ st',k st'∧Rel G kp st' a w S m:=by
 obtain ⟨s1,h1,r1⟩:=aBE h hR
 obtain ⟨s2,h2,r2⟩:=xP _ _ _ h1
 exact ⟨s2,h2,r2 _ _ _ _ _ _ r1⟩
def aEi (kp:List Nat) (st fin:St):Prop:=∀ (G:Gh) (a:Act) (w:World) (S:Pin) (m:Nm),Rel G kp st a w S m->∃ S' m',Rel G kp fin a w S' m'
theorem aEi.trans {a b c:St} (h:aEi kp a b) (k:aEi kp b c):aEi kp a c:=λ G x w S m hR=>by
 obtain ⟨S',m',hR'⟩:=h G x w S m hR
 exact k G x w S' m' hR'
theorem aEi.refl {a:St}:aEi kp a a:=λ G x w S m hR=>⟨S,m,hR⟩
def xaK (kp:List Nat) (x:Xa) (st:St) (K:St->Prop):Prop:=match x with
 | .frz k=>cond (aCO (lk st.heap k)) (aPQ kp st k K) (K st)
 | .cls k=>(match lk st.heap k with
  | some (.nrow e s ks xs)=>cond (aQF ks []&&Nat.blt e 1000000) (K (st.blk k (.row e s xs))) False
  | _=>K st)
 | .nop k=>(match lk st.heap k with
  | some (.row e s xs)=>cond (Nat.blt e 1000000) (aEj [] xs∧K (st.blk k (.nrow e s [] xs))) False
  | _=>K st)
 | .kil _=>False
 | .ren _ _=>False
 | .mk _ _ _=>False
 | .nlz _ _=>False
def aPz (kp:List Nat):List Xa->St->(St->Prop)->Prop
 | [],st,K=>K st
 | x::l,st,K=>xaK kp x st λ st=>nW st λ st=>aPz kp l st K
theorem aLV {x:Xa} {K:St->Prop} (H:xaK kp x st K):∃ st',K st'∧aEi kp st st':=by
 cases x with
 | frz k =>
  simp only [xaK] at H
  cases hb:aCO (lk st.heap k) with
  | false=>rw [hb] at H; exact ⟨st,H,aEi.refl⟩
  | true =>
   rw [hb] at H
   simp only [cond_true] at H
   have hq:∃ st',K st'∧aPQ kp st k (λ s=>s=st'):=by
    unfold aPQ at H ⊢
    split at H
    ·rename_i e s xs hk
     cases hi:(inL k kp||!(Nat.blt e 2000000)) with
     | true=>rw [hi] at H; exact H.elim
     | false=>rw [hi] at H; exact ⟨_,H,rfl⟩
    ·exact H.elim
   obtain ⟨st',h1,h2⟩:=hq
   refine ⟨st',h1,λ G a w S m hR=>?_⟩
   obtain ⟨s,S',m',rfl,h3⟩:=tD hR h2
   exact ⟨S',m',h3⟩
 | cls k =>
  simp only [xaK] at H
  split at H
  ·rename_i e s ks xs hk
   obtain ⟨hb,H⟩:=aW H
   simp only [aC] at hb
   have he:e < 1000000:=aK hb.2
   refine ⟨_,H,λ G a w S m hR=>⟨S,m,hR.weaken (λ t v hv=>hv) (λ j b hj=>?_)⟩⟩
   simp only [St.blk,bS] at hj
   by_cases ej:j=k
   ·subst ej
    rw [if_pos rfl] at hj
    injection hj with hj
    subst hj
    refine ⟨⟨_,hk⟩,?_⟩
    obtain ⟨⟨A,c,p1,p2,p3,p4⟩,hn⟩:=hR.held j _ hk
    refine ⟨A,c,p1,p2,p3,?_⟩
    rcases p4 with p4 | ⟨g,cur,fr,rfl,p5,p6,p7,p8,p9⟩
    ·exact .inl p4
    ·refine .inr ⟨g,cur,fr,rfl,?_,.inl p6.op,p7,p8,λ q y hy=>⟨(p9 q y hy).1,λ i z hz=>?_⟩⟩
     ·rw [lC] at p5; rw [cA he]; exact p5
     ·obtain ⟨v,hv,ho,hc⟩:=(p9 q y hy).2 i z hz
      rw [bN (by omega)] at hc
      rw [bG (show e < 2000000 by omega)]
      exact ⟨v,hv,ho,CV.mono (Ext.refl S) z m dE v (λ i' u hi e=>by
       have:=aAq hb.1 (hn q i y z hy hz i' hi)
       cases this) hc⟩
   ·rw [if_neg ej] at hj
    exact ⟨⟨_,hj⟩,hR.held j b hj⟩
  ·exact ⟨st,H,aEi.refl⟩
 | nop k =>
  simp only [xaK] at H
  split at H
  ·rename_i e s xs hk
   obtain ⟨hb,hn,H⟩:=aW H
   have he:e < 1000000:=aK hb
   refine ⟨_,H,λ G a w S m hR=>⟨S,m,hR.weaken (λ t v hv=>hv) (λ j b hj=>?_)⟩⟩
   simp only [St.blk,bS] at hj
   by_cases ej:j=k
   ·subst ej
    rw [if_pos rfl] at hj
    injection hj with hj
    subst hj
    refine ⟨⟨_,hk⟩,?_⟩
    obtain ⟨A,c,p1,p2,p3,p4⟩:=hR.held j _ hk
    refine ⟨⟨A,c,p1,p2,p3,?_⟩,hn⟩
    rcases p4 with p4 | ⟨g,cur,fr,rfl,p5,p6,p7,p8,p9⟩
    ·exact .inl p4
    ·refine .inr ⟨g,cur,fr,rfl,?_,.inl (p6.lt he),p7,p8,λ q y hy=>⟨(p9 q y hy).1,λ i z hz=>?_⟩⟩
     ·rw [lC,← cA he]; exact p5
     ·obtain ⟨v,hv,ho,hc⟩:=(p9 q y hy).2 i z hz
      rw [bG (show e < 2000000 by omega)] at hc
      rw [bN (by omega)]
      exact ⟨v,hv,ho,hc.ext (Ext.refl S) (MLe.no m)⟩
   ·rw [if_neg ej] at hj
    exact ⟨⟨_,hj⟩,hR.held j b hj⟩
  ·exact ⟨st,H,aEi.refl⟩
 | kil _=>simp only [xaK] at H
 | ren _ _=>simp only [xaK] at H
 | mk _ _ _=>simp only [xaK] at H
 | nlz _ _=>simp only [xaK] at H
theorem kB:∀ (l:List Xa) (st:St) (K:St->Prop),aPz kp l st K->∃ st',K st'∧aEi kp st st'
 | [],st,K,H=>⟨st,H,aEi.refl⟩
 | x::l,st,K,H=>by
  simp only [aPz] at H
  obtain ⟨s1,h1,e1⟩:=aLV H
  rw [gO] at h1
  obtain ⟨s2,h2,e2⟩:=kB l s1 K h1
  exact ⟨s2,h2,e1.trans e2⟩
def aXt (C:Cx) (id:Nat) (st:St) (K:St->Prop):Prop:=aPz C.kp (C.act id) st λ st=>match C.cas id st with
 | some (p,l1,l2)=>(p->aPz C.kp l1 st K)∧(¬ p->aPz C.kp l2 st K)
 | none=>K st
theorem aDe {id:Nat} {K:St->Prop} (H:aXt C id st K):∃ st',K st'∧aEi C.kp st st':=by
 obtain ⟨s1,h1,e1⟩:=kB _ _ _ H
 split at h1
 ·rename_i p l1 l2 hc
  by_cases hp:p
  ·obtain ⟨s2,h2,e2⟩:=kB _ _ _ (h1.1 hp)
   exact ⟨s2,h2,e1.trans e2⟩
  ·obtain ⟨s2,h2,e2⟩:=kB _ _ _ (h1.2 hp)
   exact ⟨s2,h2,e1.trans e2⟩
 ·exact ⟨s1,h1,e1⟩
def cC (P:Program) (E:Env) (C:Cx) (inv:Nat->St->Option LInv) (fuel:Nat):Code->St->(St->Prop)->(Nat->St->Prop)->(St->Prop)->Prop
 | .skip,st,kn,_,_=>kn st
 | .label _,st,kn,_,_=>kn st
 | .region id ops draw,st,kn,_,_=>aXt C id st λ st=>aIT C.kp (C.emp id) st λ st=>aPz C.kp (C.act (Nat.add 500000 id)) st λ st=>aGX C.kp (uF st (C.frz id)) st λ st=>aGH C.kp (yH C.fr ops.toList) st λ st=>cond draw (aLa P E C ops st (λ st=>aOR C id st kn)) (aBP P E C ops ops.toList st (λ st=>aOR C id st kn))
 | .seq a b,st,kn,ke,kr=>(match inv (Nat.add 100000 (qN b)) st with
  | some L=>cC P E C inv fuel a st (λ st'=>∃ x,L.p x∧leS st' (L.S x)) ke kr∧L.all λ x=>cC P E C inv fuel b (L.S x) kn ke kr
  | none=>cC P E C inv fuel a st (λ st'=>cC P E C inv fuel b st' kn ke kr) ke kr)
 | .cond c x y,st,kn,ke,kr=>(match evO E st c with
  | .bool q=>cond q (aB9 st c true λ st=>cC P E C inv fuel x st kn ke kr) (aB9 st c false λ st=>cC P E C inv fuel y st kn ke kr)
  | _=>False)
 | .block id b,st,kn,ke,kr=>(match inv (Nat.add 200000 id) st with
  | some L=>cC P E C inv fuel b st (λ st'=>∃ x,L.p x∧leS st' (L.S x)) (λ i st'=>cond (Nat.beq i id) (∃ x,L.p x∧leS st' (L.S x)) (ke i st')) kr∧L.all λ x=>kn (L.S x)
  | none=>cC P E C inv fuel b st kn (λ i st'=>cond (Nat.beq i id) (kn st') (ke i st')) kr)
 | .loop b,st,kn,ke,kr=>(match inv (qN b) st with
  | some L=>(∃ x,L.p x∧leS st (L.S x))∧∀ x,L.p x->cC P E C inv fuel b (L.S x) (λ st'=>∃ y,L.p y∧L.m y < L.m x∧leS st' (L.S y)) ke kr
  | none=>unr (λ st k=>cC P E C inv fuel b st k ke kr) fuel st)
 | .exit id,st,_,ke,_=>ke id st
 | .ret,st,_,_,kr=>kr st
 | _,_,_,_,_=>False
def aPG (G:Gh) (C:Cx) (kn:St->Prop) (ke:Nat->St->Prop) (kr:St->Prop):Exit->Act->World->Prop
 | .normal,a,w=>∃ st S m,kn st∧Rel G C.kp st a w S m∧a.tmps.size=C.nt
 | .exit id,a,w=>∃ st S m,ke id st∧Rel G C.kp st a w S m∧a.tmps.size=C.nt
 | .ret,a,w=>∃ st S m,kr st∧Rel G C.kp st a w S m∧a.tmps.size=C.nt
 | _,_,_=>False
theorem fK {c:Operand} {b:Bool} {k:St->Prop} (h:aB9 st c b k) (e:evO E st c=.bool b) (hR:Rel G C.kp st a w S m):∃ st',k st'∧Rel G C.kp st' a w S m:=by
 unfold aB9 at h
 split at h
 ·rw [oT] at h
  exact ⟨_,h,hR.known e⟩
 ·exact ⟨st,h,hR⟩
theorem bM {inv:Nat->St->Option LInv} {fuel:Nat} (hT:TyOK P C.tys) (hS:cF P E) (hM:P.follows .mixedOrders=true) (hG:GOK E G.S0) :
  ∀ (c:Code) (st:St) (kn:St->Prop) (ke:Nat->St->Prop) (kr:St->Prop),cC P E C inv fuel c st kn ke kr->∀ (a:Act) (w:World) (S:Pin) (m:Nm),Rel G C.kp st a w S m->a.tmps.size=C.nt->c.wp P (aPG G C kn ke kr) a w
 | .skip,st,kn,ke,kr,h,a,w,S,m,hR,hn=>wp_skip ⟨st,S,m,h,hR,hn⟩
 | .label _,st,kn,ke,kr,h,a,w,S,m,hR,hn=>wp_label ⟨st,S,m,h,hR,hn⟩
 | .region id ops draw,st,kn,ke,kr,h,a,w,S,m,hR,hn=>by
  simp only [cC] at h
  obtain ⟨st,h,hsame⟩:=aDe h
  obtain ⟨S,m,hR⟩:=hsame _ _ _ _ _ hR
  obtain ⟨st,S,m,h,hR⟩:=dA _ _ S m _ h hR
  obtain ⟨st,h,hsame⟩:=kB _ _ _ h
  obtain ⟨S,m,hR⟩:=hsame _ _ _ _ _ hR
  obtain ⟨st,S,m,h,hR⟩:=cD _ _ S m _ h hR
  obtain ⟨st,h,hR⟩:=gV _ _ _ h hR
  cases draw with
  | true=>exact wp_region_any hM (kS hT hS hG h hR hn (λ st' a' w' S' m' hk hR' hn'=>by obtain ⟨st2,hk,hR'⟩:=iB hk hR'; exact ⟨st2,S',m',hk,hR',hn'⟩))
  | false=>exact wp_region_list (eU hT hS hG _ st _ h a w S m hR hn (λ st' a' w' S' m' hk hR' hn'=>by obtain ⟨st2,hk,hR'⟩:=iB hk hR'; exact ⟨st2,S',m',hk,hR',hn'⟩))
 | .seq x y,st,kn,ke,kr,h,a,w,S,m,hR,hn=>by
  simp only [cC] at h
  split at h
  ·rename_i L hL
   obtain ⟨h1,h2⟩:=h
   refine wp_seq (Go.wp_mono (bM hT hS hM hG x st _ ke kr h1 a w S m hR hn) ?_)
   intro e a' w' he
   cases e with
   | normal=>obtain ⟨st',S',m',⟨z,hp,hle⟩,hR',hn'⟩:=he; exact bM hT hS hM hG y (L.S z) kn ke kr (LInv.all_get h2 z hp) a' w' S' m' (hR'.le hle) hn'
   | exit _=>exact he
   | ret=>exact he
   | _=>exact he.elim
  ·refine wp_seq (Go.wp_mono (bM hT hS hM hG x st _ ke kr h a w S m hR hn) ?_)
   intro e a' w' he
   cases e with
   | normal=>obtain ⟨st',S',m',hk,hR',hn'⟩:=he; exact bM hT hS hM hG y st' kn ke kr hk a' w' S' m' hR' hn'
   | exit _=>exact he
   | ret=>exact he
   | _=>exact he.elim
 | .cond c x y,st,kn,ke,kr,h,a,w,S,m,hR,hn=>by
  simp only [cC] at h
  split at h
  ·rename_i q hq
   have hc:=nY hG hR c
   rw [hq] at hc
   simp only [CV] at hc
   cases q with
   | true =>
    obtain ⟨st',hk,hR'⟩:=fK (G:=G) (C:=C) h hq hR
    exact wp_cond_true hc (bM hT hS hM hG x st' kn ke kr hk a w S m hR' hn)
   | false =>
    obtain ⟨st',hk,hR'⟩:=fK (G:=G) (C:=C) h hq hR
    exact wp_cond_false hc (bM hT hS hM hG y st' kn ke kr hk a w S m hR' hn)
  ·exact h.elim
 | .block id b,st,kn,ke,kr,h,a,w,S,m,hR,hn=>by
  simp only [cC] at h
  split at h
  ·rename_i L hL
   obtain ⟨h1,h2⟩:=h
   refine wp_block (Go.wp_mono (bM hT hS hM hG b st _ _ kr h1 a w S m hR hn) ?_)
   intro e a' w' he
   cases e with
   | normal =>
    obtain ⟨st',S',m',⟨z,hp,hle⟩,hR',hn'⟩:=he
    exact ⟨L.S z,S',m',LInv.all_get h2 z hp,hR'.le hle,hn'⟩
   | exit i =>
    obtain ⟨st',S',m',hk,hR',hn'⟩:=he
    simp only [Exit.inBlock]
    by_cases hi:i=id
    ·subst hi
     rw [aY] at hk
     rw [if_pos rfl]
     obtain ⟨z,hp,hle⟩:=hk
     exact ⟨L.S z,S',m',LInv.all_get h2 z hp,hR'.le hle,hn'⟩
    ·rw [nbeq_ne hi] at hk
     rw [if_neg hi]
     exact ⟨st',S',m',hk,hR',hn'⟩
   | ret=>exact he
   | _=>exact he.elim
  ·refine wp_block (Go.wp_mono (bM hT hS hM hG b st _ _ kr h a w S m hR hn) ?_)
   intro e a' w' he
   cases e with
   | normal=>exact he
   | exit i =>
    obtain ⟨st',S',m',hk,hR',hn'⟩:=he
    simp only [Exit.inBlock]
    by_cases hi:i=id
    ·subst hi
     rw [aY] at hk
     rw [if_pos rfl]
     exact ⟨st',S',m',hk,hR',hn'⟩
    ·rw [nbeq_ne hi] at hk
     rw [if_neg hi]
     exact ⟨st',S',m',hk,hR',hn'⟩
   | ret=>exact he
   | _=>exact he.elim
 | .loop b,st,kn,ke,kr,h,a,w,S,m,hR,hn=>by
  simp only [cC] at h
  split at h
  ·rename_i L hL
   obtain ⟨⟨x,hp,hle⟩,hround⟩:=h
   refine wp_loop_ghost (λ n a w=>∃ x,L.m x=n∧L.p x∧∃ S m,Rel G C.kp (L.S x) a w S m∧a.tmps.size=C.nt) (L.m x) ⟨x,rfl,hp,S,m,hR.le hle,hn⟩ ?_
   rintro _ a w ⟨x,rfl,hp,S,m,hR,hn⟩
   refine Go.wp_mono (bM hT hS hM hG b (L.S x) _ ke kr (hround x hp) a w S m hR hn) ?_
   intro e a' w' he
   cases e with
   | normal =>
    obtain ⟨st',S',m',⟨y,hy,hm,hl⟩,hR',hn'⟩:=he
    exact ⟨L.m y,hm,y,rfl,hy,S',m',hR'.le hl,hn'⟩
   | exit _=>exact he
   | ret=>exact he
   | _=>exact he.elim
  ·have key:∀ n st a w S m,unr (λ st k=>cC P E C inv fuel b st k ke kr) n st->Rel G C.kp st a w S m->a.tmps.size=C.nt->(Code.loop b).wp P (aPG G C kn ke kr) a w:=by
    intro n st a w S m hu hR hn
    refine wp_loop_ghost (λ (x:Nat) a w=>∃ st S m,unr (λ st k=>cC P E C inv fuel b st k ke kr) x st∧Rel G C.kp st a w S m∧a.tmps.size=C.nt) n ⟨st,S,m,hu,hR,hn⟩ ?_
    rintro x a w ⟨st,S,m,hu,hR,hn⟩
    cases x with
    | zero=>exact hu.elim
    | succ x =>
     refine Go.wp_mono (bM hT hS hM hG b st _ ke kr hu a w S m hR hn) ?_
     intro e a' w' he
     cases e with
     | normal =>
      obtain ⟨st',S',m',hk,hR',hn'⟩:=he
      exact ⟨x,Nat.lt_succ_self _,st',S',m',hk,hR',hn'⟩
     | exit _=>exact he
     | ret=>exact he
     | _=>exact he.elim
   exact key _ st a w S m h hR hn
 | .exit id,st,kn,ke,kr,h,a,w,S,m,hR,hn=>wp_exit ⟨st,S,m,h,hR,hn⟩
 | .ret,st,kn,ke,kr,h,a,w,S,m,hR,hn=>wp_ret ⟨st,S,m,h,hR,hn⟩
 | .goto _,st,kn,ke,kr,h,a,w,S,m,hR,hn=>by simp [cC] at h
 | .scope _,st,kn,ke,kr,h,a,w,S,m,hR,hn=>by simp [cC] at h
 | .rangeFunc _ _ _ _,st,kn,ke,kr,h,a,w,S,m,hR,hn=>by simp [cC] at h
 | .refuse _,st,kn,ke,kr,h,a,w,S,m,hR,hn=>by simp [cC] at h
open Go.RowKit (Below)
variable {P:Program} {S:Pin} {m:Nm} {w:World} {a:Act} {G:Gh} {kp:List Nat} {st:St} {E:Env} {C:Cx}
def aPM (P:Program) (E:Env) (st:St):List ResultVar->(List AV->Prop)->Prop
 | [],k=>k []
 | .tmp t::l,k=>aPM P E st l λ rs=>k (st.get t::rs)
 | .cell a t::l,k=>aD8 P E none t (st.get a) (lk st.heap) λ r _ _=>aPM P E st l λ rs=>k (r::rs)
def aUJ (P:Program) (E:Env) (st:St) (l:List ResultVar) (k:AV->Prop):Prop :=
 aPM P E st l λ rs=>match rs with | [x]=>k x | rs=>k (.tup rs)
def uL:List ResultVar->List Nat
 | []=>[]
 | .tmp t::l=>t::uL l
 | _::l=>uL l
def wW (st:St):List ResultVar->List Nat
 | []=>[]
 | .cell a _::l=>(match st.get a with
  | .ptr k _=>(match lk st.heap k with
   | some (.cells cs)=>aQP cs
   | _=>[])
  | _=>[])++wW st l
 | _::l=>wW st l
def aJH (P:Program) (E:Env) (C:Cx) (st:St) (l:List ResultVar) (k:AV->Prop):Prop :=
 aGX C.kp (uF st (uL l)++wW st l) st λ st=>aUJ P E st l k
def aAx (P:Program) (E:Env) (C:Cx) (st:St) (l:List ResultVar) (k:St->AV->Prop):Prop :=
 aGX C.kp (cond C.own [] (uF st (uL l)++wW st l)) st λ st=>aUJ P E st l (k st)
def lB:List AV->Nat->List (Nat × AV)
 | [],_=>[]
 | x::xs,i=>(i,x)::lB xs (i+1)
theorem jM:∀ (xs:List AV) (i t:Nat),lk (lB xs i) t=if i≤t then xs[t - i]? else none
 | [],i,t=>by simp [lB,lk]
 | x::xs,i,t=>by
  simp only [lB,lk]
  rw [jM xs (i+1) t]
  by_cases h:i=t
  ·subst h; rw [aY]; simp
  ·rw [nbeq_ne h]
   simp only [cond_false]
   by_cases h1:i≤t
   ·rw [if_pos (by omega),if_pos h1,show t - i=(t - (i+1))+1 by omega]; simp
   ·rw [if_neg (by omega),if_neg h1]
mutual
def aDS:List AV->Prop->Prop
 | [],k=>k
 | x::xs,k=>wfA x->aDS xs k
end
theorem lV:∀ {xs:List AV} {k:Prop},aDS xs k->wfL xs->k
 | [],k,h,_=>h
 | x::xs,k,h,hw=>by
  simp only [aDS] at h
  simp only [wfL] at hw
  exact lV (h hw.1) hw.2
def aCm (tmps:Array Value):ResultVar->Sem Value
 | .tmp t=>pure (tmps.getD t undef)
 | .cell q t=>do loadVar t (← asAddr (tmps.getD q undef))
theorem aDC (fn:Func) (tmps:Array Value):results fn tmps=(do let vs ← fn.results.mapM (aCm tmps); pure (if h:vs.size=1 then vs[0] else .tuple vs)):=by
 unfold results
 congr 1
theorem mM (hR:Rel G C.kp st a w S m) :
  ∀ (l:List ResultVar) (k:List AV->Prop),aPM P E st l k->∃ rs vs,k rs∧CVl S rs m vs∧vs.length=l.length ∧
   (l.mapM (aCm a.tmps)).run P w=.ok vs w
 | [],k,h=>⟨[],[],h,by simp only [CVl],rfl,by simp⟩
 | .tmp t::l,k,h=>by
  simp only [aPM] at h
  obtain ⟨rs,vs,h1,h2,h3,h4⟩:=mM hR l _ h
  refine ⟨_,a.tmps.getD t undef::vs,h1,?_,by simp [h3],?_⟩
  ·simp only [CVl]; exact ⟨_,_,rfl,hR.tmps t,h2⟩
  ·simp only [List.mapM_cons,aCm,Sem.run_bind,Sem.run_pure,Result.andThen_ok]
   rw [h4]; rfl
 | .cell q t::l,k,h=>by
  simp only [aPM] at h
  have key:∀ r,rK P t (match st.get q with | .ptr k off=>(match lk st.heap k with | some (.cells cs)=>cs.drop off | _=>[]) | .ro cs=>cs | _=>[]) r->True:=λ _ _=>trivial
  have get:∀ (K:AV->Prop),aD8 P E none t (st.get q) (lk st.heap) (λ r _ _=>K r)->∃ r,K r∧∃ ad z,a.tmps.getD q undef=.pointer (some ad)∧(loadVar t ad).run P w=.ok z w∧CV S r m z:=by
   intro K H
   unfold aD8 at H
   split at H
   ·rename_i k off hx
    split at H
    ·rename_i cs hk
     obtain ⟨r,h1,h2⟩:=cP H
     have hv:=hR.tmps q
     rw [hx] at hv
     simp only [CV] at hv
     obtain ⟨g,hm,hv⟩:=hv
     obtain ⟨g',arr,ty,e1,e2,e3,e4⟩:=hR.held k _ hk
     rw [hm] at e1
     injection e1 with e1
     injection e1 with e1
     injection e1 with e1
     injection e1 with e1
     subst e1
     obtain ⟨z,q1,q2⟩:=eF (w:=w) (g:=g) (o:=off) h2 (e3.drop off) (λ j v e=>by
      rw [List.getElem?_drop] at e
      rw [cell_of_row w g (off+j) arr ty (0,0) e2]
      simpa using e)
     refine ⟨r,h1,⟨g,off,none⟩,z,hv,?_,q2⟩
     simpa [Instr.loadAt,Instr.sureAddr] using q1
    ·exact H.elim
   ·rename_i cs hx
    obtain ⟨r,h1,h2⟩:=cP H
    have hv:=hR.tmps q
    rw [hx] at hv
    simp only [CV] at hv
    obtain ⟨b,off,hv,hc⟩:=hv
    obtain ⟨vs,e1,e2⟩:=hc.vals
    obtain ⟨z,q1,q2⟩:=eF (w:=w) (g:=b) (o:=off) h2 (e2.ext (Ext.refl S) (MLe.no m)) (λ j v e=>(hR.agree _ _ _ (e1 j v e)).1)
    refine ⟨r,h1,⟨b,off,none⟩,z,hv,?_,q2⟩
    simpa [Instr.loadAt,Instr.sureAddr] using q1
   ·rename_i k s Q j fo hx
    split at H
    ·rename_i e s' xs hk
     obtain ⟨hs,H0⟩:=aW H
     have hs:=aA hs
     subst hs
     obtain ⟨⟨hQ,hj⟩,H1⟩:=aZ.1 H0
     obtain ⟨r,h1,h2⟩:=cP H1
     have hv:=hR.tmps q
     rw [hx] at hv
     obtain ⟨g,cur,fr,hv,e2,vs,e6,e7⟩:=aCo (hR.held k _ hk) hQ hj hv
     obtain ⟨z,q1,q2⟩:=eF (w:=w) (g:=g) (o:=j*s+fo) h2 ((e6.drop fo).ext (Ext.refl S) (lE e m)) (λ i v e=>by
      rw [List.getElem?_drop] at e
      rw [cell_of_row w g _ cur _ fr e2,Nat.add_assoc]
      exact e7 _ v e)
     refine ⟨r,h1,⟨g,j*s+fo,none⟩,z,hv,?_,q2⟩
     simpa [Instr.loadAt,Instr.sureAddr] using q1
    ·rename_i e s' ks xs hk
     obtain ⟨hs,H0⟩:=aW H
     have hs:=aA hs
     subst hs
     obtain ⟨⟨hQ,hj⟩,H1⟩:=aZ.1 H0
     obtain ⟨r,h1,h2⟩:=cP H1
     have hv:=hR.tmps q
     rw [hx] at hv
     obtain ⟨g,cur,fr,hv,e2,vs,e6,e7⟩:=aCo (fJ.open (hR.held k _ hk)) hQ hj hv
     obtain ⟨z,q1,q2⟩:=eF (w:=w) (g:=g) (o:=j*s+fo) h2 ((e6.drop fo).ext (Ext.refl S) (lE _ m)) (λ i v e=>by
      rw [List.getElem?_drop] at e
      rw [cell_of_row w g _ cur _ fr e2,Nat.add_assoc]
      exact e7 _ v e)
     refine ⟨r,h1,⟨g,j*s+fo,none⟩,z,hv,?_,q2⟩
     simpa [Instr.loadAt,Instr.sureAddr] using q1
    ·exact H.elim
   ·exact H.elim
  obtain ⟨r,h,ad,z,e1,e2,e3⟩:=get _ h
  obtain ⟨rs,vs,h1,h2,h3,h4⟩:=mM hR l _ h
  refine ⟨_,z::vs,h1,?_,by simp [h3],?_⟩
  ·simp only [CVl]; exact ⟨_,_,rfl,e3,h2⟩
  ·simp only [List.mapM_cons,aCm,Sem.run_bind,e1,asAddr,Sem.run_pure,Result.andThen_ok,e2]
   rw [h4]; rfl
theorem gI (hR:Rel G C.kp st a w S m) {fn:Func} {k:AV->Prop} (h:aUJ P E st fn.results.toList k) :
  ∃ r v,k r∧CV S r m v∧(results fn a.tmps).run P w=.ok v w:=by
 unfold aUJ at h
 obtain ⟨rs,vs,h1,h2,h3,h4⟩:=mM hR _ _ h
 have hrun:(results fn a.tmps).run P w=.ok (if h:vs.toArray.size=1 then vs.toArray[0] else .tuple vs.toArray) w:=by
  rw [aDC,Array.mapM_eq_mapM_toList]
  simp only [Sem.run_bind,Sem.run_map]
  rw [h4]
  rfl
 have hl:=h2.len
 split at h1
 ·rename_i x
  simp only [CVl] at h2
  obtain ⟨u,us,rfl,hu,rfl⟩:=h2
  exact ⟨x,u,h1,hu,by rw [hrun]; simp⟩
 ·rename_i hne
  refine ⟨_,.tuple vs.toArray,h1,by simp only [CV]; exact ⟨_,rfl,by simpa using h2⟩,?_⟩
  rw [hrun]
  have:¬ vs.toArray.size=1:=by
   intro e
   simp at e
   rw [e] at hl
   match rs,hl with
   | [x],_=>exact hne x rfl
  rw [dif_neg this]
@[irreducible] def fnK (P:Program) (E:Env) (C:Cx) (inv:Nat->St->Option LInv) (fuel:Nat) (fn:Func) (xs:List AV) (r:AV):Prop :=
 match fn.body with
 | some c=>cond (Nat.beq C.nt fn.ntmps&&Nat.ble xs.length fn.ntmps)
   (aDS xs (cC P E C inv fuel c ⟨lB xs 0,[]⟩ (λ st=>aJH P E C st fn.results.toList λ x=>bL x λ y=>le y r) (λ _ _=>False) (λ st=>aJH P E C st fn.results.toList λ x=>bL x λ y=>le y r))) False
 | none=>False
theorem aT {inv:Nat->St->Option LInv} {fuel:Nat} (hT:TyOK P C.tys) (hS:cF P E) (hM:P.follows .mixedOrders=true) {f:FuncId} {fn:Func} (hf:P.funcs[f]?=some fn) (hkp:C.kp=[]) {xs:List AV} {r:AV}
    (h:fnK P E C inv fuel fn xs r):PureC P E.glob f xs r:=by
  intro w S vs hG hA hv
  unfold fnK at h
  split at h
  · rename_i c hc
    obtain ⟨hb,h⟩:=aW h
    simp only [aC] at hb
    have hnt:=aA hb.1
    have hle:=aK hb.2
    have h:=lV h (rX _ _ _ hv)
    have hlen:=hv.len
    simp only [Array.length_toList] at hlen
    let G:Gh:=⟨w,S,dE,λ _=>False⟩
    have hR0:Rel G C.kp ⟨lB xs 0,[]⟩ { tmps:=vs++Array.replicate (fn.ntmps - vs.size) undef,defers:=[] } w S dE :=
      { defers:=rfl
        pin0:=Ext.refl S
        pinNew:=λ _ _ _ _=>rfl
        agree:=hA
        tmps:=λ t=>by
          unfold St.get
          rw [jM]
          simp only [Nat.zero_le,if_true,Nat.sub_zero]
          cases e:xs[t]? with
          | none=>simp only [CV]
          | some x =>
            obtain ⟨v,hv1,hv2⟩:=hv.get e
            have hlt:t < vs.size:=by have:=(aF.1 hv1).1; simpa using this
            have:vs[t]?=some v:=by simpa using hv1
            simp only [Array.getD_eq_getD_getElem?,Array.getElem?_append_left hlt,this,Option.getD_some]
            exact hv2
        held:=λ k b hk=>by simp [lk] at hk
        inj:=λ k k' b b' u u' g hk=>by simp [lk] at hk
        own:=λ k b u g hk=>by simp [lk] at hk
        os:=rfl
        tape:=rfl
        output:=rfl
        size:=Nat.le_refl _
        frame:=λ _ _ _=>rfl
        m0:=MLe.refl _
        keep:=λ k u e=>by cases e }
    refine calls_of_wp hf hc (Go.wp_mono (bM (G:=G) hT hS hM hG c _ _ _ _ h _ w S dE hR0 ?_) ?_)
    · simp; omega
    · have fin:∀ st a w' S' m,aJH P E C st fn.results.toList (λ x=>bL x λ y=>le y r)->Rel G C.kp st a w' S' m->a.defers=[]∧∃ v,(results fn a.tmps).run P w'=.ok v w' ∧
          ∃ u S',Ending.returned v=.returned u∧Below w.heap.size w w'∧Ext S S'∧(∀ b o,b < w.heap.size->S' b o=S b o)∧dX S' w'∧CV S' r dE u:=by
        intro st0 a w' S0 m0 hk0 hR0
        obtain ⟨st,S',m,hk,hR⟩:=cD _ _ S0 m0 _ hk0 hR0
        obtain ⟨x,v,h1,h2,h3⟩:=gI hR hk
        obtain ⟨y,h4,h5⟩:=eY _ _ h1
        exact ⟨hR.defers,v,h3,v,S',rfl,⟨hR.os,hR.tape,hR.output,hR.size,λ b hb=>hR.frame b hb (λ q=>q)⟩,hR.pin0,λ b o hb=>hR.pinNew b o hb (λ q=>q),hR.agree,fP _ _ _ _ h4 (h5 S' m v h2)⟩
      intro e a w' he
      cases e with
      | normal=>obtain ⟨st,S',m,hk,hR,_⟩:=he; exact fin st a w' S' m hk hR
      | ret=>obtain ⟨st,S',m,hk,hR,_⟩:=he; exact fin st a w' S' m hk hR
      | exit _=>obtain ⟨st,S',m,hk,hR,_⟩:=he; exact hk.elim
      | _=>exact he.elim
  · exact h.elim
open Go.RowKit (Below)
def eJ (i:Nat):Nat->List Nat
 | 0=>[]
 | n+1=>i::eJ (Nat.succ i) n
theorem gM:∀ (n i q:Nat),q < n->(eJ i n)[q]?=some (i+q)
 | 0,i,q,h=>by omega
 | n+1,i,0,h=>by simp [eJ]
 | n+1,i,q+1,h=>by
  simp only [eJ,List.getElem?_cons_succ]
  rw [gM n _ q (by omega)]
  congr 1; simp only [Nat.succ_eq_add_one]; omega
theorem mQ:∀ (n i:Nat),(eJ i n).length=n
 | 0,i=>rfl
 | n+1,i=>by simp [eJ,mQ n]
theorem sW {k:Nat}:∀ {n i:Nat},k ∈ eJ i n->i≤k
 | 0,i,h=>by simp [eJ] at h
 | n+1,i,h=>by
  simp only [eJ,List.mem_cons] at h
  rcases h with rfl | h
  ·exact Nat.le_refl _
  ·have:=sW h; simp only [Nat.succ_eq_add_one] at this; omega
theorem iW:∀ (n i:Nat),(eJ i n).Nodup
 | 0,i=>by simp [eJ]
 | n+1,i=>by
  simp only [eJ,List.nodup_cons]
  exact ⟨λ h=>by have:=sW h; simp only [Nat.succ_eq_add_one] at this; omega,iW n _⟩
def aD2:List Nat->List Nat->Bool
 | [],[]=>true
 | a::l,b::l'=>Nat.beq a b&&aD2 l l'
 | _,_=>false
theorem aDj:∀ {l l':List Nat},aD2 l l'=true->l=l'
 | [],[],_=>rfl
 | a::l,b::l',h=>by
  simp only [aD2,aC] at h
  rw [aA h.1,aDj h.2]
 | [],_::_,h=>by simp [aD2] at h
 | _::_,[],h=>by simp [aD2] at h
theorem jF:∀ (l acc:List Nat),∃ t,jG l acc=acc++t
 | [],acc=>⟨[],by simp [jG]⟩
 | k::l,acc=>by
  simp only [jG]
  cases inL k acc with
  | true=>exact jF l acc
  | false =>
   obtain ⟨t,ht⟩:=jF l (acc++[k])
   exact ⟨k::t,by simp only [cond_false,ht]; simp⟩
theorem wC (h:Nat->Option Blk):∀ (n:Nat) (ks:List Nat),∃ t,aIR h n ks=ks++t
 | 0,ks=>⟨[],by simp [aIR]⟩
 | n+1,ks=>by
  have key:∀ l,∃ t,aIR h n (jG l ks)=ks++t:=λ l=>by
   obtain ⟨t,ht⟩:=jF l ks
   obtain ⟨t',ht'⟩:=wC h n (jG l ks)
   exact ⟨t++t',by rw [ht',ht]; simp⟩
  exact key _
def eB:List Blk->Nat->List (Nat × Blk)
 | [],_=>[]
 | b::l,i=>(i,b)::eB l (Nat.succ i)
theorem kQ:∀ (bs:List Blk) (i k:Nat),lk (eB bs i) k=if i≤k then bs[k - i]? else none
 | [],i,k=>by simp [eB,lk]
 | b::l,i,k=>by
  simp only [eB,lk]
  rw [kQ l _ k]
  by_cases h:i=k
  ·subst h; rw [aY]; simp
  ·rw [nbeq_ne h]
   simp only [cond_false,Nat.succ_eq_add_one]
   by_cases h1:i≤k
   ·rw [if_pos (by omega),if_pos h1,show k - i=(k - (i+1))+1 by omega]; simp
   ·rw [if_neg (by omega),if_neg h1]
def kE:List Blk->Prop->Prop
 | [],k=>k
 | .cells cs::l,k=>aDS cs (kE l k)
 | _::l,k=>kE l k
theorem dR:∀ {bs:List Blk} {k:Prop},kE bs k->(∀ cs,Blk.cells cs ∈ bs->wfL cs)->k
 | [],k,h,_=>h
 | .cells cs::l,k,h,hw=>by
  simp only [kE] at h
  exact dR (lV h (hw cs (by simp))) (λ cs hc=>hw cs (by simp [hc]))
 | .row _ _ _::l,k,h,hw=>by
  simp only [kE] at h
  exact dR h (λ cs hc=>hw cs (by simp [hc]))
 | .tok _ _ _::l,k,h,hw=>by
  simp only [kE] at h
  exact dR h (λ cs hc=>hw cs (by simp [hc]))
 | .gone::l,k,h,hw=>by
  simp only [kE] at h
  exact dR h (λ cs hc=>hw cs (by simp [hc]))
 | .nrow _ _ _ _::l,k,h,hw=>by
  simp only [kE] at h
  exact dR h (λ cs hc=>hw cs (by simp [hc]))
 | .mp _ _ _::l,k,h,hw=>by
  simp only [kE] at h
  exact dR h (λ cs hc=>hw cs (by simp [hc]))
def aGD:List Blk->List Blk->Prop
 | [],[]=>True
 | b::l,c::l'=>leB (some b) c∧aGD l l'
 | _,_=>False
theorem oR:∀ {l l':List Blk} {q:Nat} {c:Blk},aGD l l'->l'[q]?=some c->∃ b,l[q]?=some b∧leB (some b) c
 | [],[],q,c,_,e=>by simp at e
 | b::l,d::l',q,c,h,e=>by
  simp only [aGD] at h
  cases q with
  | zero=>simp at e; subst e; exact ⟨b,rfl,h.1⟩
  | succ q=>simp at e; obtain ⟨b',h1,h2⟩:=oR h.2 e; exact ⟨b',by simpa using h1,h2⟩
 | [],_::_,_,_,h,_=>by simp [aGD] at h
 | _::_,[],_,_,h,_=>by simp [aGD] at h
theorem oQ:∀ {l l':List Blk},aGD l l'->l.length=l'.length
 | [],[],_=>rfl
 | b::l,d::l',h=>by simp only [aGD] at h; simp [oQ h.2]
 | [],_::_,h=>by simp [aGD] at h
 | _::_,[],h=>by simp [aGD] at h
def aKR (kp:List Nat) (r:AV) (bs':List Blk) (st:St) (x:AV):Prop :=
 (λ ks=>rnA (λ k=>idx k ks 0) x λ y=>zJ (lk st.heap) ks λ bs=>aPK (λ k=>idx k ks 0) bs λ cs=>le y r∧aGD cs bs') (aIR (lk st.heap) 3 (jG (aLz x) kp))
def aIS (kp:List Nat):List (Nat × Nat × Nat × Nat)->St->(St->Prop)->Prop
 | [],st,K=>K st
 | p::l,st,K=>cond (Nat.blt p.1 1000000&&yO (st.get p.1)) (aIT kp [p] st λ st=>aIS kp l st K) (aIS kp l st K)
theorem jY {G:Gh} {kp:List Nat} {a:Act} {w:World}:∀ (l:List (Nat × Nat × Nat × Nat)) (st:St) (S:Pin) (m:Nm) (K:St->Prop),aIS kp l st K->Rel G kp st a w S m->∃ st' S' m',K st'∧Rel G kp st' a w S' m'
 | [],st,S,m,K,H,h=>⟨st,S,m,H,h⟩
 | p::l,st,S,m,K,H,h=>by
  simp only [aIS] at H
  cases hb:(Nat.blt p.1 1000000&&yO (st.get p.1)) with
  | true =>
   rw [hb] at H
   simp only [cond_true] at H
   obtain ⟨s1,S1,m1,h1,h2⟩:=dA _ _ S m _ H h
   exact jY l s1 S1 m1 K h1 h2
  | false =>
   rw [hb] at H
   exact jY l st S m K H h
@[irreducible] def fnH (P:Program) (E:Env) (C:Cx) (inv:Nat->St->Option LInv) (fuel:Nat) (fn:Func) (xs:List AV) (bs:List Blk) (r:AV) (bs':List Blk):Prop :=
 match fn.body with
 | some c=>cond (Nat.beq C.nt fn.ntmps&&Nat.ble xs.length fn.ntmps&&aD2 C.kp (eJ 0 bs.length))
   (aDS xs (kE bs (cC P E C inv fuel c ⟨lB xs 0,eB bs 0⟩ (λ st=>aIS C.kp (C.emp 900001) st λ st=>aAx P E C st fn.results.toList (aKR C.kp r bs')) (λ _ _=>False) (λ st=>aIS C.kp (C.emp 900001) st λ st=>aAx P E C st fn.results.toList (aKR C.kp r bs'))))) False
 | none=>False
theorem bC {P:Program} {E:Env} {C:Cx} {inv:Nat->St->Option LInv} {fuel:Nat} (hT:TyOK P C.tys) (hS:cF P E) (hM:P.follows .mixedOrders=true) {f:FuncId} {fn:Func} (hf:P.funcs[f]?=some fn) {xs:List AV} {bs:List Blk} {r:AV} {bs':List Blk}
    (h:fnH P E C inv fuel fn xs bs r bs'):HC P E.glob f xs bs r bs':=by
  intro w S m vs hG hA hnm hheld hinj hv
  unfold fnH at h
  split at h
  · rename_i c hc
    obtain ⟨hb,h⟩:=aW h
    simp only [aC] at hb
    have hnt:=aA hb.1.1
    have hle:=aK hb.1.2
    have hkp:=aDj hb.2
    have h:=dR (lV h (rX _ _ _ hv)) (λ cs hcs=>by
      obtain ⟨q,hq⟩:=List.getElem?_of_mem hcs
      obtain ⟨g,arr,t,_,_,h3,_⟩:=hheld q _ hq
      exact rX _ _ _ h3)
    have hlen:=hv.len
    simp only [Array.length_toList] at hlen
    let G:Gh:=⟨w,S,m,Mof bs.length m⟩
    have hbl:∀ k b,lk (eB bs 0) k=some b->bs[k]?=some b:=by
      intro k b e
      rw [kQ] at e
      simpa using e
    have hbl2:∀ (k:Nat) (b:Blk),bs[k]?=some b->k < bs.length:=λ k b e=>(aF.1 e).1
    have hR0:Rel G C.kp ⟨lB xs 0,eB bs 0⟩ { tmps:=vs++Array.replicate (fn.ntmps - vs.size) undef,defers:=[] } w S m :=
      { defers:=rfl
        pin0:=Ext.refl S
        pinNew:=λ _ _ _ _=>rfl
        agree:=hA
        tmps:=λ t=>by
          unfold St.get
          rw [jM]
          simp only [Nat.zero_le,if_true,Nat.sub_zero]
          cases e:xs[t]? with
          | none=>simp only [CV]
          | some x =>
            obtain ⟨v,hv1,hv2⟩:=hv.get e
            have hlt:t < vs.size:=by have:=(aF.1 hv1).1; simpa using this
            have:vs[t]?=some v:=by simpa using hv1
            simp only [Array.getD_eq_getD_getElem?,Array.getElem?_append_left hlt,this,Option.getD_some]
            exact hv2
        held:=λ k b hk=>hheld k b (hbl k b hk)
        inj:=λ k k' b b' u u' g hk hk' hne hu hu' hg=>hinj k k' u u' g (hbl2 k b (hbl k b hk)) (hbl2 k' b' (hbl k' b' hk')) hne hu hu' hg
        own:=λ k b u g hk hu hg=>.inr ⟨k,u,hbl2 k b (hbl k b hk),hu,hg⟩
        os:=rfl
        tape:=rfl
        output:=rfl
        size:=Nat.le_refl _
        frame:=λ _ _ _=>rfl
        m0:=MLe.refl _
        keep:=λ k u e=>by
          have hlt:=hnm k u e
          rw [hkp]
          exact aL (by rw [gM _ 0 k hlt,Nat.zero_add]) }
    refine calls_of_wp hf hc (Go.wp_mono (bM (G:=G) hT hS hM hG c _ _ _ _ h _ w S m hR0 ?_) ?_)
    · simp; omega
    · have fin:∀ st a w' S' m',aIS C.kp (C.emp 900001) st (λ st=>aAx P E C st fn.results.toList (aKR C.kp r bs'))->Rel G C.kp st a w' S' m'->a.defers=[]∧∃ v,(results fn a.tmps).run P w'=.ok v w' ∧
          ∃ u S' m',Ending.returned v=.returned u∧w'.os=w.os∧w'.tape=w.tape∧w'.output=w.output∧w.heap.size≤w'.heap.size∧Ext S S' ∧
      (∀ b,b < w.heap.size->¬ Mof bs.length m b->w'.heap[b]?=w.heap[b]?∧∀ o,S' b o=S b o)∧dX S' w' ∧
      (∀ (q:Nat) (b:Blk),bs'[q]?=some b->fJ S' m' w' q b)∧aU5 bs'.length m'∧(∀ q u g,q < bs'.length->m' q=some u->bk u=some g->w.heap.size≤g∨Mof bs.length m g)∧MLe m m'∧CV S' r m' u:=by
        intro st0 a w' S0 m0 hk0 hR0
        obtain ⟨st1,S1,m1,hk1,hR1⟩:=jY _ _ S0 m0 _ hk0 hR0
        obtain ⟨st,S',m',hk,hR⟩:=cD _ _ S1 m1 _ hk1 hR1
        obtain ⟨x,v,h1,h2,h3⟩:=gI hR hk
        unfold aKR at h1
        generalize hks:aIR (lk st.heap) 3 (jG (aLz x) C.kp)=ks at h1
        have hknd:ks.Nodup:=by rw [← hks]; exact jW _ _ _ (dU _ _ (by rw [hkp]; exact iW _ _))
        have hpre:∀ q,q < bs.length->ks[q]?=some q:=by
          intro q hq
          obtain ⟨t,ht⟩:=jF (aLz x) C.kp
          obtain ⟨t',ht'⟩:=wC (lk st.heap) 3 (jG (aLz x) C.kp)
          rw [← hks,ht',ht,hkp,List.append_assoc,List.getElem?_append_left (by rw [mQ]; exact hq),gM _ _ _ hq,Nat.zero_add]
        obtain ⟨y,h4,hy⟩:=lF _ _ h1
        obtain ⟨cs,h5,hcl,hcs⟩:=fR _ _ h4
        obtain ⟨ds,h6,hdl,hds⟩:=gG _ _ h5
        obtain ⟨h7,h8⟩:=h6
        let m2:Nm:=λ q=>(ks[q]?).bind m'
        have hRn:Rn (λ k=>idx k ks 0) m' m2:=by
          intro i j hij
          have:=(mY hij).2
          simp only [Nat.sub_zero] at this
          simp only [m2,this,Option.bind_some]
        have hm2:∀ q k,ks[q]?=some k->m2 q=m' k:=λ q k e=>by simp only [m2,e,Option.bind_some]
        have hlen':bs'.length=ks.length:=by rw [← oQ h8,hdl,hcl]
        have hkb:∀ (q k:Nat),ks[q]?=some k->∃ b,lk st.heap k=some b:=λ q k e=>by obtain ⟨b,_,hb⟩:=hcs q k e; exact ⟨b,hb⟩
        refine ⟨hR.defers,v,h3,v,S',m2,rfl,hR.os,hR.tape,hR.output,hR.size,hR.pin0,λ b hb hn=>⟨hR.frame b hb hn,λ o=>hR.pinNew b o hb hn⟩,hR.agree,?_,?_,?_,?_,fP _ _ _ _ h7 (hy S' m' m2 v hRn h2)⟩
        · intro q b hb
          have hql:q < ks.length:=by rw [← hlen']; exact (aF.1 hb).1
          obtain ⟨d,hd,hle⟩:=oR h8 hb
          obtain ⟨c0,hc0,hh⟩:=hcs q ks[q] (by simp [hql])
          have hidx:idx ks[q] ks 0=some q:=by
            have key:∀ (l:List Nat) (q i:Nat) (h:q < l.length),l.Nodup->idx l[q] l i=some (i+q):=by
              intro l
              induction l with
              | nil=>intro q i h; simp at h
              | cons j l ih =>
                intro q i h hn
                rw [List.nodup_cons] at hn
                cases q with
                | zero=>simp [idx,aY]
                | succ q =>
                  simp at h
                  simp only [idx,List.getElem_cons_succ]
                  rw [nbeq_ne (λ e=>hn.1 (by rw [e]; exact List.getElem_mem h))]
                  simp only [cond_false]
                  rw [ih q (i+1) h hn.2]
                  congr 1; omega
            simpa using key ks q 0 hql hknd
          exact oS hle (hds q c0 d hc0 hd S' m' m2 w' ks[q] q hRn hidx (hR.held _ _ hh))
        · intro q q' u u' g hq hq' hne hu hu' hg
          rw [hlen'] at hq hq'
          rw [hm2 q ks[q] (by simp [hq])] at hu
          rw [hm2 q' ks[q'] (by simp [hq'])] at hu'
          obtain ⟨b,hb⟩:=hkb q ks[q] (by simp [hq])
          obtain ⟨b',hb'⟩:=hkb q' ks[q'] (by simp [hq'])
          exact hR.inj _ _ b b' u u' g hb hb' (λ e=>hne (iV (k:=ks[q]) hknd (p:=q) (q:=q') (by simp [hq]) (by rw [e]; simp [hq']))) hu hu' hg
        · intro q u g hq hu hg
          rw [hlen'] at hq
          rw [hm2 q ks[q] (by simp [hq])] at hu
          obtain ⟨b,hb⟩:=hkb q ks[q] (by simp [hq])
          exact hR.own _ b u g hb hu hg
        · intro k u hu
          obtain ⟨u',h9,h10⟩:=hR.m0 k u hu
          exact ⟨u',by rw [hm2 k k (hpre k (hnm k u hu))]; exact h9,h10⟩
      intro e a w' he
      cases e with
      | normal=>obtain ⟨st,S',m,hk,hR,_⟩:=he; exact fin st a w' S' m hk hR
      | ret=>obtain ⟨st,S',m,hk,hR,_⟩:=he; exact fin st a w' S' m hk hR
      | exit _=>obtain ⟨st,S',m,hk,hR,_⟩:=he; exact hk.elim
      | _=>exact he.elim
  · exact h.elim
open Go.RowKit (Below)
mutual
theorem aJg:∀ (x:AV) (k:AV->Prop),bL x k->∃ y,k y∧∀ k':AV->Prop,k' y->bL x k'
 | .acc a s xs,k,h=>by simp only [bL] at h; exact ⟨_,h,λ k' h'=>by simp only [bL]; exact h'⟩
 | .int a b,k,h=>by simp only [bL] at h; exact ⟨_,h,λ k' h'=>by simp only [bL]; exact h'⟩
 | .bool a,k,h=>by simp only [bL] at h; exact ⟨_,h,λ k' h'=>by simp only [bL]; exact h'⟩
 | .str a,k,h=>by simp only [bL] at h; exact ⟨_,h,λ k' h'=>by simp only [bL]; exact h'⟩
 | .sl a b c,k,h=>by simp only [bL] at h; exact ⟨_,h,λ k' h'=>by simp only [bL]; exact h'⟩
 | .nils,k,h=>by simp only [bL] at h; exact ⟨_,h,λ k' h'=>by simp only [bL]; exact h'⟩
 | .ro a,k,h=>by simp only [bL] at h; exact ⟨_,h,λ k' h'=>by simp only [bL]; exact h'⟩
 | .nilp,k,h=>by simp only [bL] at h; exact ⟨_,h,λ k' h'=>by simp only [bL]; exact h'⟩
 | .undef,k,h=>by simp only [bL] at h; exact ⟨_,h,λ k' h'=>by simp only [bL]; exact h'⟩
 | .dead,k,h=>by simp only [bL] at h; exact ⟨_,h,λ k' h'=>by simp only [bL]; exact h'⟩
 | .agg cs,k,h=>by
  simp only [bL] at h
  obtain ⟨l,h1,h2⟩:=kZ cs _ h
  exact ⟨_,h1,λ k' h'=>by simp only [bL]; exact h2 _ h'⟩
 | .tup cs,k,h=>by
  simp only [bL] at h
  obtain ⟨l,h1,h2⟩:=kZ cs _ h
  exact ⟨_,h1,λ k' h'=>by simp only [bL]; exact h2 _ h'⟩
 | .fn f cs,k,h=>by
  simp only [bL] at h
  obtain ⟨l,h1,h2⟩:=kZ cs _ h
  exact ⟨_,h1,λ k' h'=>by simp only [bL]; exact h2 _ h'⟩
 | .frz a s n xs,k,h=>by
  simp only [bL] at h
  obtain ⟨hn,h⟩:=aZ.1 h
  exact ⟨_,h,λ k' h'=>by simp only [bL]; exact aZ.2 ⟨hn,h'⟩⟩
 | .ptr _ _,_,h=>by simp [bL] at h
 | .ms _ _ _ _ _,_,h=>by simp [bL] at h
 | .rw _ _ _,_,h=>by simp [bL] at h
 | .mw _ _ _ _ _ _,_,h=>by simp [bL] at h
 | .prw _ _ _ _ _,_,h=>by simp [bL] at h
 | .mpv _,_,h=>by simp [bL] at h
theorem kZ:∀ (xs:List AV) (k:List AV->Prop),eE xs k->∃ ys,k ys∧∀ k':List AV->Prop,k' ys->eE xs k'
 | [],k,h=>by simp only [eE] at h; exact ⟨_,h,λ k' h'=>by simp only [eE]; exact h'⟩
 | x::xs,k,h=>by
  simp only [eE] at h
  obtain ⟨y,h1,h2⟩:=aJg x _ h
  obtain ⟨l,h3,h4⟩:=kZ xs _ h1
  exact ⟨_,h3,λ k' h'=>by simp only [eE]; exact h2 _ (h4 _ h')⟩
end
variable {P:Program} {S:Pin} {m:Nm} {w:World} {a:Act} {G:Gh} {kp:List Nat} {st:St} {E:Env} {C:Cx}
def drp:List (Nat × Nat)->Nat->Nat
 | [],_=>0
 | (j,m)::l,i=>cond (Nat.beq j i) m (drp l i)
theorem c0 {b:Bool} {A B:Prop} (h:b=false) (k:B):cond b A B:=by rw [h]; exact k
theorem c1 {b:Bool} {A B:Prop} (h:b=true) (k:A):cond b A B:=by rw [h]; exact k
theorem cd0 {p:Prop} [Decidable p] {A B:Prop} (h:¬ p) (k:B):cond (decide p) A B:=c0 (decide_eq_false h) k
theorem cd1 {p:Prop} [Decidable p] {A B:Prop} (h:p) (k:A):cond (decide p) A B:=c1 (decide_eq_true h) k
theorem cdR {k:IntKind} {n:Int} {A B:Prop} (h:rng k n) (K:A):cond (decide (rng k n)) A B:=c1 (decide_eq_true h) K
theorem cdI {n:Int} {A B:Prop} (h:-9223372036854775808≤n∧n≤9223372036854775807) (K:A):cond (decide (rng .i64 n)) A B:=cdR h K
theorem dJ {b:Bool} {A B:Prop} (h:b=true->A) (k:b=false->B):cond b A B:=by cases b; exact k rfl; exact h rfl
def xH:List (Nat × LInv)->Nat->St->Option LInv
 | [],_,_=>none
 | (j,L)::l,i,st=>cond (Nat.beq j i) (some L) (xH l i st)
def vQ:List (Nat × Nat × (Int->LInv))->Nat->St->Option LInv
 | [],_,_=>none
 | (j,s,L)::l,i,st=>cond (Nat.beq j i) (match lk st.tmps s with
  | some (.int _ n)=>some (L n)
  | _=>none) (vQ l i st)
theorem aWM {b:Bool} {A B:Prop}:cond b A B↔((b=true->A)∧(b=false->B)):=by cases b <;> simp
theorem aUZ {p:Prop} [Decidable p] {A B:Prop}:cond (decide p) A B↔((p->A)∧(¬p->B)):=by
 by_cases h:p <;> simp [h]
theorem aHY {p:Prop} [Decidable p] {A:Prop}:cond (decide p) A False↔(p∧A):=by
 by_cases h:p <;> simp [h]
theorem fok {f:FuncId} {fn:Func} (hf:P.funcs[f]?=some fn) (hn:(fn.name == "runtime.NumGoroutine")=false) (hb:fn.body.isSome=true):Fok P f :=
 ⟨fn,hf,λ e=>by rw [e] at hn; simp at hn,λ e=>by rw [e] at hb; simp at hb⟩
abbrev Sp:=List AV->Option (Prop × AV)
abbrev SpH:=List AV->List Blk->Option (Prop × AV × List Blk)
def SOK (P:Program) (gl:aX) (f:FuncId) (sp:Sp):Prop:=Fok P f∧∀ xs pre r,sp xs=some (pre,r)->pre->PureC P gl f xs r
def HOK (P:Program) (gl:aX) (f:FuncId) (sp:SpH):Prop:=Fok P f∧∀ xs bs pre r bs',sp xs bs=some (pre,r,bs')->pre->HC P gl f xs bs r bs'
def aUv (P:Program) (gl:aX):List (Nat × Sp)->Prop
 | []=>True
 | (f,sp)::l=>SOK P gl f sp∧aUv P gl l
def aUw (P:Program) (gl:aX):List (Nat × SpH)->Prop
 | []=>True
 | (f,sp)::l=>HOK P gl f sp∧aUw P gl l
theorem aUv.get {gl:aX}:∀ {l:List (Nat × Sp)} {f:Nat} {sp:Sp},aUv P gl l->lk l f=some sp->SOK P gl f sp
 | [],f,sp,_,e=>by simp [lk] at e
 | (j,s)::l,f,sp,h,e=>by
  simp only [lk] at e
  cases hj:Nat.beq j f with
  | true =>
   rw [hj] at e
   simp only [cond_true,aJ] at e
   have hj:=aA hj
   subst hj; subst e; exact h.1
  | false=>rw [hj] at e; simp only [cond_false] at e; exact aUv.get h.2 e
theorem aUw.get {gl:aX}:∀ {l:List (Nat × SpH)} {f:Nat} {sp:SpH},aUw P gl l->lk l f=some sp->HOK P gl f sp
 | [],f,sp,_,e=>by simp [lk] at e
 | (j,s)::l,f,sp,h,e=>by
  simp only [lk] at e
  cases hj:Nat.beq j f with
  | true =>
   rw [hj] at e
   simp only [cond_true,aJ] at e
   have hj:=aA hj
   subst hj; subst e; exact h.1
  | false=>rw [hj] at e; simp only [cond_false] at e; exact aUw.get h.2 e
theorem aU8 {f:FuncId} {fn:Func} (h:P.funcs[f]?=some fn) (h1:(fn.name == "runtime.NumGoroutine")=false) (h2:fn.body.isNone=true) (h3:Extern.findNext fn=none) (h4:Extern.find fn=some add64Entry):XOK P (some f):=⟨fn,h,h1,h2,h3,h4⟩
abbrev SpQ:=List AV->List Blk->Option ((AV->List Blk->Prop)->Prop)
def QOK (P:Program) (gl:aX) (f:FuncId) (sp:SpQ):Prop:=Fok P f∧∀ xs bs T,sp xs bs=some T->∀ K,T K->∃ r bs',K r bs'∧HC P gl f xs bs r bs'
def aXz (P:Program) (E:Env):Prop:=∀ f sp,E.specQ f=some sp->QOK P E.glob f sp
theorem aRb (h:E.specQ=λ _=>none):aXz P E:=λ f sp e=>by rw [h] at e; cases e
theorem aV {l:List (Nat × Sp)} {l':List (Nat × SpH)} (h1:E.spec=lk l) (h2:E.specH=lk l') (a:aUv P E.glob l) (b:aUw P E.glob l') (c:XOK P E.add64:=by exact trivial) (d:aXz P E:=by exact aRb rfl) (e0:P=Tryz.prog:=by exact rfl):cF P E :=
 ⟨λ f sp e=>a.get (by rw [← h1]; exact e),λ f sp e=>b.get (by rw [← h2]; exact e),c,d,e0⟩
theorem HC.le {gl:aX} {f:FuncId} {xs:List AV} {bs:List Blk} {r r':AV} {bs' bs2:List Blk} (h:HC P gl f xs bs r bs') (h1:le r r') (h2:aGD bs' bs2):HC P gl f xs bs r' bs2:=by
 intro w S m vs hG hA hnm hheld hinj hv
 refine (h w S m vs hG hA hnm hheld hinj hv).mono ?_
 rintro e w' ⟨u,S',m',he,h3,h4,h5,h6,h7,h8,h9,h10,h11,h12,h13,h14⟩
 have hlen:=oQ h2
 refine ⟨u,S',m',he,h3,h4,h5,h6,h7,h8,h9,λ q b hb=>?_,hlen ▸ h11,hlen ▸ h12,h13,fP _ _ _ _ h1 h14⟩
 obtain ⟨d,hd,hle⟩:=oR h2 hb
 exact oS hle (h10 q d hd)
def aXf (a b:Sp):Sp:=λ xs=>match a xs with | some r=>some r | none=>b xs
theorem SOK.or {gl:aX} {f:FuncId} {a b:Sp} (h:SOK P gl f a) (k:SOK P gl f b):SOK P gl f (aXf a b) :=
 ⟨h.1,λ xs pre r e hp=>by
  unfold aXf at e
  split at e
  ·next q hq=>injection e with e; subst e; exact h.2 xs pre r hq hp
  ·exact k.2 xs pre r e hp⟩
def aRr (a b:SpH):SpH:=λ xs bs=>match a xs bs with | some r=>some r | none=>b xs bs
theorem HOK.or {gl:aX} {f:FuncId} {a b:SpH} (h:HOK P gl f a) (k:HOK P gl f b):HOK P gl f (aRr a b) :=
 ⟨h.1,λ xs bs pre r bs' e hp=>by
  unfold aRr at e
  split at e
  ·next q hq=>injection e with e; subst e; exact h.2 xs bs pre r bs' hq hp
  ·exact k.2 xs bs pre r bs' e hp⟩
def aRq (a b:SpQ):SpQ:=λ xs bs=>match a xs bs with | some r=>some r | none=>b xs bs
theorem QOK.or {gl:aX} {f:FuncId} {a b:SpQ} (h:QOK P gl f a) (k:QOK P gl f b):QOK P gl f (aRq a b) :=
 ⟨h.1,λ xs bs T e K hT=>by
  unfold aRq at e
  split at e
  ·next q hq=>injection e with e; subst e; exact h.2 xs bs _ hq K hT
  ·exact k.2 xs bs T e K hT⟩
theorem bD:TyOK P []:=by constructor <;> simp [inT]
theorem aPI {l:List TypeId} (h:(l.all λ t=>!P.stoodInHeld t&&!P.eqGuardType P.depth t)=true):TyOK P l :=
 ⟨λ t ht=>by have:=List.all_eq_true.1 h t ht; simp at this; exact this.1,λ t ht=>by have:=List.all_eq_true.1 h t ht; simp at this; exact this.2⟩
def iJ (x n:Int):Int:=if n < 1 then 0 else x % n
theorem aF9 (x n:Int) (h:1≤n):(x.tmod n < 0->iJ x n=x.tmod n+n)∧(¬ x.tmod n < 0->iJ x n=x.tmod n):=by
 unfold iJ
 rw [if_neg (by omega),Int.emod_eq_tmod]
 have hn:(n.natAbs:Int)=n:=by omega
 constructor
 ·intro h1
  rw [if_neg,hn]
  rintro (h2 | h2)
  ·have:=Int.tmod_nonneg n h2; omega
  ·have:=Int.tmod_eq_zero_of_dvd h2; omega
 ·intro h1
  by_cases h2:0≤x∨n ∣ x
  ·rw [if_pos h2]; simp
  ·rw [if_neg h2]
   simp only [not_or] at h2
   exfalso
   have h3:x.tmod n=0:=by
    have h4:=Int.tmod_nonneg n (a:=-x) (by omega)
    rw [Int.neg_tmod] at h4
    omega
   exact h2.2 (Int.dvd_of_tmod_eq_zero h3)
theorem aMg (x n:Int) (h:1≤n):-n < x.tmod n∧x.tmod n < n:=by
 have h1:=Int.tmod_lt_of_pos x (b:=n) (by omega)
 have h2:=aF9 x n h
 have h3:0≤iJ x n:=by unfold iJ; rw [if_neg (by omega)]; exact Int.emod_nonneg _ (by omega)
 by_cases h4:x.tmod n < 0
 ·have h5:=h2.1 h4
  have h6:iJ x n < n:=by unfold iJ; rw [if_neg (by omega)]; exact Int.emod_lt_of_pos _ (by omega)
  by_cases h7:iJ x n=0
  ·exfalso
   have h8:x % n=0:=by unfold iJ at h7; rw [if_neg (by omega)] at h7; exact h7
   have:=Int.tmod_eq_zero_of_dvd (Int.dvd_of_emod_eq_zero h8)
   omega
  ·omega
 ·omega
def aNw:Sp
 | [.int .i64 x,.int .i64 n]=>some (True,.int .i64 (iJ x n))
 | _=>none
def aNx:Prop :=
 ∀ (gl:aX) (x n:Int),IR9 x->IR9 n->bif decide (n < (1:Int)) then (0:Int)=iJ x n else bif decide ¬n=(0:Int) then bif decide (x.tmod n < (0:Int)) then bif decide (rng .i64 (x.tmod n+n)) then x.tmod n+n=iJ x n else False else x.tmod n=iJ x n else False
theorem aV8:aNx:=by
 unfold aNx
 intro gl x n hx hn
 rw [aWM]
 simp only [decide_eq_true_eq,decide_eq_false_iff_not]
 refine ⟨λ h=>by unfold iJ; rw [if_pos h],λ h=>?_⟩
 have h1:=aF9 x n (by omega)
 have h2:=aMg x n (by omega)
 simp only [↓aHY,aUZ]
 simp only [rng]
 refine ⟨by omega,λ h3=>⟨by omega,(h1.1 h3).symm⟩,λ h3=>(h1.2 h3).symm⟩
theorem aV7:aNx=(∀ (gl:aX) (x n:Int),fnK Tryz.prog { glob:=gl,spec:=lk [],specH:=lk [] } { nt:=16,drop:=drp [(1,32),(3,896),(4,1024),(5,28672),(6,32768)] } (λ _ _=>none) 6 Tryz.f22 [.int .i64 x,.int .i64 n] (.int .i64 (iJ x n))):=by kernel_rfl
def aV6:=Eq.mp (aV7 ..) (aV8)
theorem aRX (gl:aX):SOK Tryz.prog gl 22 aNw:=by
 refine ⟨fok Tryz.func22 (by kernel_rfl) (by kernel_rfl),?_⟩
 intro xs pre r h hp
 unfold aNw at h
 split at h
 ·cases h
  exact aT bD (by exact aV rfl rfl trivial trivial) (by kernel_rfl) Tryz.func22 rfl (aV6 gl _ _)
 ·cases h
def aXp:List Int:=[0,1,2,0,2,3,0,3,4,0,4,5,0,5,1,
 1,6,2,2,7,3,3,8,4,4,9,5,5,10,1,
 6,7,2,7,8,3,8,9,4,9,10,5,10,6,1,
 11,7,6,11,8,7,11,9,8,11,10,9,11,6,10]
def glb:aX:=λ g=>cond (Nat.beq g 0) (some (aXp.map (AV.int .i64))) none
def crn (f:Int) (k:Nat):Int:=aXp.getD (3*f.toNat+k) 0
def fcs:List Int:=[0,1,2,3,4,5,6,7,8,9,10,11,12,13,14,15,16,17,18,19]
def aDo:List Int->(Int->Prop)->Prop
 | [],_=>True
 | x::l,p=>p x∧aDo l p
theorem fS {p:Int->Prop}:∀ {l:List Int} {f:Int},aDo l p->f ∈ l->p f
 | [],f,_,h=>by simp at h
 | x::l,f,h,hf=>by
  simp only [aDo] at h
  rcases List.mem_cons.1 hf with rfl | hf
  ·exact h.1
  ·exact fS h.2 hf
theorem fW {f:Int} (h:0≤f∧f < 20):f ∈ fcs:=by
 simp only [fcs,List.mem_cons,List.not_mem_nil,or_false]; omega
def fac (n:Int):Bool:=decide (0≤n∧n < 20)
structure Vld (f a b c:Int):Prop where
 face:0≤f∧f < 20
 wa:0≤a∧a≤840
 wb:0≤b∧b≤840
 wc:0≤c∧c≤840
 sum:a+b+c=840
theorem tR (f a b c:Int):Vld f a b c↔(0≤f∧f < 20)∧(0≤a∧a≤840)∧(0≤b∧b≤840)∧(0≤c∧c≤840)∧a+b+c=840 :=
 ⟨λ h=>⟨h.1,h.2,h.3,h.4,h.5⟩,λ h=>⟨h.1,h.2.1,h.2.2.1,h.2.2.2.1,h.2.2.2.2⟩⟩
instance (f a b c:Int):Decidable (Vld f a b c):=decidable_of_iff _ (tR f a b c).symm
def vld (f a b c:Int):Bool:=decide (Vld f a b c)
def wt (f a b c v:Int):Int:=if crn f 2=v then c else if crn f 1=v then b else if crn f 0=v then a else 0
def sel (ws:List Int) (i:Int):Int:=ws.getD i.toNat 0
def aHC:Sp
 | [.int .i64 n]=>some (True,.bool (fac n))
 | _=>none
def aHD:Prop :=
 ∀ (gl:aX) (n:Int),IR9 n->bif decide (0≤n) then decide (n < (20:Int))=fac n else false=fac n
theorem aTm:aHD:=by
 unfold aHD
 intro gl n hn
 unfold fac
 simp only [aUZ,decide_eq_decide,Bool.true_eq,Bool.false_eq,decide_eq_true_eq,decide_eq_false_iff_not]
 omega
theorem aTl:aHD=(∀ (gl:aX) (n:Int),fnK Tryz.prog { glob:=gl,spec:=lk [],specH:=lk [] } { nt:=9,drop:=drp [(1,504)] } (λ _ _=>none) 6 Tryz.f74 [.int .i64 n] (.bool (fac n))):=by kernel_rfl
def aTk:=Eq.mp (aTl ..) (aTm)
theorem aOK (gl:aX):SOK Tryz.prog gl 74 aHC:=by
 refine ⟨fok Tryz.func74 (by kernel_rfl) (by kernel_rfl),?_⟩
 intro xs pre r h hp
 unfold aHC at h
 split at h
 ·cases h
  exact aT bD (by exact aV rfl rfl trivial trivial) (by kernel_rfl) Tryz.func74 rfl (aTk gl _)
 ·cases h
def tS (vld:Int->Int->Int->Int->Bool):Sp
 | [.agg [.int .i64 f,.int .i64 a,.int .i64 b,.int .i64 c]]=>some (True,.bool (vld f a b c))
 | _=>none
def aAg (vld:Int->Int->Int->Int->Bool):Prop :=
 ∀ (gl:aX) (f a b c:Int),(IR9 f)∧(IR9 a)∧(IR9 b)∧(IR9 c)∧True->bif decide (a < (0:Int)) then false=vld f a b c else bif decide (840 < a) then false=vld f a b c else bif decide (b < (0:Int)) then false=vld f a b c else bif decide (840 < b) then false=vld f a b c else bif decide (c < (0:Int)) then false=vld f a b c else bif decide (840 < c) then false=vld f a b c else True∧(True->bif fac f then bif decide (rng .i64 (a+b)) then bif decide (rng .i64 (a+b+c)) then decide (a+b+c=(840:Int))=vld f a b c else False else False else false=vld f a b c)
theorem aL7:aAg vld:=by
 unfold aAg
 intro gl f a b c h
 simp only [↓aHY,aUZ,vld,fac]
 simp only [rng,decide_eq_decide,Bool.false_eq,decide_eq_false_iff_not,tR]
 repeat' (first | exact trivial | intro _ | apply And.intro)
 all_goals omega
theorem aL6 (vld:Int->Int->Int->Int->Bool):aAg vld=(∀ (gl:aX) (f a b c:Int),fnK Tryz.prog { glob:=gl,spec:=lk [(74,aHC)],specH:=lk [] } { nt:=36,drop:=drp [(1,2016),(3,16384),(4,1015808),(6,2097152),(7,68715282432)] } (λ _ _=>none) 6 Tryz.f32 [.agg [.int .i64 f,.int .i64 a,.int .i64 b,.int .i64 c]] (.bool (vld f a b c))):=by kernel_rfl
def aL5:=Eq.mp (aL6 ..) (aL7)
theorem aB7 (gl:aX):SOK Tryz.prog gl 32 (tS vld):=by
 refine ⟨fok Tryz.func32 (by kernel_rfl) (by kernel_rfl),?_⟩
 intro xs pre r h hp
 unfold tS at h
 split at h
 ·cases h
  exact aT bD (by exact aV rfl rfl ⟨(aOK gl),trivial⟩ trivial) (by kernel_rfl) Tryz.func32 rfl (aL5 gl _ _ _ _)
 ·cases h
def aVX:Sp
 | [.agg [.int .i64 f,.int .i64 a,.int .i64 b,.int .i64 c]]=>some (0≤f∧f < 20,.agg [.int .i64 (wt f a b c 0),.int .i64 (wt f a b c 1),.int .i64 (wt f a b c 2),.int .i64 (wt f a b c 3),.int .i64 (wt f a b c 4),.int .i64 (wt f a b c 5),.int .i64 (wt f a b c 6),.int .i64 (wt f a b c 7),.int .i64 (wt f a b c 8),.int .i64 (wt f a b c 9),.int .i64 (wt f a b c 10),.int .i64 (wt f a b c 11)])
 | _=>none
def aVU:Sp
 | [.int .i64 n,.agg [.int .i64 w0,.int .i64 w1,.int .i64 w2,.int .i64 w3,.int .i64 w4,.int .i64 w5,.int .i64 w6,.int .i64 w7,.int .i64 w8,.int .i64 w9,.int .i64 w10,.int .i64 w11]]=>some (0≤n∧n < 20,.tup [.agg [.int .i64 n,.int .i64 (sel [w0,w1,w2,w3,w4,w5,w6,w7,w8,w9,w10,w11] (crn n 0)),.int .i64 (sel [w0,w1,w2,w3,w4,w5,w6,w7,w8,w9,w10,w11] (crn n 1)),.int .i64 (sel [w0,w1,w2,w3,w4,w5,w6,w7,w8,w9,w10,w11] (crn n 2))],.bool (vld n (sel [w0,w1,w2,w3,w4,w5,w6,w7,w8,w9,w10,w11] (crn n 0)) (sel [w0,w1,w2,w3,w4,w5,w6,w7,w8,w9,w10,w11] (crn n 1)) (sel [w0,w1,w2,w3,w4,w5,w6,w7,w8,w9,w10,w11] (crn n 2)))])
 | _=>none
def aCu:Prop :=
 ∀ (a b c:Int),aDo fcs λ f=>((IR9 f)∧(IR9 a)∧(IR9 b)∧(IR9 c)∧True->wt f a b c 0=wt f a b c 0∧wt f a b c 1=wt f a b c 1∧wt f a b c 2=wt f a b c 2∧wt f a b c 3=wt f a b c 3∧wt f a b c 4=wt f a b c 4∧wt f a b c 5=wt f a b c 5∧wt f a b c 6=wt f a b c 6∧wt f a b c 7=wt f a b c 7∧wt f a b c 8=wt f a b c 8∧wt f a b c 9=wt f a b c 9∧wt f a b c 10=wt f a b c 10∧wt f a b c 11=wt f a b c 11∧True)
theorem aRx:aCu:=by
 unfold aCu
 intro a b c
 repeat' (first | exact trivial | intro _ | rfl | apply And.intro)
def aFJ:Prop:=∀ a b c:Int,aDo fcs λ f=>fnK Tryz.prog { glob:=glb } { nt:=25 } (λ _ _=>none) 6 Tryz.f33 [.agg [.int .i64 f,.int .i64 a,.int .i64 b,.int .i64 c]] (.agg [.int .i64 (wt f a b c 0),.int .i64 (wt f a b c 1),.int .i64 (wt f a b c 2),.int .i64 (wt f a b c 3),.int .i64 (wt f a b c 4),.int .i64 (wt f a b c 5),.int .i64 (wt f a b c 6),.int .i64 (wt f a b c 7),.int .i64 (wt f a b c 8),.int .i64 (wt f a b c 9),.int .i64 (wt f a b c 10),.int .i64 (wt f a b c 11)])
theorem aRw:aCu=aFJ:=by kernel_rfl
theorem aXL:aFJ:=@Eq.mp (aCu) (aFJ) (aRw) (aRx)
def aCs:Prop :=
 ∀ (w0 w1 w2 w3 w4 w5 w6 w7 w8 w9 w10 w11:Int),aDo fcs λ n=>(IR9 n->(IR9 w0)∧(IR9 w1)∧(IR9 w2)∧(IR9 w3)∧(IR9 w4)∧(IR9 w5)∧(IR9 w6)∧(IR9 w7)∧(IR9 w8)∧(IR9 w9)∧(IR9 w10)∧(IR9 w11)∧True->True∧(n=n∧sel [w0,w1,w2,w3,w4,w5,w6,w7,w8,w9,w10,w11] (crn n 0)=sel [w0,w1,w2,w3,w4,w5,w6,w7,w8,w9,w10,w11] (crn n 0)∧sel [w0,w1,w2,w3,w4,w5,w6,w7,w8,w9,w10,w11] (crn n 1)=sel [w0,w1,w2,w3,w4,w5,w6,w7,w8,w9,w10,w11] (crn n 1)∧sel [w0,w1,w2,w3,w4,w5,w6,w7,w8,w9,w10,w11] (crn n 2)=sel [w0,w1,w2,w3,w4,w5,w6,w7,w8,w9,w10,w11] (crn n 2)∧True)∧vld n (sel [w0,w1,w2,w3,w4,w5,w6,w7,w8,w9,w10,w11] (crn n 0)) (sel [w0,w1,w2,w3,w4,w5,w6,w7,w8,w9,w10,w11] (crn n 1)) (sel [w0,w1,w2,w3,w4,w5,w6,w7,w8,w9,w10,w11] (crn n 2))=vld n (sel [w0,w1,w2,w3,w4,w5,w6,w7,w8,w9,w10,w11] (crn n 0)) (sel [w0,w1,w2,w3,w4,w5,w6,w7,w8,w9,w10,w11] (crn n 1)) (sel [w0,w1,w2,w3,w4,w5,w6,w7,w8,w9,w10,w11] (crn n 2))∧True)
theorem aRu:aCs:=by
 unfold aCs
 intro w0 w1 w2 w3 w4 w5 w6 w7 w8 w9 w10 w11
 repeat' (first | exact trivial | intro _ | rfl | apply And.intro)
def aFG:Prop:=∀ w0 w1 w2 w3 w4 w5 w6 w7 w8 w9 w10 w11:Int,aDo fcs λ n=>fnK Tryz.prog { glob:=glb,spec:=lk [(32,tS vld)] } { nt:=28 } (λ _ _=>none) 6 Tryz.f34 [.int .i64 n,.agg [.int .i64 w0,.int .i64 w1,.int .i64 w2,.int .i64 w3,.int .i64 w4,.int .i64 w5,.int .i64 w6,.int .i64 w7,.int .i64 w8,.int .i64 w9,.int .i64 w10,.int .i64 w11]] (.tup [.agg [.int .i64 n,.int .i64 (sel [w0,w1,w2,w3,w4,w5,w6,w7,w8,w9,w10,w11] (crn n 0)),.int .i64 (sel [w0,w1,w2,w3,w4,w5,w6,w7,w8,w9,w10,w11] (crn n 1)),.int .i64 (sel [w0,w1,w2,w3,w4,w5,w6,w7,w8,w9,w10,w11] (crn n 2))],.bool (vld n (sel [w0,w1,w2,w3,w4,w5,w6,w7,w8,w9,w10,w11] (crn n 0)) (sel [w0,w1,w2,w3,w4,w5,w6,w7,w8,w9,w10,w11] (crn n 1)) (sel [w0,w1,w2,w3,w4,w5,w6,w7,w8,w9,w10,w11] (crn n 2)))])
theorem aRt:aCs=aFG:=by kernel_rfl
theorem aXK:aFG:=@Eq.mp (aCs) (aFG) (aRt) (aRu)
theorem aVY:SOK Tryz.prog glb 33 aVX:=by
 refine ⟨fok Tryz.func33 (by kernel_rfl) (by kernel_rfl),?_⟩
 intro xs pre r h hp
 unfold aVX at h
 split at h
 ·cases h
  exact aT bD (by exact aV (l:=[]) (l':=[]) rfl rfl trivial trivial) (by kernel_rfl) Tryz.func33 rfl (fS (aXL _ _ _) (fW hp))
 ·cases h
theorem aVV:SOK Tryz.prog glb 34 aVU:=by
 refine ⟨fok Tryz.func34 (by kernel_rfl) (by kernel_rfl),?_⟩
 intro xs pre r h hp
 unfold aVU at h
 split at h
 ·cases h
  exact aT bD (by exact aV (l':=[]) rfl rfl ⟨aB7 glb,trivial⟩ trivial) (by kernel_rfl) Tryz.func34 rfl (fS (aXK _ _ _ _ _ _ _ _ _ _ _ _) (fW hp))
 ·cases h
def onW (f a b c n:Int) (k:Nat):Int:=wt f a b c (crn n k)
def onV (f a b c n:Int):Bool:=vld n (onW f a b c n 0) (onW f a b c n 1) (onW f a b c n 2)
def wts (f a b c:Int):List Int:=[wt f a b c 0,wt f a b c 1,wt f a b c 2,wt f a b c 3,wt f a b c 4,wt f a b c 5,wt f a b c 6,wt f a b c 7,wt f a b c 8,wt f a b c 9,wt f a b c 10,wt f a b c 11]
theorem aMx (f a b c:Int) {n:Int} (h:0≤n∧n < 20):sel (wts f a b c) (crn n 0)=onW f a b c n 0∧sel (wts f a b c) (crn n 1)=onW f a b c n 1∧sel (wts f a b c) (crn n 2)=onW f a b c n 2:=by
 refine fS (l:=fcs) (p:=λ n=>sel (wts f a b c) (crn n 0)=onW f a b c n 0∧sel (wts f a b c) (crn n 1)=onW f a b c n 1∧sel (wts f a b c) (crn n 2)=onW f a b c n 2) ?_ (fW h)
 simp only [aDo,fcs]
 repeat' (first | exact trivial | rfl | apply And.intro)
def aDL (f a b c:Int):List Int->Int × Int × Int × Int
 | []=>(f,a,b,c)
 | n::l=>if onV f a b c n then (n,onW f a b c n 0,onW f a b c n 1,onW f a b c n 2) else aDL f a b c l
theorem aRA {f a b c n:Int} {l:List Int} (h:onV f a b c n=true):aDL f a b c (n::l)=(n,onW f a b c n 0,onW f a b c n 1,onW f a b c n 2):=by simp [aDL,h]
theorem aRB {f a b c n:Int} {l:List Int} (h:onV f a b c n=false):aDL f a b c (n::l)=aDL f a b c l:=by simp [aDL,h]
def nrm (f a b c:Int):Int × Int × Int × Int:=if vld f a b c then aDL f a b c fcs else (0,0,0,0)
def err (v:Bool):Int:=if v then 0 else 1
def aMA (f a b c f' a' b' c':Int):Bool:=decide (wts f a b c=wts f' a' b' c')
def oL (vld:Int->Int->Int->Int->Bool) (nrm:NrT):Sp
 | [.agg [.int .i64 f,.int .i64 a,.int .i64 b,.int .i64 c]]=>some (True,.tup [.agg [.int .i64 (nrm f a b c).1,.int .i64 (nrm f a b c).2.1,.int .i64 (nrm f a b c).2.2.1,.int .i64 (nrm f a b c).2.2.2],.int .i64 (err (vld f a b c))])
 | _=>none
abbrev bO (f a b c:Int):=[wt f a b c (0:Int),wt f a b c (1:Int),wt f a b c (2:Int),wt f a b c (3:Int),wt f a b c (4:Int),wt f a b c (5:Int),wt f a b c (6:Int),wt f a b c (7:Int),wt f a b c (8:Int),wt f a b c (9:Int),wt f a b c (10:Int),wt f a b c (11:Int)]
def uW (vld':Int->Int->Int->Int->Bool) (nrm:NrT):Prop :=
 ∀ (f a b c:Int),(IR9 f)∧(IR9 a)∧(IR9 b)∧(IR9 c)∧True->True∧bif !vld f a b c then ((0:Int)=(nrm f a b c).1∧(0:Int)=(nrm f a b c).2.1∧(0:Int)=(nrm f a b c).2.2.1∧(0:Int)=(nrm f a b c).2.2.2∧True)∧(1:Int)=err (vld' f a b c)∧True else (0≤f∧f < (20:Int))∧((0:Int)≤(0:Int)∧(0:Int) < (20:Int))∧bif vld 0 (sel (bO f a b c) 0) (sel (bO f a b c) 1) (sel (bO f a b c) 2) then ((0:Int)=(nrm f a b c).1∧sel (bO f a b c) 0=(nrm f a b c).2.1∧sel (bO f a b c) 1=(nrm f a b c).2.2.1∧sel (bO f a b c) 2=(nrm f a b c).2.2.2∧True)∧(0:Int)=err (vld' f a b c)∧True else ((0:Int)≤(1:Int)∧(1:Int) < (20:Int))∧bif vld 1 (sel (bO f a b c) 0) (sel (bO f a b c) 2) (sel (bO f a b c) 3) then ((1:Int)=(nrm f a b c).1∧sel (bO f a b c) 0=(nrm f a b c).2.1∧sel (bO f a b c) 2=(nrm f a b c).2.2.1∧sel (bO f a b c) 3=(nrm f a b c).2.2.2∧True)∧(0:Int)=err (vld' f a b c)∧True else ((0:Int)≤(2:Int)∧(2:Int) < (20:Int))∧bif vld 2 (sel (bO f a b c) 0) (sel (bO f a b c) 3) (sel (bO f a b c) 4) then ((2:Int)=(nrm f a b c).1∧sel (bO f a b c) 0=(nrm f a b c).2.1∧sel (bO f a b c) 3=(nrm f a b c).2.2.1∧sel (bO f a b c) 4=(nrm f a b c).2.2.2∧True)∧(0:Int)=err (vld' f a b c)∧True else ((0:Int)≤(3:Int)∧(3:Int) < (20:Int))∧bif vld 3 (sel (bO f a b c) 0) (sel (bO f a b c) 4) (sel (bO f a b c) 5) then ((3:Int)=(nrm f a b c).1∧sel (bO f a b c) 0=(nrm f a b c).2.1∧sel (bO f a b c) 4=(nrm f a b c).2.2.1∧sel (bO f a b c) 5=(nrm f a b c).2.2.2∧True)∧(0:Int)=err (vld' f a b c)∧True else ((0:Int)≤(4:Int)∧(4:Int) < (20:Int))∧bif vld 4 (sel (bO f a b c) 0) (sel (bO f a b c) 5) (sel (bO f a b c) 1) then ((4:Int)=(nrm f a b c).1∧sel (bO f a b c) 0=(nrm f a b c).2.1∧sel (bO f a b c) 5=(nrm f a b c).2.2.1∧sel (bO f a b c) 1=(nrm f a b c).2.2.2∧True)∧(0:Int)=err (vld' f a b c)∧True else ((0:Int)≤(5:Int)∧(5:Int) < (20:Int))∧bif vld 5 (sel (bO f a b c) 1) (sel (bO f a b c) 6) (sel (bO f a b c) 2) then ((5:Int)=(nrm f a b c).1∧sel (bO f a b c) 1=(nrm f a b c).2.1∧sel (bO f a b c) 6=(nrm f a b c).2.2.1∧sel (bO f a b c) 2=(nrm f a b c).2.2.2∧True)∧(0:Int)=err (vld' f a b c)∧True else ((0:Int)≤(6:Int)∧(6:Int) < (20:Int))∧bif vld 6 (sel (bO f a b c) 2) (sel (bO f a b c) 7) (sel (bO f a b c) 3) then ((6:Int)=(nrm f a b c).1∧sel (bO f a b c) 2=(nrm f a b c).2.1∧sel (bO f a b c) 7=(nrm f a b c).2.2.1∧sel (bO f a b c) 3=(nrm f a b c).2.2.2∧True)∧(0:Int)=err (vld' f a b c)∧True else ((0:Int)≤(7:Int)∧(7:Int) < (20:Int))∧bif vld 7 (sel (bO f a b c) 3) (sel (bO f a b c) 8) (sel (bO f a b c) 4) then ((7:Int)=(nrm f a b c).1∧sel (bO f a b c) 3=(nrm f a b c).2.1∧sel (bO f a b c) 8=(nrm f a b c).2.2.1∧sel (bO f a b c) 4=(nrm f a b c).2.2.2∧True)∧(0:Int)=err (vld' f a b c)∧True else ((0:Int)≤(8:Int)∧(8:Int) < (20:Int))∧bif vld 8 (sel (bO f a b c) 4) (sel (bO f a b c) 9) (sel (bO f a b c) 5) then ((8:Int)=(nrm f a b c).1∧sel (bO f a b c) 4=(nrm f a b c).2.1∧sel (bO f a b c) 9=(nrm f a b c).2.2.1∧sel (bO f a b c) 5=(nrm f a b c).2.2.2∧True)∧(0:Int)=err (vld' f a b c)∧True else ((0:Int)≤(9:Int)∧(9:Int) < (20:Int))∧bif vld 9 (sel (bO f a b c) 5) (sel (bO f a b c) 10) (sel (bO f a b c) 1) then ((9:Int)=(nrm f a b c).1∧sel (bO f a b c) 5=(nrm f a b c).2.1∧sel (bO f a b c) 10=(nrm f a b c).2.2.1∧sel (bO f a b c) 1=(nrm f a b c).2.2.2∧True)∧(0:Int)=err (vld' f a b c)∧True else ((0:Int)≤(10:Int)∧(10:Int) < (20:Int))∧bif vld 10 (sel (bO f a b c) 6) (sel (bO f a b c) 7) (sel (bO f a b c) 2) then ((10:Int)=(nrm f a b c).1∧sel (bO f a b c) 6=(nrm f a b c).2.1∧sel (bO f a b c) 7=(nrm f a b c).2.2.1∧sel (bO f a b c) 2=(nrm f a b c).2.2.2∧True)∧(0:Int)=err (vld' f a b c)∧True else ((0:Int)≤(11:Int)∧(11:Int) < (20:Int))∧bif vld 11 (sel (bO f a b c) 7) (sel (bO f a b c) 8) (sel (bO f a b c) 3) then ((11:Int)=(nrm f a b c).1∧sel (bO f a b c) 7=(nrm f a b c).2.1∧sel (bO f a b c) 8=(nrm f a b c).2.2.1∧sel (bO f a b c) 3=(nrm f a b c).2.2.2∧True)∧(0:Int)=err (vld' f a b c)∧True else ((0:Int)≤(12:Int)∧(12:Int) < (20:Int))∧bif vld 12 (sel (bO f a b c) 8) (sel (bO f a b c) 9) (sel (bO f a b c) 4) then ((12:Int)=(nrm f a b c).1∧sel (bO f a b c) 8=(nrm f a b c).2.1∧sel (bO f a b c) 9=(nrm f a b c).2.2.1∧sel (bO f a b c) 4=(nrm f a b c).2.2.2∧True)∧(0:Int)=err (vld' f a b c)∧True else ((0:Int)≤(13:Int)∧(13:Int) < (20:Int))∧bif vld 13 (sel (bO f a b c) 9) (sel (bO f a b c) 10) (sel (bO f a b c) 5) then ((13:Int)=(nrm f a b c).1∧sel (bO f a b c) 9=(nrm f a b c).2.1∧sel (bO f a b c) 10=(nrm f a b c).2.2.1∧sel (bO f a b c) 5=(nrm f a b c).2.2.2∧True)∧(0:Int)=err (vld' f a b c)∧True else ((0:Int)≤(14:Int)∧(14:Int) < (20:Int))∧bif vld 14 (sel (bO f a b c) 10) (sel (bO f a b c) 6) (sel (bO f a b c) 1) then ((14:Int)=(nrm f a b c).1∧sel (bO f a b c) 10=(nrm f a b c).2.1∧sel (bO f a b c) 6=(nrm f a b c).2.2.1∧sel (bO f a b c) 1=(nrm f a b c).2.2.2∧True)∧(0:Int)=err (vld' f a b c)∧True else ((0:Int)≤(15:Int)∧(15:Int) < (20:Int))∧bif vld 15 (sel (bO f a b c) 11) (sel (bO f a b c) 7) (sel (bO f a b c) 6) then ((15:Int)=(nrm f a b c).1∧sel (bO f a b c) 11=(nrm f a b c).2.1∧sel (bO f a b c) 7=(nrm f a b c).2.2.1∧sel (bO f a b c) 6=(nrm f a b c).2.2.2∧True)∧(0:Int)=err (vld' f a b c)∧True else ((0:Int)≤(16:Int)∧(16:Int) < (20:Int))∧bif vld 16 (sel (bO f a b c) 11) (sel (bO f a b c) 8) (sel (bO f a b c) 7) then ((16:Int)=(nrm f a b c).1∧sel (bO f a b c) 11=(nrm f a b c).2.1∧sel (bO f a b c) 8=(nrm f a b c).2.2.1∧sel (bO f a b c) 7=(nrm f a b c).2.2.2∧True)∧(0:Int)=err (vld' f a b c)∧True else ((0:Int)≤(17:Int)∧(17:Int) < (20:Int))∧bif vld 17 (sel (bO f a b c) 11) (sel (bO f a b c) 9) (sel (bO f a b c) 8) then ((17:Int)=(nrm f a b c).1∧sel (bO f a b c) 11=(nrm f a b c).2.1∧sel (bO f a b c) 9=(nrm f a b c).2.2.1∧sel (bO f a b c) 8=(nrm f a b c).2.2.2∧True)∧(0:Int)=err (vld' f a b c)∧True else ((0:Int)≤(18:Int)∧(18:Int) < (20:Int))∧bif vld 18 (sel (bO f a b c) 11) (sel (bO f a b c) 10) (sel (bO f a b c) 9) then ((18:Int)=(nrm f a b c).1∧sel (bO f a b c) 11=(nrm f a b c).2.1∧sel (bO f a b c) 10=(nrm f a b c).2.2.1∧sel (bO f a b c) 9=(nrm f a b c).2.2.2∧True)∧(0:Int)=err (vld' f a b c)∧True else ((0:Int)≤(19:Int)∧(19:Int) < (20:Int))∧bif vld 19 (sel (bO f a b c) 11) (sel (bO f a b c) 6) (sel (bO f a b c) 10) then ((19:Int)=(nrm f a b c).1∧sel (bO f a b c) 11=(nrm f a b c).2.1∧sel (bO f a b c) 6=(nrm f a b c).2.2.1∧sel (bO f a b c) 10=(nrm f a b c).2.2.2∧True)∧(0:Int)=err (vld' f a b c)∧True else (f=(nrm f a b c).1∧a=(nrm f a b c).2.1∧b=(nrm f a b c).2.2.1∧c=(nrm f a b c).2.2.2∧True)∧(0:Int)=err (vld' f a b c)∧True
theorem aJ8:uW vld nrm:=by
  unfold uW
  intro f a b c h
  refine ⟨trivial,?_⟩
  unfold nrm err
  cases hv:vld f a b c with
  | false=>exact ⟨⟨rfl,rfl,rfl,rfl,trivial⟩,rfl,trivial⟩
  | true =>
    have v:Vld f a b c:=of_decide_eq_true hv
    rw [if_pos rfl]
    refine ⟨v.face,?_⟩
    unfold fcs
    iterate 20
      (refine ⟨⟨by decide,by decide⟩,dJ (λ h=>?_) (λ h=>?_)⟩
       · rw [aRA (f:=f) (a:=a) (b:=b) (c:=c) h]; exact ⟨⟨rfl,rfl,rfl,rfl,trivial⟩,rfl,trivial⟩
       rw [aRB (f:=f) (a:=a) (b:=b) (c:=c) h])
    exact ⟨⟨rfl,rfl,rfl,rfl,trivial⟩,rfl,trivial⟩
theorem aJ7 (vld:Int->Int->Int->Int->Bool) (nrm:NrT):uW vld nrm=(∀ (f a b c:Int),fnK Tryz.prog { glob:=glb,spec:=lk [(32,(tS Go.Proofs.YtgbbmadjdaphnaaGreatDoor.vld)),(33,aVX),(34,aVU)],specH:=lk [],nowf:=true } { nt:=27,drop:=drp [(1,768),(2,2048),(3,12288),(6,65536),(7,8257536),(9,16777216),(10,33554432),(11,67108864)] } (λ _ _=>none) 21 Tryz.f75 [.agg [.int .i64 f,.int .i64 a,.int .i64 b,.int .i64 c]] (.tup [.agg [.int .i64 (nrm f a b c).1,.int .i64 (nrm f a b c).2.1,.int .i64 (nrm f a b c).2.2.1,.int .i64 (nrm f a b c).2.2.2],.int .i64 (err (vld f a b c))])):=by kernel_rfl
def aJ6:=Eq.mp (aJ7 ..) (aJ8)
theorem yB:SOK Tryz.prog glb 75 (oL vld nrm):=by
 refine ⟨fok Tryz.func75 (by kernel_rfl) (by kernel_rfl),?_⟩
 intro xs pre r h hp
 unfold oL at h
 split at h
 ·cases h
  exact aT bD (by exact aV rfl rfl ⟨(aB7 glb),(aVY),(aVV),trivial⟩ trivial) (by kernel_rfl) Tryz.func75 rfl (aJ6  _ _ _ _)
 ·cases h
def aFF (f a b c n:Int):List AV:=[.int .i64 n,.int .i64 (onW f a b c n 0),.int .i64 (onW f a b c n 1),.int .i64 (onW f a b c n 2)]
def aEc (f a b c:Int):Nat->LL
 | 0=>[]
 | n+1=>if onV f a b c n then aEc f a b c n++[aFF f a b c n] else aEc f a b c n
def adr (f a b c:Int):LL:=if vld f a b c then aEc f a b c 20 else []
structure AdrP (f a b c:Int) (x:Int × LL):Prop where
 lo:0≤x.1
 hi:x.1≤20
 row:x.2=aEc f a b c x.1.toNat
theorem aIq (f a b c:Int):∀ n,(aEc f a b c n).length≤n
 | 0=>by simp [aEc]
 | n+1=>by
  have:=aIq f a b c n
  simp only [aEc]
  split
  ·simp; omega
  ·omega
theorem aDq {f a b c n:Int} (h:0≤n):aEc f a b c (n+1).toNat=if onV f a b c n then aEc f a b c n.toNat++[aFF f a b c n] else aEc f a b c n.toNat:=by
 rw [show (n+1).toNat=n.toNat+1 by omega]
 simp only [aEc]
 rw [show ((n.toNat:Nat):Int)=n by omega]
def itr {σ:Type} (g:Int->σ->σ):Nat->Int->σ->σ
 | 0,_,s=>s
 | k+1,b,s=>itr g k (b+1) (g b s)
def rY {σ:Type} (g:Int->σ->σ) (b e:Int) (s:σ):σ:=itr g (e - b).toNat b s
theorem iL {σ:Type} {g:Int->σ->σ} {b e:Int} {s:σ} (h:b < e):rY g b e s=rY g (b+1) e (g b s):=by
 unfold rY; rw [show (e - b).toNat=(e - (b+1)).toNat+1 by omega]; rfl
theorem iM {σ:Type} {g:Int->σ->σ} {b e:Int} {s:σ} (h:e≤b):rY g b e s=s:=by
 unfold rY; rw [show (e - b).toNat=0 by omega]; rfl
theorem tU {σ:Type} {g:Int->σ->σ} {p:σ->Prop} (hg:∀ b s,p s->p (g b s)) (b e:Int) {s:σ} (h:p s):p (rY g b e s):=by
 unfold rY
 generalize (e - b).toNat=k
 induction k generalizing b s with
 | zero=>exact h
 | succ k ih=>exact ih (b+1) (hg b s h)
abbrev Pt:=LL × List (Int × AV)
def hN (n:Int):Int:=(840:Int).tdiv n
def jP (f a b c:Int):List AV:=[.int .i64 f,.int .i64 a,.int .i64 b,.int .i64 c]
def eqP (nrm:NrT) (f a b c:Int):Bool:=decide ((nrm f a b c).1=f)&&(decide ((nrm f a b c).2.1=a)&&(decide ((nrm f a b c).2.2.1=b)&&(decide ((nrm f a b c).2.2.2=c)&&true)))
def ptS (nrm:NrT) (n f a b:Int) (s:Pt):Pt :=
 if eqP nrm f (a*hN n) (b*hN n) ((n - a - b)*hN n)=true then (s.1++[jP f (a*hN n) (b*hN n) ((n - a - b)*hN n)],aDQ s.2 (qX [f,a*hN n,b*hN n,(n - a - b)*hN n]) (.int .i64 s.1.length)) else s
def ptB (nrm:NrT) (n f a b:Int) (s:Pt):Pt:=rY (ptS nrm n f a) b (n - a+1) s
def ptA (nrm:NrT) (n f a:Int) (s:Pt):Pt:=rY (λ a s=>ptB nrm n f a 0 s) a (n+1) s
def ptF (nrm:NrT) (n f:Int) (s:Pt):Pt:=rY (λ f s=>ptA nrm n f 0 s) f 20 s
def ptG (nrm:NrT) (n:Int):Pt:=ptF nrm n 0 ([],[])
structure PtL (s:Pt) (m:Int):Prop where
 r:(s.1.length:Int)≤m
 i:(s.2.length:Int)≤m
structure PtX (nrm:NrT) (n:Int) (x:Int × Pt):Prop where
 lo:0≤x.1
 hi:x.1≤20
 go:ptF nrm n x.1 x.2=ptG nrm n
 sm:PtL x.2 (25*x.1)
structure PtY (nrm:NrT) (n f:Int) (x:Int × Pt):Prop where
 fl:0≤f
 fh:f < 20
 lo:0≤x.1
 hi:x.1≤n+1
 go:ptF nrm n (f+1) (ptA nrm n f x.1 x.2)=ptG nrm n
 sm:PtL x.2 (25*f+5*x.1)
structure PtZ (nrm:NrT) (n f a:Int) (x:Int × Pt):Prop where
 fl:0≤f
 fh:f < 20
 al:0≤a
 ah:a≤n
 lo:0≤x.1
 hi:x.1≤n - a+1
 go:ptF nrm n (f+1) (ptA nrm n f (a+1) (ptB nrm n f a x.1 x.2))=ptG nrm n
 sm:PtL x.2 (25*f+5*a+x.1)
def ptH (n:Int) (s:Pt):List (Nat × Blk):=[(1015,.cells [.int .i64 n,.int .i64 (hN n),.rw 1500 4 s.1.length,.mpv 1013,.nils,.nils,.nils]),(1500,.row 27 4 s.1),(1013,.mp 27 3 s.2)]
def pt3 (nrm:NrT) (n:Int):LInv:=⟨Int × Pt,λ x=>⟨[(0,.int .i64 n),(3,.ptr 1015 0),(16,.int .i64 x.1)],ptH n x.2⟩,PtX nrm n,λ x=>(20 - x.1).toNat,none⟩
def pt6 (nrm:NrT) (n f:Int):LInv:=⟨Int × Pt,λ x=>⟨[(0,.int .i64 n),(3,.ptr 1015 0),(16,.int .i64 f),(4,.int .i64 f),(5,.int .i64 x.1)],ptH n x.2⟩,PtY nrm n f,λ x=>(n+1 - x.1).toNat,none⟩
def pt9 (nrm:NrT) (n f a:Int):LInv:=⟨Int × Pt,λ x=>⟨[(0,.int .i64 n),(3,.ptr 1015 0),(16,.int .i64 f),(4,.int .i64 f),(5,.int .i64 a),(6,.int .i64 x.1)],ptH n x.2⟩,PtZ nrm n f a,λ x=>(n - a+1 - x.1).toNat,none⟩
def aPO (j s t:Nat) (L:Int->Int->LInv) (i:Nat) (st:St) (o:Option LInv):Option LInv:=cond (Nat.beq j i) (match lk st.tmps s,lk st.tmps t with
 | some (.int _ a),some (.int _ b)=>some (L a b)
 | _,_=>none) o
theorem csp {p:Prop} [Decidable p] {A B:Prop} (h:p->A) (k:¬ p->B):cond (decide p) A B:=dJ (λ q=>h (of_decide_eq_true q)) (λ q=>k (of_decide_eq_false q))
theorem n14 {n:Int} (h1:1≤n) (h4:n≤4):n=1∨n=2∨n=3∨n=4:=by omega
theorem aXk {n:Int} (h1:1≤n) (h4:n≤4):210≤hN n∧hN n≤840∧n*hN n=840:=by
 rcases n14 h1 h4 with rfl | rfl | rfl | rfl <;> decide
theorem aRM {x h:Int} (x0:0≤x) (x5:x≤5) (h0:0≤h) (h8:h≤840):0≤x*h∧x*h≤4200 :=
 ⟨Int.mul_nonneg x0 h0,Int.le_trans (Int.mul_le_mul x5 h8 h0 (by decide)) (by decide)⟩
theorem aGw (n:Int):∀ l:List (Int × AV),(yJ l n).length≤l.length
 | []=>Nat.le_refl _
 | (k,x)::l=>by
  have:=aGw n l
  simp only [yJ]
  cases decide (k=n) <;> simp <;> omega
def vF:Sp
 | [.int .i64 n]=>some (True,.bool (decide (1≤n∧n≤8)))
 | _=>none
def aAY:Prop :=
 ∀ (gl:aX) (n:Int),IR9 n->bif decide (1≤n) then decide (n≤(8:Int))=decide (1≤n∧n≤(8:Int)) else false=decide (1≤n∧n≤(8:Int))
theorem aND:aAY:=by
 unfold aAY
 intro gl n hn
 simp only [aUZ,decide_eq_decide,Bool.true_eq,Bool.false_eq,decide_eq_true_eq,decide_eq_false_iff_not]
 omega
theorem aNC:aAY=(∀ (gl:aX) (n:Int),fnK Tryz.prog { glob:=gl,spec:=lk [],specH:=lk [] } { nt:=9,drop:=drp [(1,504)] } (λ _ _=>none) 6 Tryz.f36 [.int .i64 n] (.bool (decide (1≤n∧n≤8)))):=by kernel_rfl
def aNB:=Eq.mp (aNC ..) (aND)
theorem aCC (gl:aX):SOK Tryz.prog gl 36 vF:=by
 refine ⟨fok Tryz.func36 (by kernel_rfl) (by kernel_rfl),?_⟩
 intro xs pre r h hp
 unfold vF at h
 split at h
 ·cases h
  exact aT bD (by exact aV rfl rfl trivial trivial) (by kernel_rfl) Tryz.func36 rfl (aNB gl _)
 ·cases h
def aF7 (nrm:NrT) (vld:Int->Int->Int->Int->Bool):SpH
 | [.int .i64 n],[]=>some (1≤n∧n≤4,.ptr 0 0,[.cells [.int .i64 n,.int .i64 (hN n),.sl 4 false (ptG nrm n).1,.mpv 1,.nils,.nils,.nils],.mp 27 3 (ptG nrm n).2])
 | _,_=>none
def aF8 (nrm:NrT) (vld:Int->Int->Int->Int->Bool):Prop :=
 ∀ (n:Int),1≤n∧n≤(4:Int)->IR9 n->bif decide ¬n=(0:Int) then bif decide (rng IntKind.i64 (Int.tdiv 840 n)) then (∃ x,PtX nrm n x∧(n=n∧(0:Nat)=(0:Nat)∧(0:Int)=x.1∧True)∧(n=n∧Int.tdiv 840 n=hN n∧(0:Nat)=x.2.1.length∧True∧True∧True∧True∧True)∧[]=x.2.1∧[]=x.2.2∧True)∧∀ (x1:Int × Pt),PtX nrm n x1->bif decide (x1.1 < (20:Int)) then (∃ x_1,PtY nrm n x1.1 x_1∧(n=n∧(0:Nat)=(0:Nat)∧x1.1=x1.1∧x1.1=x1.1∧(0:Int)=x_1.1∧True)∧(n=n∧hN n=hN n∧x1.2.1.length=x_1.2.1.length∧True∧True∧True∧True∧True)∧x1.2.1=x_1.2.1∧x1.2.2=x_1.2.2∧True)∧∀ (x2:Int × Pt),PtY nrm n x1.1 x2->bif decide (x2.1≤n) then (∃ x_2,PtZ nrm n x1.1 x2.1 x_2∧(n=n∧(0:Nat)=(0:Nat)∧x1.1=x1.1∧x1.1=x1.1∧x2.1=x2.1∧(0:Int)=x_2.1∧True)∧(n=n∧hN n=hN n∧x2.2.1.length=x_2.2.1.length∧True∧True∧True∧True∧True)∧x2.2.1=x_2.2.1∧x2.2.2=x_2.2.2∧True)∧∀ (x3:Int × Pt),PtZ nrm n x1.1 x2.1 x3->bif decide (rng IntKind.i64 (x2.1+x3.1)) then bif decide (x2.1+x3.1≤n) then bif decide (rng IntKind.i64 (x2.1*hN n)) then bif decide (rng IntKind.i64 (x3.1*hN n)) then bif decide (rng IntKind.i64 (n - x2.1)) then bif decide (rng IntKind.i64 (n - x2.1 - x3.1)) then bif decide (rng IntKind.i64 ((n - x2.1 - x3.1)*hN n)) then True∧bif decide ((nrm x1.1 (x2.1*hN n) (x3.1*hN n) ((n - x2.1 - x3.1)*hN n)).1=x1.1)&&(decide ((nrm x1.1 (x2.1*hN n) (x3.1*hN n) ((n - x2.1 - x3.1)*hN n)).2.1=x2.1*hN n)&&(decide ((nrm x1.1 (x2.1*hN n) (x3.1*hN n) ((n - x2.1 - x3.1)*hN n)).2.2.1=x3.1*hN n)&&(decide ((nrm x1.1 (x2.1*hN n) (x3.1*hN n) ((n - x2.1 - x3.1)*hN n)).2.2.2=(n - x2.1 - x3.1)*hN n)&&true))) then bif decide (x3.2.2.length≤(140737488355327:Nat)) then bif decide (x3.2.1.length=x3.2.1.length∧x3.2.1.length+[[I6 x1.1,I6 (x2.1*hN n),I6 (x3.1*hN n),I6 ((n - x2.1 - x3.1)*hN n)]].length≤(9223372036854775807:Nat)∧(x3.2.1.length+[[I6 x1.1,I6 (x2.1*hN n),I6 (x3.1*hN n),I6 ((n - x2.1 - x3.1)*hN n)]].length)*(32:Nat)≤(140737488355328:Nat)) then bif decide (rng IntKind.i64 (x3.1+(1:Int))) then ∃ y,PtZ nrm n x1.1 x2.1 y∧(pt9 nrm n x1.1 x2.1).m y < (pt9 nrm n x1.1 x2.1).m x3∧(n=n∧(0:Nat)=(0:Nat)∧x1.1=x1.1∧x1.1=x1.1∧x2.1=x2.1∧x3.1+(1:Int)=y.1∧True)∧(n=n∧hN n=hN n∧(x3.2.1++[[I6 x1.1,I6 (x2.1*hN n),I6 (x3.1*hN n),I6 ((n - x2.1 - x3.1)*hN n)]]).length=y.2.1.length∧True∧True∧True∧True∧True)∧x3.2.1++[[I6 x1.1,I6 (x2.1*hN n),I6 (x3.1*hN n),I6 ((n - x2.1 - x3.1)*hN n)]]=y.2.1∧aDQ x3.2.2 (qX [x1.1,x2.1*hN n,x3.1*hN n,(n - x2.1 - x3.1)*hN n]) (I6 (↑x3.2.1.length:Int))=y.2.2∧True else False else False else False else bif decide (rng IntKind.i64 (x3.1+(1:Int))) then ∃ y,PtZ nrm n x1.1 x2.1 y∧(pt9 nrm n x1.1 x2.1).m y < (pt9 nrm n x1.1 x2.1).m x3∧(n=n∧(0:Nat)=(0:Nat)∧x1.1=x1.1∧x1.1=x1.1∧x2.1=x2.1∧x3.1+(1:Int)=y.1∧True)∧(n=n∧hN n=hN n∧x3.2.1.length=y.2.1.length∧True∧True∧True∧True∧True)∧x3.2.1=y.2.1∧x3.2.2=y.2.2∧True else False else False else False else False else False else False else bif decide (rng IntKind.i64 (x2.1+(1:Int))) then ∃ y,PtY nrm n x1.1 y∧(pt6 nrm n x1.1).m y < (pt6 nrm n x1.1).m x2∧(n=n∧(0:Nat)=(0:Nat)∧x1.1=x1.1∧x1.1=x1.1∧x2.1+(1:Int)=y.1∧True)∧(n=n∧hN n=hN n∧x3.2.1.length=y.2.1.length∧True∧True∧True∧True∧True)∧x3.2.1=y.2.1∧x3.2.2=y.2.2∧True else False else False else bif decide (rng IntKind.i64 (x1.1+(1:Int))) then ∃ y,PtX nrm n y∧(pt3 nrm n).m y < (pt3 nrm n).m x1∧(n=n∧(0:Nat)=(0:Nat)∧x1.1+(1:Int)=y.1∧True)∧(n=n∧hN n=hN n∧x2.2.1.length=y.2.1.length∧True∧True∧True∧True∧True)∧x2.2.1=y.2.1∧x2.2.2=y.2.2∧True else False else bif decide (x1.2.1.length=x1.2.1.length) then (0:Nat)=(0:Nat)∧(n=n∧hN n=hN n∧(True∧x1.2.1=(ptG nrm n).1)∧True∧True∧True∧True∧True)∧x1.2.2=(ptG nrm n).2∧True else False else False else False
theorem aRW:aF8 nrm vld:=by
 unfold aF8
 delta I6
 intro n ⟨n1,n4⟩ _
 obtain ⟨h2,h8,_⟩:=aXk n1 n4
 refine cd1 (by omega) (cdI (show -9223372036854775808≤hN n∧hN n≤9223372036854775807 by omega) ⟨⟨(0,[],[]),⟨by decide,by decide,rfl,⟨by decide,by decide⟩⟩,by repeat' first|exact trivial|exact rfl|assumption|apply And.intro⟩,?_⟩)
 rintro ⟨f,s⟩ ⟨fl,fh,fg,fs⟩
 refine csp (λ h=>⟨⟨(0,s),⟨fl,h,Int.le_refl 0,by simp only; omega,(iL h).symm.trans fg,⟨by have:=fs.r; simp only at this ⊢; omega,by have:=fs.i; simp only at this ⊢; omega⟩⟩,by repeat' first|exact trivial|exact rfl|assumption|apply And.intro⟩,?_⟩) (λ h=>?_)
 ·clear fg fs
  rintro ⟨a,s⟩ ⟨f0,f20,al,ah,ag,as_⟩
  refine csp (λ h=>⟨⟨(0,s),⟨f0,f20,al,h,Int.le_refl 0,by simp only at h ⊢; omega,?_,⟨by have:=as_.r; simp only at this ⊢; omega,by have:=as_.i; simp only at this ⊢; omega⟩⟩,by repeat' first|exact trivial|exact rfl|assumption|apply And.intro⟩,?_⟩) (λ h=>?_)
  ·have e:ptA nrm n f a s=ptA nrm n f (a+1) (ptB nrm n f a 0 s):=iL (by simp only at h; omega)
   simp only at ag ⊢
   rw [← e]; exact ag
  ·clear ag as_
   rintro ⟨b,s⟩ ⟨_,_,a0,an,bl,bh,bg,bs⟩
   simp only at a0 an bl bh bg f0 f20
   obtain ⟨m1,m2⟩:=aRM (x:=a) (h:=hN n) a0 (by omega) (by omega) h8
   obtain ⟨m3,m4⟩:=aRM (x:=b) (h:=hN n) bl (by omega) (by omega) h8
   refine cdI (by simp only; omega) (csp (λ h=>?_) (λ h=>?_))
   ·simp only at h
    obtain ⟨m5,m6⟩:=aRM (x:=n - a - b) (h:=hN n) (by omega) (by omega) (by omega) h8
    have br:=bs.r
    have bi:=bs.i
    simp only at br bi
    have e:ptB nrm n f a b s=ptB nrm n f a (b+1) (ptS nrm n f a b s):=iL (by omega)
    rw [e] at bg
    refine cdI (by simp only; omega) (cdI (by simp only; omega) (cdI (by simp only; omega) (cdI (by simp only; omega) (cdI (by simp only; omega) ⟨trivial,dJ (λ q=>?_) (λ q=>?_)⟩))))
    ·have es:ptS nrm n f a b s=(s.1++[jP f (a*hN n) (b*hN n) ((n - a - b)*hN n)],aDQ s.2 (qX [f,a*hN n,b*hN n,(n - a - b)*hN n]) (.int .i64 s.1.length)):=if_pos q
     rw [es] at bg
     refine cd1 (by simp only; omega) (cd1 ⟨rfl,by simp only [aH]; omega,by simp only [aH]; omega⟩ (cdI (by simp only; omega) ⟨(b+1,(s.1++[jP f (a*hN n) (b*hN n) ((n - a - b)*hN n)],aDQ s.2 (qX [f,a*hN n,b*hN n,(n - a - b)*hN n]) (.int .i64 s.1.length))),⟨f0,f20,a0,an,by simp only; omega,by simp only; omega,bg,⟨?_,?_⟩⟩,?_,by repeat' first|exact trivial|exact rfl|assumption|apply And.intro⟩))
     ·simp only [aG,aH]; omega
     ·have:=aGw (qX [f,a*hN n,b*hN n,(n - a - b)*hN n]) s.2
      simp only [aDQ,List.length_cons]; omega
     ·simp only [pt9]; omega
    ·have es:ptS nrm n f a b s=s:=if_neg (by unfold eqP; rw [q]; decide)
     rw [es] at bg
     refine cdI (by simp only; omega) ⟨(b+1,s),⟨f0,f20,a0,an,by simp only; omega,by simp only; omega,bg,⟨by simp only; omega,by simp only; omega⟩⟩,by simp only [pt9]; omega,by repeat' first|exact trivial|exact rfl|assumption|apply And.intro⟩
   ·simp only at h
    have e:ptB nrm n f a b s=s:=iM (by omega)
    rw [e] at bg
    have br:=bs.r
    have bi:=bs.i
    simp only at br bi
    exact cdI (by simp only; omega) ⟨(a+1,s),⟨f0,f20,by simp only; omega,by simp only; omega,bg,⟨by simp only; omega,by simp only; omega⟩⟩,by simp only [pt6]; omega,by repeat' first|exact trivial|exact rfl|assumption|apply And.intro⟩
  ·simp only at h al ah ag f0 f20
   have e:ptA nrm n f a s=s:=iM (by omega)
   rw [e] at ag
   have br:=as_.r
   have bi:=as_.i
   simp only at br bi
   exact cdI (by simp only; omega) ⟨(f+1,s),⟨by simp only; omega,by simp only; omega,ag,⟨by simp only; omega,by simp only; omega⟩⟩,by simp only [pt3]; omega,by repeat' first|exact trivial|exact rfl|assumption|apply And.intro⟩
 ·simp only at h fl fh fg
  have e:ptF nrm n f s=s:=iM (by omega)
  rw [e] at fg
  subst fg
  exact cd1 rfl (by repeat' first|exact trivial|exact rfl|assumption|apply And.intro)
theorem aRV (nrm:NrT) (vld:Int->Int->Int->Int->Bool):aF8 nrm vld=(∀ (n:Int),1≤n∧n≤4->fnH Tryz.prog { glob:=glb,spec:=lk [(75,(oL vld nrm))],specH:=lk [],nowf:=true } { nt:=85,drop:=drp [(1,64512),(4,262144),(6,1572864),(7,12582912),(9,251658240),(10,1610612736),(11,36028794871480320),(12,1116892707587883008),(13,3458764513820540928),(14,9435509593702435651584),(15,9661961823951294107222016),(16,9671406556917033397649408),(17,19342813113834066795298816)],fr:=1000,kp:=[],tys:=[27],frz:=λ id=>cond (Nat.beq id 17) [1001500] [],emp:=λ id=>cond (Nat.beq id 2) [(1101502,1500,27,4)] [] } (λ id st=>cond (Nat.beq id 3) (some (pt3 nrm n)) (aPO 9 4 5 (pt9 nrm n) id st (vQ [(6,4,pt6 nrm n)] id st))) 6 Tryz.f37 [.int .i64 n] [] (.ptr 0 0) [.cells [.int .i64 n,.int .i64 (hN n),.sl 4 false (ptG nrm n).1,.mpv 1,.nils,.nils,.nils],.mp 27 3 (ptG nrm n).2]):=by kernel_rfl
def aRU:=Eq.mp (aRV ..) (aRW)
theorem aNv:HOK Tryz.prog glb 37 (aF7 nrm vld):=by
 refine ⟨fok Tryz.func37 (by kernel_rfl) (by kernel_rfl),?_⟩
 intro xs bs pre r bs2 h hp
 unfold aF7 at h
 split at h
 ·cases h
  exact bC (aPI (by kernel_rfl)) (by exact aV rfl rfl ⟨(yB),trivial⟩ trivial) (by kernel_rfl) Tryz.func37 (aRU  _ hp)
 ·cases h
end Go.Proofs.YtgbbmadjdaphnaaGreatDoor
