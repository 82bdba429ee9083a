import Derived.Test.YtgbbmadjdaphnaaGreatDoorTUg
import Derived.Test.YtgbbmadjdaphnaaGreatDoorTUc
import Derived.ProofKit
import Derived.OpenShut
import Derived.ShutString
import Derived.ChangeOld
import Derived.Carry
import Derived.Deep.Slices
import Derived.WideShapes
import Derived.LaidMore
set_option maxRecDepth 100000
set_option linter.defProp false
set_option linter.unusedVariables false
set_option linter.unusedSimpArgs false
namespace Go.Proofs.YtgbbmadjdaphnaaGreatDoor
open Go Go.RowKit
variable {P:Program} {S:Pin} {m:Nm} {w:World} {a:Act} {G:Gh} {kp:List Nat} {st:St} {E:Env} {C:Cx}
theorem svE:aMC.body=some (.block 0 (.loop (.seq aQM (.block 1 (.seq aQL (.seq aQJ (.seq aJs aLw))))))):=by kernel_rfl
theorem aQI:aJs=.region 4 zZ true:=by kernel_rfl
theorem aQK:aLw=.cond (.tmp 58) .ret .skip:=by kernel_rfl
theorem aQH:aUS zZ 21=true:=by kernel_rfl
theorem aQE:bT aQM=true∧(bT aQL=true∧bT aQJ=true)∧bT (.seq aJs aLw)=true:=⟨by kernel_rfl,⟨by kernel_rfl,by kernel_rfl⟩,by kernel_rfl⟩
theorem aVC:(zZ.toList.drop 22).all pQ=true:=by kernel_rfl
def svO:Oper:={ dst:=some 56,op:=.call { callee:=.value (.tmp 53),args:=#[.tmp 55],argTypes:=#[127] },type:=4,pos:= "forecast.go:29",after:=#[],guard:=some (17,true) }
theorem aXF:∃ o,zZ.toList.drop 21=o::zZ.toList.drop 22∧o.op=.call { callee:=.value (.tmp 53),args:=#[.tmp 55],argTypes:=#[127] }∧o.dst=some 56∧o.guard=some (17,true):=⟨zZ.toList.getD 21 svO,by kernel_rfl,by kernel_rfl,by kernel_rfl,by kernel_rfl⟩
theorem aVD:(zZ[17]?).bind (·.dst)=some 52:=by kernel_rfl
theorem aPO:cE Tryz.prog EW:=aV rfl rfl ⟨aCF,aHE glb,trivial⟩ trivial
def kpS:List Nat:=[39,1039,31]
theorem aXj:Tryz.prog.follows .mixedOrders=true:=by kernel_rfl
theorem aUG {cd:Code} (hs:bT cd=true) {kn:St->Prop} {ke:Nat->St->Prop} {kr:St->Prop} (h:acX Tryz.prog EW CW (λ _ _=>none) 6 cd st kn ke kr) (hg:GOKg glb G.S0) (hR:Rel G kpS st a w S m) (hz:a.tmps.size=CW.nt) {k:Nat}:cd.wpIn Fence.wide k Tryz.prog (aPN G CW kn ke kr) a w:=by
 unfold acX at h
 have:=dN (P:=Tryz.prog) (E:=EW) (C:=CW) (inv:=λ _ _=>none) (fuel:=6) bD aPO aXj (G:=G) hg (r:=none) (n:=k) (ds:=[]) cd hs st kn ke kr h a w S m hR hz
 rw [bR] at this
 exact Go.wpIn_mono this λ e a' w' ⟨a0,e1,he⟩=>by rw [e1,bR]; exact he
noncomputable def aJt:Code:=.seq aQM (.block 1 (.seq aQL (.seq aQJ (.seq aJs aLw))))
theorem aVB:aMC.ntmps=59:=by kernel_rfl
theorem aQF:aMC.results=#[]:=by kernel_rfl
section
variable {n a b c:Int} {ds fs:LL}
theorem IN3 {gx gr gn:Nat} {j:Int} (h1:m 39=some (.pointer (some ⟨gx,0,none⟩))) (h2:m 1039=some (.pointer (some ⟨gr,0,none⟩))) (h3:m 31=some (.pointer (some ⟨gn,0,none⟩))) (g:Nat):IN m (svH n a b c j ds fs) g↔g=gx∨g=gr∨g=gn:=by
 constructor
 ·rintro ⟨k,bl,u,e1,e2,e3⟩
  simp only [svH,bX] at e1
  split at e1
  ·rename_i q; subst q; rw [h1] at e2; injection e2 with e2; subst e2; simp only [bk,aJ] at e3; exact .inl e3.symm
  ·split at e1
   ·rename_i q; subst q; rw [h2] at e2; injection e2 with e2; subst e2; simp only [bk,aJ] at e3; exact .inr (.inl e3.symm)
   ·split at e1
    ·rename_i q; subst q; rw [h3] at e2; injection e2 with e2; subst e2; simp only [bk,aJ] at e3; exact .inr (.inr e3.symm)
    ·simp [lk] at e1
 ·rintro (rfl | rfl | rfl)
  ·exact ⟨39,_,_,rfl,h1,rfl⟩
  ·exact ⟨1039,_,_,rfl,h2,rfl⟩
  ·exact ⟨31,_,_,rfl,h3,rfl⟩
theorem aKF {g:Nat} {u:Value} (h:rQ (.pointer (some ⟨g,0,none⟩)) u):u=.pointer (some ⟨g,0,none⟩):=by
 rcases h with rfl | ⟨A,n',c,A',n'',c',_,⟨e,_⟩ | ⟨e,_⟩⟩
 ·rfl
 ·cases e
 ·cases e
def SvI (n a b c:Int) (ds fs:LL) (gx gr gn:Nat) (J:Nat->Pin->World->Prop) (S0:Pin) (kk:Nat) (j:Int) (T:List (Nat × AV)) (ac:Act) (w:World):Prop :=
 ∃ S m,m 39=some (.pointer (some ⟨gx,0,none⟩))∧m 1039=some (.pointer (some ⟨gr,0,none⟩))∧m 31=some (.pointer (some ⟨gn,0,none⟩))∧Rel (mkG w S m (svH n a b c j ds fs) kpS) kpS ⟨T,svH n a b c j ds fs⟩ ac w S m∧ac.tmps.size=CW.nt∧J kk S w∧Ext S0 S∧GOKg glb S
variable {gx gr gn:Nat} {J:Nat->Pin->World->Prop} {S0:Pin}
theorem xI {I:Nat->Prop} (hI:∀ g,I g↔g=gx∨g=gr∨g=gn) (hJ:JOKI I J) {kk:Nat} {j j':Int} {T T':List (Nat × AV)} {ac a2:Act} {w w2:World} {S S2:Pin} {m m2:Nm} {st2:St}
  (e1:m 39=some (.pointer (some ⟨gx,0,none⟩))) (e2:m 1039=some (.pointer (some ⟨gr,0,none⟩))) (e3:m 31=some (.pointer (some ⟨gn,0,none⟩))) (hR:Rel (mkG w S m (svH n a b c j ds fs) kpS) kpS ⟨T,svH n a b c j ds fs⟩ ac w S m) (hj:J kk S w) (hx:Ext S0 S) (hg:GOKg glb S)
  (hR2:Rel (mkG w S m (svH n a b c j ds fs) kpS) kpS st2 a2 w2 S2 m2) (hn:a2.tmps.size=CW.nt) (hle:leS st2 ⟨T',svH n a b c j' ds fs⟩):SvI n a b c ds fs gx gr gn J S0 kk j' T' a2 w2:=by
 have R2:=hR2.le hle
 have nm:∀ k g,inL k kpS=true->m k=some (.pointer (some ⟨g,0,none⟩))->m2 k=some (.pointer (some ⟨g,0,none⟩)):=λ k g hk e=>by
  obtain ⟨u,q1,q2⟩:=R2.m0 k _ (by simp only [mkG]; rw [if_pos hk]; exact e)
  rw [q1,aKF q2]
 have f1:=nm 39 gx rfl e1
 have f2:=nm 1039 gr rfl e2
 have f3:=nm 31 gn rfl e3
 have none_:∀ (S:Pin) (m:Nm) (w:World) (j:Int) (T:List (Nat × AV)) (G:Gh) (ac:Act),Rel G kpS ⟨T,svH n a b c j ds fs⟩ ac w S m->m 39=some (.pointer (some ⟨gx,0,none⟩))->m 1039=some (.pointer (some ⟨gr,0,none⟩))->m 31=some (.pointer (some ⟨gn,0,none⟩))->∀ g o,I g->S g o=none:=λ S m w j T G ac h k1 k2 k3 g o hi=>by
  rcases (hI g).1 hi with rfl | rfl | rfl
  ·obtain ⟨g',arr,t,q1,_,_,q4⟩:=h.held 39 _ rfl
   rw [k1] at q1; injection q1 with q1; injection q1 with q1; injection q1 with q1; injection q1 with q1 _ _; subst q1; exact q4 o
  ·obtain ⟨g',arr,t,q1,_,_,q4⟩:=h.held 1039 _ rfl
   rw [k2] at q1; injection q1 with q1; injection q1 with q1; injection q1 with q1; injection q1 with q1 _ _; subst q1; exact q4 o
  ·obtain ⟨g',arr,t,q1,_,_,q4⟩:=h.held 31 _ rfl
   rw [k3] at q1; injection q1 with q1; injection q1 with q1; injection q1 with q1; injection q1 with q1 _ _; subst q1; exact q4 o
 have hc:Chg I S w S2 w2:=hR.chg R2 (λ k blk u b q1 q2 q3=>(hI b).2 ((IN3 e1 e2 e3 b).1 ⟨k,blk,u,q1,q2,q3⟩)) (λ b o hi=>⟨none_ S m w j T _ ac hR e1 e2 e3 b o hi,none_ S2 m2 w2 j' T' _ a2 R2 f1 f2 f3 b o hi⟩)
 exact ⟨S2,m2,f1,f2,f3,R2.begin_,hn,hJ.ch _ _ _ _ _ hj hc,hx.trans R2.pin0,λ g cs e=>CC.mono R2.pin0 cs g 0 (hg g cs e)⟩
variable {I:Nat->Prop} (hI:∀ g,I g↔g=gx∨g=gr∨g=gn) (hJ:JOKI I J) {k:Nat}
include hI hJ
theorem aMB {kk:Nat} {j j':Int} {T T':List (Nat × AV)} {ac:Act} {cd:Code} (hs:bT cd=true)
  (h:acX Tryz.prog EW CW (λ _ _=>none) 6 cd ⟨T,svH n a b c j ds fs⟩ (λ st=>leS st ⟨T',svH n a b c j' ds fs⟩) (λ _ _=>False) (λ _=>False)) (hv:SvI n a b c ds fs gx gr gn J S0 kk j T ac w) {Q:Exit->Act->World->Prop}
  (hn:∀ a2 w2,SvI n a b c ds fs gx gr gn J S0 kk j' T' a2 w2->Q .normal a2 w2):cd.wpIn Fence.wide k Tryz.prog Q ac w:=by
 obtain ⟨S,m,e1,e2,e3,hR,hz,hj,hx,hg⟩:=hv
 refine Go.wpIn_mono (aUG hs h (G:=mkG w S m (svH n a b c j ds fs) kpS) hg hR hz) ?_
 intro e a' w' he
 cases e with
 | normal=>obtain ⟨st',S',m',hk,hR',hn'⟩:=he; exact hn _ _ (xI hI hJ e1 e2 e3 hR hj hx hg hR' hn' hk)
 | exit _=>obtain ⟨_,_,_,hk,_⟩:=he; exact hk.elim
 | ret=>obtain ⟨_,_,_,hk,_⟩:=he; exact hk.elim
 | _=>exact he.elim
theorem aLv {kk:Nat} {j:Int} {l:Nat} {ac:Act} (hP:RestP n a b c ds fs) (hjj:0≤j∧j < 5) (hv:SvI n a b c ds fs gx gr gn J S0 kk j (svT l) ac w) {Z:Code} {Q:Exit->Act->World->Prop}
  (hn:∀ a2 w2,SvI n a b c ds fs gx gr gn J S0 kk (j+1) (svT l) a2 w2->Z.wpIn Fence.wide k Tryz.prog Q a2 w2):(Code.seq aQL (.seq aQJ Z)).wpIn Fence.wide k Tryz.prog Q ac w:=by
 obtain ⟨S,m,e1,e2,e3,hR,hz,hj,hx,hg⟩:=hv
 have h:=wv2 l n a b c j ds fs ⟨hP,hjj⟩
 have hs:=aQE.2.1
 refine wpIn_seq (Go.wpIn_mono (aUG hs.1 h (G:=mkG w S m (svH n a b c j ds fs) kpS) hg hR hz) ?_)
 intro e a' w' he
 cases e with
 | normal =>
  obtain ⟨st',S',m',hk,hR',hn'⟩:=he
  refine wpIn_seq (Go.wpIn_mono (aUG hs.2 hk (G:=mkG w S m (svH n a b c j ds fs) kpS) hg hR' hn') ?_)
  intro e a' w' he
  cases e with
  | normal=>obtain ⟨st',S',m',hk,hR',hn'⟩:=he; exact hn _ _ (xI hI hJ e1 e2 e3 hR hj hx hg hR' hn' hk)
  | exit _=>obtain ⟨_,_,_,hk,_⟩:=he; exact hk.elim
  | ret=>obtain ⟨_,_,_,hk,_⟩:=he; exact hk.elim
  | _=>exact he.elim
 | exit _=>obtain ⟨_,_,_,hk,_⟩:=he; exact hk.elim
 | ret=>obtain ⟨_,_,_,hk,_⟩:=he; exact hk.elim
 | _=>exact he.elim
set_option maxHeartbeats 1000000 in
theorem aJq {kk l:Nat} {j:Int} {ac:Act} (hP:RestP n a b c ds fs) (hjj:j=2∨j=4∨j=5)
  (hY:∀ S W v,J kk S W->CV S (.agg (svR n ds fs j)) dG v->YieldAt Fence.wide (k - 1) Tryz.prog l #[v] W λ e W'=>e=.returned (.bool true)∧(∀ g,I g->W'.heap[g]?=W.heap[g]?)∧∃ S',Ext S S'∧J (kk+1) S' W')
  (hv:SvI n a b c ds fs gx gr gn J S0 kk j (svT l) ac w) {Q:Exit->Act->World->Prop}
  (hn:∀ a2 w2,SvI n a b c ds fs gx gr gn J S0 (kk+1) j ((58,.bool false)::svT l) a2 w2->Q .normal a2 w2):aJs.wpIn Fence.wide k Tryz.prog Q ac w:=by
 obtain ⟨S,m,e1,e2,e3,hR,hz,hj,hx,hg⟩:=hv
 have h:=wv4 l n a b c j ds fs ⟨hP,hjj⟩
 unfold adX at h
 rw [aQI]
 let T5:List (Nat × AV):=(52,.bool true)::(53,.fn (fnB+l) [])::(55,.agg (svR n ds fs j))::svT l
 let Qp:Exit->Act->World->Prop:=λ e a2 w2=>e=.normal∧SvI n a b c ds fs gx gr gn J S0 kk j T5 a2 w2
 let Qe:Exit->Act->World->Prop:=λ e a2 w2=>e=.normal∧SvI n a b c ds fs gx gr gn J S0 (kk+1) j ((58,.bool false)::svT l) a2 w2
 have hQp:oF Qp:=⟨λ a w h=>(by cases h.1),λ ch a w h=>(by cases h.1)⟩
 have hQe:oF Qe:=⟨λ a w h=>(by cases h.1),λ ch a w h=>(by cases h.1)⟩
 have key:=aJC (r:=none) (n:=k) (P:=Tryz.prog) (ops:=zZ) (K:=21) (id:=4) (Q:=QX [] Qe) aXj aQH (Qp:=Qp) hQp (a:=ac) (w:=w)
  (kX (P:=Tryz.prog) (E:=EW) (C:=CW) bD aPO (show GOK EW (mkG w S m (svH n a b c j ds fs) kpS).S0 from hg) h hR hz λ st' a' w' S' m' hk hR' hn'=>⟨rfl,xI hI hJ e1 e2 e3 hR hj hx hg hR' hn' hk⟩) ?_
 ·refine Go.wpIn_mono key ?_
  rintro e a' w' ⟨a0,rfl,he,hv⟩
  subst he
  rw [bR]
  exact hn _ _ hv
 ·rintro a2 w2 ⟨_,S,m,e1,e2,e3,hR,hz,hj,hx,hg⟩
  obtain ⟨o,ho,hop,hdst,hgd⟩:=aXF
  rw [ho]
  have t52:=hR.tmps 52
  have t53:=hR.tmps 53
  have t55:=hR.tmps 55
  simp only [T5,St.get,bX] at t52 t53 t55
  simp only [if_true,if_pos,reduceIte,Nat.reduceEqDiff,CV,CVl] at t52 t53
  obtain ⟨us,t53,hus⟩:=t53
  have hus:us=#[]:=by simpa using hus
  subst hus
  rw [aSX] at t53
  have hwant:Region.wanted o (yielded zZ a2.tmps)=true:=by
   unfold Region.wanted
   rw [hgd]
   show (yielded zZ a2.tmps 17 == some true)=true
   unfold yielded
   rw [aVD]
   have hsz:52 < a2.tmps.size:=by rw [hz]; decide
   have:a2.tmps[52]?=some (.bool true):=by
    rw [Array.getElem?_eq_getElem hsz]
    simp only [Array.getD_eq_getD_getElem?,Array.getElem?_eq_getElem hsz,Option.getD_some] at t52
    rw [t52]
   simp [this]
  unfold wpListIn
  rw [if_pos hwant]
  obtain ⟨v5,f55⟩:∃ v5,a2.eval (.tmp 55)=v5:=⟨_,rfl⟩
  have f5:a2.tmps.getD 55 undef=v5:=f55
  have hcv:CV S (.agg (svR n ds fs j)) dG v5:=by
   rw [← f5]
   refine CV.mono (Ext.refl S) _ m dG _ (λ q u hk _=>?_) (by simpa using t55)
   exfalso
   simp [nn,nnl,svR] at hk
  obtain ⟨fn,tmps,assign,body,hrun,hRd⟩:=hY S w2 _ hj hcv
  have hsem:(o.semAt (Fr none).round a2.eval).run Tryz.prog w2=.ok (.round l fn tmps assign body) w2:=by
   show (execOp a2.eval o).run Tryz.prog w2=_
   have f53:a2.eval (.tmp 53)=.func (.yield l) #[] #[]:=t53
   simp [execOp,hop,resolve,f53,f55,Deferred.ofValue,invoke,hrun]
  unfold Oper.wpIn
  refine ⟨λ _ _=>trivial,?_⟩
  rw [hsem]
  refine ⟨λ q=>(by cases q),hRd.mono ?_⟩
  rintro e w3 ⟨rfl,hsame,S3,hS3,hJ3⟩
  show wpListIn (Fr none) k Tryz.prog zZ (QX [] Qe) (zZ.toList.drop 22) (a2.put o.dst (.bool true)) w3
  rw [hdst]
  have R3:=hR.after (kp1:=kpS) hS3 (hJ.ag _ _ _ hJ3) (λ q blk u g q1 q2 q3=>by
   have hi:=(hI g).2 ((IN3 e1 e2 e3 g).1 ⟨q,blk,u,q1,q2,q3⟩)
   exact ⟨hsame g hi,λ o=>by rw [hJ.pin _ _ _ hJ3 g o hi,hJ.pin _ _ _ hj g o hi]⟩)
  have R4:=R3.put (r:=.bool true) (v:=.bool true) (by simp only [CV]) (d:=56) (by rw [hz]; decide)
  have h6:=wv6 l n a b c j ds fs
  unfold aXw at h6
  have hg3:GOKg glb S3:=λ g cs e=>CC.mono hS3 cs g 0 (hg g cs e)
  have hl:=eY (P:=Tryz.prog) (E:=EW) (C:=CW) bD aPO (Q:=Qe) (ops:=zZ) (show GOK EW (mkG w3 S3 m (svH n a b c j ds fs) kpS).S0 from hg3) _ _ _ h6 _ w3 S3 m R4 (by rw [eE,hz]) (λ st' a' w' S' m' hk hR' hn'=>⟨rfl,xI hI hJ e1 e2 e3 R3 hJ3 (hx.trans hS3) hg3 hR' hn' hk⟩)
  have:=aCM (r:=none) (n:=k) (ds:=[]) hQe _ aVC _ _ hl
  rwa [bR] at this
omit hI hJ in
theorem aU9 (v0 v1 v2:Value) (N:Nat):(#[v0]++#[v1,v2]++Array.replicate (N - (#[v0]++#[v1,v2]).size) undef).size=3+(N - 3)∧(#[v0]++#[v1,v2]++Array.replicate (N - (#[v0]++#[v1,v2]).size) undef).getD 0 undef=v0∧(#[v0]++#[v1,v2]++Array.replicate (N - (#[v0]++#[v1,v2]).size) undef).getD 1 undef=v1∧(#[v0]++#[v1,v2]++Array.replicate (N - (#[v0]++#[v1,v2]).size) undef).getD 2 undef=v2:=by
 refine ⟨by simp,?_,?_,?_⟩ <;> simp [Array.getD_eq_getD_getElem?,Array.getElem?_append]
omit hI hJ in
theorem aJr {l:Nat} {W:World} (hm1:m 39=some (.pointer (some ⟨gx,0,none⟩))) (hm2:m 1039=some (.pointer (some ⟨gr,0,none⟩))) (hm3:m 31=some (.pointer (some ⟨gn,0,none⟩))) (hinj:aXc m (svH n a b c 0 ds fs)) (hX:zY m (svH n a b c 0 ds fs) S0 W) (hg:GOKg glb S0) (h0:J 0 S0 W) (hA:eB S0 W)
    {tm:Array Value} (hz:tm.size=CW.nt) (t0:tm.getD 0 undef=.func (.yield l) #[] #[]) (t1:tm.getD 1 undef=.pointer (some ⟨gx,0,none⟩)) (t2:tm.getD 2 undef=.pointer (some ⟨gr,0,none⟩)):SvI n a b c ds fs gx gr gn J S0 0 0 (svT l) { tmps:=tm,defers:=[] } W:=by
  have hN:fnV (fnB+l)=.yield l:=aSX l
  have e0:St.get ⟨svT l,svH n a b c 0 ds fs⟩ 0=.fn (fnB+l) []:=rfl
  have e1:St.get ⟨svT l,svH n a b c 0 ds fs⟩ 1=.ptr 39 0:=rfl
  have e2:St.get ⟨svT l,svH n a b c 0 ds fs⟩ 2=.ptr 1039 0:=rfl
  have e3:∀ t,t≠0->t≠1->t≠2->lk (svT l) t=none:=λ t h0 h1 h2=>by
    unfold svT
    rw [bX,if_neg h0,bX,if_neg h1,bX,if_neg h2]; rfl
  have ht:∀ t,CV S0 (St.get ⟨svT l,svH n a b c 0 ds fs⟩ t) m (tm.getD t undef):=λ t=>by
    by_cases q0:t=0
    · subst q0
      rw [e0,t0]
      simp only [CV,CVl]
      rw [hN]
      exact ⟨#[],rfl,rfl⟩
    · by_cases q1:t=1
      · subst q1
        rw [e1,t1]
        simp only [CV]
        exact ⟨gx,hm1,rfl⟩
      · by_cases q2:t=2
        · subst q2
          rw [e2,t2]
          simp only [CV]
          exact ⟨gr,hm2,rfl⟩
        · unfold St.get
          simp only [e3 t q0 q1 q2]
          simp only [CV]
  refine ⟨S0,m,hm1,hm2,hm3,?_,hz,h0,Ext.refl _,hg⟩
  exact
    { defers:=rfl
      pin0:=Ext.refl _
      pinNew:=λ _ _ _ _=>rfl
      agree:=hA
      tmps:=ht
      held:=λ k b hk=>hX k b hk
      inj:=λ k k' b b' u u' g q1 q2 q3 q4 q5 q6=>hinj k k' b b' u u' g q1 q2 q3 q4 q5 q6
      own:=λ k b u g hk hu hg=>.inr ⟨k,b,u,hk,hu,hg⟩
      os:=rfl
      tape:=rfl
      output:=rfl
      size:=Nat.le_refl _
      frame:=λ _ _ _=>rfl
      m0:=λ k u e=>by
        simp only [mkG] at e
        split at e
        · exact ⟨u,e,.refl u⟩
        · cases e
      keep:=λ k u e=>by
        simp only [mkG] at e
        split at e
        · rename_i q; exact aCV q
        · cases e }
omit hI hJ in
theorem aTC {kk l:Nat} {jj:Int} {ac:Act} (hv:SvI n a b c ds fs gx gr gn J S0 kk jj ((58,.bool false)::svT l) ac w):ac.eval (.tmp 58)=.bool false∧SvI n a b c ds fs gx gr gn J S0 kk jj (svT l) ac w:=by
 obtain ⟨S,m',e1,e2,e3,hR,hz,hj,hx,hg⟩:=hv
 have t58:=hR.tmps 58
 simp only [St.get,bX,if_true] at t58
 simp only [CV] at t58
 refine ⟨t58,S,m',e1,e2,e3,{ hR with defers:=hR.defers,held:=hR.held,inj:=hR.inj,own:=hR.own,tmps:=λ t=>?_ },hz,hj,hx,hg⟩
 have:=hR.tmps t
 simp only [St.get,bX] at this ⊢
 by_cases q:t=58
 ·subst q
  simp only [svT,bX]
  simp [lk,CV]
 ·rw [if_neg q] at this; exact this
theorem aMA {Q0:Exit->Act->World->Prop} {kk l d:Nat} {j j1:Int} {ac:Act} (hP:RestP n a b c ds fs) (hj1:j1=j+1) (hb:0≤j∧j < 5) (h4:j1=2∨j1=4∨j1=5)
  (hY:∀ S W v,J kk S W->CV S (.agg (svR n ds fs j1)) dG v->YieldAt Fence.wide (k - 1) Tryz.prog l #[v] W λ e W'=>e=.returned (.bool true)∧(∀ g,I g->W'.heap[g]?=W.heap[g]?)∧∃ S',Ext S S'∧J (kk+1) S' W')
  (hv:SvI n a b c ds fs gx gr gn J S0 kk j (svT l) ac w) (hn:∀ ac w,SvI n a b c ds fs gx gr gn J S0 (kk+1) j1 (svT l) ac w->Code.roundsIn Fence.wide k Tryz.prog aJt Q0 d ac w):Code.roundsIn Fence.wide k Tryz.prog aJt Q0 (d+1) ac w:=by
 subst hj1
 rw [roundsIn_succ]
 unfold aJt at hn ⊢
 refine wpIn_seq (aMB hI hJ aQE.1 (wv1 l n a b c j ds fs hb) hv λ a2 w2 hv=>?_)
 refine wpIn_block (aLv hI hJ hP hb hv λ a3 w3 hv=>?_)
 refine wpIn_seq (aJq hI hJ hP h4 hY hv λ a4 w4 hv=>?_)
 obtain ⟨t58,hv⟩:=aTC hv
 show aLw.wpIn _ _ _ _ _ _
 rw [aQK]
 exact wpIn_cond_false t58 (wpIn_skip (hn a4 w4 hv))
theorem aQG {Q0:Exit->Act->World->Prop} {kk l d:Nat} {j j1:Int} {ac:Act} (hP:RestP n a b c ds fs) (hj1:j1=j+1) (hb:0≤j∧j < 5)
  (h4:acX Tryz.prog EW CW (λ _ _=>none) 6 (.seq aJs aLw) ⟨svT l,svH n a b c j1 ds fs⟩ (λ st=>leS st ⟨svT l,svH n a b c j1 ds fs⟩) (λ _ _=>False) (λ _=>False))
  (hv:SvI n a b c ds fs gx gr gn J S0 kk j (svT l) ac w) (hn:∀ ac w,SvI n a b c ds fs gx gr gn J S0 kk j1 (svT l) ac w->Code.roundsIn Fence.wide k Tryz.prog aJt Q0 d ac w):Code.roundsIn Fence.wide k Tryz.prog aJt Q0 (d+1) ac w:=by
 subst hj1
 rw [roundsIn_succ]
 unfold aJt at hn ⊢
 refine wpIn_seq (aMB hI hJ aQE.1 (wv1 l n a b c j ds fs hb) hv λ a2 w2 hv=>?_)
 refine wpIn_block (aLv hI hJ hP hb hv λ a3 w3 hv=>?_)
 exact aMB hI hJ aQE.2.2 h4 hv λ a4 w4 hv=>hn a4 w4 hv
theorem aVA {R:Ending->World->Prop} {kk l d:Nat} {ac:Act} (hv:SvI n a b c ds fs gx gr gn J S0 kk 5 (svT l) ac w)
  (hn:∀ ac w,SvI n a b c ds fs gx gr gn J S0 kk 5 (svT l) ac w->R (.returned (.tuple #[])) w):Code.roundsIn Fence.wide k Tryz.prog aJt (Exit.inBlock 0 (bodyPost Tryz.prog aMC R)) (d+1) ac w:=by
 rw [roundsIn_succ]
 obtain ⟨S,m',e1,e2,e3,hR,hz,hj,hx,hg⟩:=hv
 have h:=wv5 l n a b c ds fs
 unfold aJt
 refine wpIn_seq (Go.wpIn_mono (aUG aQE.1 h (G:=mkG w S m' (svH n a b c 5 ds fs) kpS) hg hR hz) ?_)
 intro e a' w' he
 cases e with
 | normal=>obtain ⟨_,_,_,hk,_⟩:=he; exact hk.elim
 | exit i =>
  obtain ⟨st',S',m2,⟨rfl,hk⟩,hR',hn'⟩:=he
  have hv:=xI hI hJ e1 e2 e3 hR hj hx hg hR' hn' hk
  have hd:a'.defers=[]:=hR'.defers
  have hr:(results aMC a'.tmps).run Tryz.prog w'=.ok (.tuple #[]) w':=by
   unfold results
   rw [aQF]
   simp [go_sem]
  simp only [Exit.then,Exit.inBlock,reduceIte]
  exact ⟨hd,_,hr,hn a' w' hv⟩
 | ret=>obtain ⟨_,_,_,hk,_⟩:=he; exact hk.elim
 | _=>exact he.elim
end
set_option maxHeartbeats 1000000 in
theorem itw {n a b c:Int} {ds fs:LL} (hP:RestP n a b c ds fs):ItW 190 39 1039 (svH n a b c 0 ds fs) 31 (aUM a b c) 3 (svX n ds fs):=by
 refine ⟨rfl,enters_of Tryz.func190 (by kernel_rfl) rfl,λ m g1 g2 hm1 hm2 hinj=>?_⟩
 intro k l J hJ hY S0 W hg hX h0
 have hX31:=hX 31 _ rfl
 obtain ⟨gn,arr,t,hm3,_,_,_⟩:=hX31
 have hI:=IN3 (n:=n) (a:=a) (b:=b) (c:=c) (ds:=ds) (fs:=fs) (j:=0) hm1 hm2 hm3
 refine callsIn_of_wp Tryz.func190 svE trivial ?_ rfl
 refine wpIn_block (wpIn_loop_rounds 6 ?_)
 show Code.roundsIn Fence.wide k Tryz.prog aJt _ (5+1) _ W
 obtain ⟨tm,htm⟩:∃ tm,tm=#[Value.func (.yield l) #[] #[]]++#[Value.pointer (some ⟨g1,0,none⟩),Value.pointer (some ⟨g2,0,none⟩)]++Array.replicate (aMC.ntmps - (#[Value.func (.yield l) #[] #[]]++#[Value.pointer (some ⟨g1,0,none⟩),Value.pointer (some ⟨g2,0,none⟩)]).size) undef:=⟨_,rfl⟩
 have start:SvI n a b c ds fs g1 g2 gn J S0 0 0 (svT l) { tmps:=tm,defers:=[] } W:=by
  refine aJr hm1 hm2 hm3 hinj hX hg h0 (hJ.ag _ _ _ h0) ?_ ?_ ?_ ?_
  ·rw [htm,aVB]; exact (aU9 _ _ _ _).1
  ·rw [htm]; exact (aU9 _ _ _ _).2.1
  ·rw [htm]; exact (aU9 _ _ _ _).2.2.1
  ·rw [htm]; exact (aU9 _ _ _ _).2.2.2
 subst htm
 refine aQG hI hJ hP (j:=0) (j1:=1) (kk:=0) (l:=l) (S0:=S0) rfl (by decide) (aXE l n a b c ds fs) start λ ac w hv=>?_
 refine aMA hI hJ hP (j:=1) (j1:=2) (kk:=0) (d:=4) rfl (by decide) (.inl rfl) (λ S W v q1 q2=>hY 0 S W v q1 (by decide) q2) hv λ ac w hv=>?_
 refine aQG hI hJ hP (j:=2) (j1:=3) (kk:=1) (d:=3) rfl (by decide) (aXD l n a b c ds fs) hv λ ac w hv=>?_
 refine aMA hI hJ hP (j:=3) (j1:=4) (kk:=1) (d:=2) rfl (by decide) (.inr (.inl rfl)) (λ S W v q1 q2=>hY 1 S W v q1 (by decide) q2) hv λ ac w hv=>?_
 refine aMA hI hJ hP (j:=4) (j1:=5) (kk:=2) (d:=1) rfl (by decide) (.inr (.inr rfl)) (λ S W v q1 q2=>hY 2 S W v q1 (by decide) q2) hv λ ac w hv=>?_
 ·refine aVA hI hJ (d:=0) hv λ ac w ⟨S2,m3,f1,f2,f3,R2,z2,j2,x2,g2'⟩=>⟨⟨_,rfl⟩,S2,x2,j2,λ q bl hq=>?_⟩
  rw [bX] at hq
  split at hq
  ·rename_i e
   subst e
   simp only [aJ] at hq
   subst hq
   obtain ⟨g',arr,t,q1,q2,q3,q4⟩:=R2.held 31 _ rfl
   rw [f3] at q1
   injection q1 with q1; injection q1 with q1; injection q1 with q1; injection q1 with q1 _ _
   subst q1
   exact ⟨gn,arr,t,hm3,q2,uY rfl q3,q4⟩
  ·simp [lk] at hq
def aAp (n a b c:Int) (ds fs:LL):RLW:=⟨190,39,1039,3,svX n ds fs,[(10,.ptr 10 0),(13,.ptr 31 0)],[(39,.cells (svR n ds fs 0)),(1039,.cells [.ptr 31 0]),(31,.cells (aUM a b c))],31,aUM a b c,λ k=>[(10,.cells [.rw 25 4 (k+1)]),(25,.row 127 4 ((svA n ds fs).take (k+1)))],[39,1039,31,10]⟩
def aHc:Sp
 | [.agg [.int .i64 a,.int .i64 b,.int .i64 c],.sl 4 f [[.int .i64 0,.int .i64 n,.sl 1 g ds,.sl 1 h fs]],.int .i64 5,.int .i64 2]=>some (RestP n a b c ds fs,.tup [.sl 4 false (svA n ds fs),.int .i64 0])
 | _=>none
def aHd:Prop :=
 ∀ (n a b c:Int) (f g h:Bool) (ds fs:LL),RestP n a b c ds fs->(ds.length≤(1000000:Nat)∧fs.length≤(1000000:Nat))∧True∧ItW (aAp n a b c ds fs).gf (aAp n a b c ds fs).c1 (aAp n a b c ds fs).c2 (aAp n a b c ds fs).Hx (aAp n a b c ds fs).kn (aAp n a b c ds fs).cn (aAp n a b c ds fs).N (aAp n a b c ds fs).x0∧((((0:Nat)=(0:Nat)∧(0:Nat)=(0:Nat)∧True)∧(0:Nat)=(0:Nat)∧(0:Nat)=(0:Nat)∧True)∧((0:Int)=(0:Int)∧n=n∧(True∧ds=ds)∧(True∧fs=fs)∧True)∧((0:Nat)=(0:Nat)∧True)∧(a=a∧b=b∧c=c∧(5:Int)=(5:Int)∧(2:Int)=(2:Int)∧(0:Int)=(0:Int)∧True)∧([[I6 0,I6 n,AV.sl 1 false ds,AV.sl 1 false fs]].length=(1:Nat)∧True)∧[[I6 0,I6 n,AV.sl 1 false ds,AV.sl 1 false fs]]=List.take 1 (svA n ds fs)∧True)∧((∀ (k1:Nat),nn k1 (AV.ptr 10 0)=false->inL k1 (aAp n a b c ds fs).kp=true)∧(∀ (k2:Nat),nn k2 (AV.ptr 31 0)=false->inL k2 (aAp n a b c ds fs).kp=true)∧True)∧(∀ (k3:Nat),k3≤(aAp n a b c ds fs).N->lP ((aAp n a b c ds fs).H k3)=true)∧(∀ (k4:Nat),k4 < (aAp n a b c ds fs).N->bif decide (k4+(1:Nat)=(List.take (k4+(1:Nat)) (svA n ds fs)).length∧(List.take (k4+(1:Nat)) (svA n ds fs)).length+[[I6 (svS k4),I6 n,AV.sl 1 false ds,AV.sl 1 false fs]].length≤(9223372036854775807:Nat)∧((List.take (k4+(1:Nat)) (svA n ds fs)).length+[[I6 (svS k4),I6 n,AV.sl 1 false ds,AV.sl 1 false fs]].length)*(64:Nat)≤(140737488355328:Nat)) then True∧((List.take (k4+(1:Nat)) (svA n ds fs)++[[I6 (svS k4),I6 n,AV.sl 1 false ds,AV.sl 1 false fs]]).length=k4+(1:Nat)+(1:Nat)∧True)∧List.take (k4+(1:Nat)) (svA n ds fs)++[[I6 (svS k4),I6 n,AV.sl 1 false ds,AV.sl 1 false fs]]=List.take (k4+(1:Nat)+(1:Nat)) (svA n ds fs)∧True else False)∧(True∧List.take ((aAp n a b c ds fs).N+(1:Nat)) (svA n ds fs)=svA n ds fs)∧(0:Int)=(0:Int)∧True
theorem aST:aHd:=by
 unfold aHd
 delta I6
 intro n a b c f g h ds fs hP
 intros
 have hq:=itw hP
 have hld:=hP.ld
 have hlf:=hP.lf
 refine ⟨⟨hld,hlf⟩,trivial,hq,by repeat' first|exact trivial|exact rfl|assumption|apply And.intro,⟨λ k hk=>?_,λ k hk=>?_,trivial⟩,λ k _=>rfl,λ k hk=>?_,by repeat' first|exact trivial|exact rfl|assumption|apply And.intro⟩
 ·have:10=k:=aA (by simpa [nn] using hk)
  subst this; rfl
 ·have:31=k:=aA (by simpa [nn] using hk)
  subst this; rfl
 ·have hk3:k < 3:=hk
  rcases (show k=0∨k=1∨k=2 by omega) with rfl | rfl | rfl
  ·exact cd1 ⟨rfl,by simp [svA],by simp [svA]⟩ ⟨trivial,⟨rfl,trivial⟩,rfl,trivial⟩
  ·exact cd1 ⟨rfl,by simp [svA],by simp [svA]⟩ ⟨trivial,⟨rfl,trivial⟩,rfl,trivial⟩
  ·exact cd1 ⟨rfl,by simp [svA],by simp [svA]⟩ ⟨trivial,⟨rfl,trivial⟩,rfl,trivial⟩
theorem aSS:aHd=(∀ (n a b c:Int) (f g h:Bool) (ds fs:LL),RestP n a b c ds fs->fnW Tryz.prog { glob:=glb,spec:=lk [(146,aC8)],specH:=lk [(147,aHp)],nowf:=true } { nt:=55,drop:=drp [(4,1572864),(5,65011712),(6,67108864),(7,4160749568),(8,545460846592),(10,32985348833280),(11,527765581332480),(12,16888498602639360),(13,18014398509481984)] } (λ _ _=>none) 6 (λ st=>some (aAp n a b c ds fs)) Tryz.f108 [.agg [.int .i64 a,.int .i64 b,.int .i64 c],.sl 4 f [[.int .i64 0,.int .i64 n,.sl 1 g ds,.sl 1 h fs]],.int .i64 5,.int .i64 2] (.tup [.sl 4 false (svA n ds fs),.int .i64 0])):=by kernel_rfl
def aSR:=Eq.mp (aSS ..) (aST)
theorem aOx:SOK Tryz.prog glb 108 aHc:=by
 refine ⟨fok Tryz.func108 (by kernel_rfl) (by kernel_rfl),?_⟩
 intro xs pre r h hp
 unfold aHc at h
 split at h
 ·cases h
  exact aHn bD (by exact aV rfl rfl ⟨(aHE glb),trivial⟩ ⟨(aOE glb),trivial⟩) rfl Tryz.func108 rfl (aSR  _ _ _ _ _ _ _ _ _ hp)
 ·cases h
def aBv:Sp
 | [.agg [.int .i64 a,.int .i64 b,.int .i64 c],.agg [.int .i64 n,.sl 1 g ds,.sl 1 h fs],.int .i64 5,.int .i64 2]=>some (RestP n a b c ds fs,.tup [.sl 4 false (svA n ds fs),.int .i64 0])
 | _=>none
def aBw:Prop :=
 ∀ (n a b c:Int) (g h:Bool) (ds fs:LL),RestP n a b c ds fs->(IR9 a)∧(IR9 b)∧(IR9 c)∧True->(IR9 n)∧True∧True∧True->IR9 5->IR9 2->((cG a b c=(0:Int)∧VStP n ds fs)∧((0:Int)≤(5:Int)∧(5:Int)≤(400:Int))∧(1:Int)≤(2:Int)∧(2:Int)≤(400:Int))∧RestP n a b c ds fs∧(True∧svA n ds fs=svA n ds fs)∧(0:Int)=(0:Int)∧True
theorem aOK:aBw:=by
 unfold aBw
 intro n a b c g h ds fs hP
 intros
 exact ⟨⟨⟨hP.am.sc,hP.am.v⟩,by decide,by decide⟩,hP,by repeat' first|exact trivial|exact rfl|assumption|apply And.intro⟩
theorem aOJ:aBw=(∀ (n a b c:Int) (g h:Bool) (ds fs:LL),RestP n a b c ds fs->fnK Tryz.prog { glob:=glb,spec:=lk [(107,aHG),(108,aHc)],specH:=lk [],nowf:=true } { nt:=28,drop:=drp [(1,63488),(2,65536),(3,262144),(4,267911168)] } (λ _ _=>none) 6 Tryz.f55 [.agg [.int .i64 a,.int .i64 b,.int .i64 c],.agg [.int .i64 n,.sl 1 g ds,.sl 1 h fs],.int .i64 5,.int .i64 2] (.tup [.sl 4 false (svA n ds fs),.int .i64 0])):=by kernel_rfl
def aOI:=Eq.mp (aOJ ..) (aOK)
theorem aKT:SOK Tryz.prog glb 55 aBv:=by
 refine ⟨fok Tryz.func55 (by kernel_rfl) (by kernel_rfl),?_⟩
 intro xs pre r h hp
 unfold aBv at h
 split at h
 ·cases h
  exact aU bD (by exact aV rfl rfl ⟨(aOP),(aOx),trivial⟩ trivial) (by kernel_rfl) Tryz.func55 rfl (aOI  _ _ _ _ _ _ _ _ hp)
 ·cases h
theorem jP (N i:Nat) (v:Int):(List.replicate N v).getD i 0=if i < N then v else 0:=by
 rw [aB,List.getElem?_replicate]
 split <;> rfl
theorem uN (k:Nat):List.replicate k (0:Int)++[0]=List.replicate (k+1) 0:=by
 rw [List.replicate_succ']
theorem aLy {es:LL} {ds:List Int} {N:Nat} (h:∀ k,k < N->ds.getD (nI (es.getD k []) 0).toNat 0=ds.getD (nI (es.getD k []) 1).toNat 0):∀ k,k≤N->aEr es ds k=List.replicate k 0
 | 0,_=>rfl
 | k+1,hk=>by
  rw [aEr,aLy h k (by omega),h k (by omega),Int.sub_self,uN]
theorem aJg (s:Int):wan s 0=0:=by unfold wan; rw [Int.zero_ediv]
theorem aUr (a b:Int) (N:Nat):∀ k,acK a b (List.replicate N 0) (List.replicate N 0) k=List.replicate k 0
 | 0=>rfl
 | k+1=>by
  have:(List.replicate N (0:Int)).getD k 0=0:=by rw [jP]; split <;> rfl
  rw [acK,aUr a b N k,acV,this,aJg,aJg]
  exact uN k
theorem aWZ {es:LL} {ds dg:List Int} (N:Nat) (mv:Int) (k:Nat) (hd:∀ j,0≤ds.getD j 0) (hg:∀ j,0≤dg.getD j 0):amV es ds (List.replicate N 0) dg mv k=(0,0):=by
 have:(List.replicate N (0:Int)).getD k 0=0:=by rw [jP]; split <;> rfl
 have h0:0≤(ds.getD (nI (es.getD k []) 0).toNat 0).tdiv (dg.getD (nI (es.getD k []) 0).toNat 0):=Int.tdiv_nonneg (hd _) (hg _)
 have h1:0≤(ds.getD (nI (es.getD k []) 1).toNat 0).tdiv (dg.getD (nI (es.getD k []) 1).toNat 0):=Int.tdiv_nonneg (hd _) (hg _)
 unfold amV
 simp only [this,aJg]
 rw [if_neg (by omega),if_neg (by omega)]
theorem aUc {es:LL} {ds dg:List Int} (N:Nat) (mv:Int) (hd:∀ j,0≤ds.getD j 0) (hg:∀ j,0≤dg.getD j 0):∀ k,amK es ds (List.replicate N 0) dg mv k=(List.replicate k 0,List.replicate k 0)
 | 0=>rfl
 | k+1=>by
  rw [amK,aUc N mv hd hg k,aWZ N mv k hd hg]
  simp only [uN]
theorem aJF (l:List Int) (i:Nat):l.set i (l.getD i 0)=l:=by
 by_cases h:i < l.length
 ·rw [aB,aD h]
  simp
 ·rw [List.set_eq_of_length_le (by omega)]
theorem aRN (es:LL) (N:Nat) (ds:List Int):∀ k,mvK es (List.replicate N 0) ds k=ds
 | 0=>rfl
 | k+1=>by
  have:(List.replicate N (0:Int)).getD k 0=0:=by rw [jP]; split <;> rfl
  rw [mvK,aRN es N ds k,mvS]
  simp only [this,Int.sub_zero,Int.add_zero,aJF]
theorem aAM {lo hi v:Int} (h:lo≤v∧v≤hi) (N:Nat):outB lo hi (List.replicate N v)=false:=by
 unfold outB
 rw [List.any_eq_false]
 intro z hz
 rw [List.mem_replicate] at hz
 rw [hz.2]
 simp [inB,h.1,h.2]
theorem qD (N:Nat) (d:Int):aP (List.replicate N d)=List.replicate N [.int .i64 d]:=by simp [aP]
theorem aO0 (es:LL) (N:Nat):∀ k j,0≤(kF es N k).getD j 0:=λ k j=>(wQ es N k j).1
theorem aM1 {n a b c d:Int} (hg:GrdP nrm n) (hs:cG a b c=0) (hd:0≤d∧d≤16777216):RestP n a b c (List.replicate (ndN n) [.int .i64 d]) (aP (zeV n)):=by
 have hN:(ndN n:Int)=10*n*n+2:=by have:=hg.ln; unfold ndN; omega
 have hNn:ndN n=(ptG nrm n).1.length:=by have:=hg.ln; omega
 have l2:=hg.bq.l2
 have eN:=(bY hg.bq).2
 have uD:aQ (List.replicate (ndN n) [.int .i64 d])=List.replicate (ndN n) d:=by rw [← qD,aS]
 have sb:aAn n (List.replicate (ndN n) d) (zeV n)=true:=by
  unfold aAn zeV
  rw [aAM hd,aAM (by decide),decide_eq_true (by rw [List.length_replicate]; exact hN),decide_eq_true (by rw [List.length_replicate])]
  rfl
 have vs:VStP n (List.replicate (ndN n) [.int .i64 d]) (aP (zeV n)):=⟨hg,by rw [uD,qD],by rw [aS],by rw [uD,aS]; exact sb⟩
 have dn:∀ j,0≤(List.replicate (ndN n) d).getD j 0:=λ j=>by rw [jP]; split <;> omega
 have hac:acZ n a b (List.replicate (ndN n) d) (zeV n)=zeV n:=by
  unfold acZ mH zeV
  rw [aLy (N:=(aT nrm n).length) (λ k hk=>?_) _ (Nat.le_refl _)]
  ·exact aUr a b _ _
  ·have er:(aT nrm n)[k]?=some ((aT nrm n).getD k []):=by rw [aB,aD hk]; rfl
   have hin:=(bY hg.bq).1 _ (aL er)
   have a0:=hin.at_ 0 (by decide)
   have a1:=hin.at_ 1 (by decide)
   rw [jP,jP,if_pos (by omega),if_pos (by omega)]
 have ham:sAm n a b c (List.replicate (ndN n) d) (zeV n)=List.replicate (aT nrm n).length 0:=by
  unfold sAm am1 amZ
  rw [hac]
  unfold zeV
  have:=aUc (es:=aT nrm n) (aT nrm n).length c dn (dg:=bN n) (aO0 _ _ _) (aT nrm n).length
  rw [this]
 have hmv:mvZ n (sAm n a b c (List.replicate (ndN n) d) (zeV n)) (List.replicate (ndN n) d)=List.replicate (ndN n) d:=by
  rw [ham]; exact aRN _ _ _ _
 have hB:mvB n (sAm n a b c (List.replicate (ndN n) d) (zeV n)) (List.replicate (ndN n) d)=false:=by
  unfold mvB; rw [hmv]; exact aAM hd _
 refine ⟨⟨vs,hs⟩,?_,?_,?_,?_,by rw [List.length_replicate]; omega,by unfold zeV; simp only [aP,List.length_map,List.length_replicate]; omega⟩
 ·rw [uD,aS]; unfold sE mvE; rw [hB]; rfl
 ·rw [uD,aS]; unfold sN mvN; rw [hB]; rfl
 ·rw [uD,aS]; unfold sD mvD; rw [hB,hmv,qD]; rfl
 ·rw [uD,aS]; unfold sF mvF; rw [hB,hac]; rfl
def aIj:Sp
 | []=>some (True,.bool true)
 | _=>none
def aIk:Prop :=
 VStP 1 (List.replicate 12 [AV.int IntKind.i64 5000]) (aP (zeV 1))∧RestP 1 1 2 3 (List.replicate 12 [AV.int IntKind.i64 5000]) (aP (zeV 1))∧(TwoI (List.replicate 12 [AV.int IntKind.i64 5000]) (List.replicate 12 [AV.int IntKind.i64 5000])∧TwoI (aP (zeV 1)) (aP (zeV 1)))∧bif aJw 1 1 (aQ (List.replicate 12 [AV.int IntKind.i64 5000])) (aQ (aP (zeV 1))) (aQ (List.replicate 12 [AV.int IntKind.i64 5000])) (aQ (aP (zeV 1))) then MssP (List.replicate 12 [AV.int IntKind.i64 5000])∧decide ((60000:Int)=(60000:Int))=true else false=true
theorem aT7:aIk:=by
 unfold aIk
 have hr:RestP 1 1 2 3 (List.replicate 12 [.int .i64 5000]) (aP (zeV 1)):=aM1 (n:=1) (d:=5000) aU0 (by decide) (by decide)
 have hu:aQ (List.replicate 12 [AV.int .i64 5000])=List.replicate 12 5000:=rfl
 have hz:aJw 1 1 (aQ (List.replicate 12 [.int .i64 5000])) (aQ (aP (zeV 1))) (aQ (List.replicate 12 [.int .i64 5000])) (aQ (aP (zeV 1)))=true:=by simp [aJw]
 refine ⟨hr.am.v,hr,⟨⟨rfl,rfl,by decide,by decide⟩,⟨by rw [aS],by rw [aS],hr.lf,hr.lf⟩⟩,?_⟩
 rw [hz]
 exact ⟨⟨rfl,by decide,by rw [hu]; decide⟩,rfl⟩
theorem aT6:aIk=(fnK Tryz.prog { glob:=glb,spec:=lk [(54,aGe),(55,aBv),(56,aBk),(57,aBt)],specH:=lk [],nowf:=true } { nt:=39,drop:=drp [(1,480),(2,32256),(3,549755781120)] } (λ _ _=>none) 6 Tryz.f21 [] (.bool true)):=by kernel_rfl
def aT5:=Eq.mp (aT6 ..) (aT7)
theorem aPp:SOK Tryz.prog glb 21 aIj:=by
 refine ⟨fok Tryz.func21 (by kernel_rfl) (by kernel_rfl),?_⟩
 intro xs pre r h hp
 unfold aIj at h
 split at h
 ·cases h
  exact aU bD (by exact aV rfl rfl ⟨(aNF),(aKT),(aKM glb),(aKS glb),trivial⟩ trivial) (by kernel_rfl) Tryz.func21 rfl (aT5  )
 ·cases h
end Go.Proofs.YtgbbmadjdaphnaaGreatDoor
namespace Go.Proofs.YtgbbmadjdaphnaaGreatDoor
open Go
structure BytL (xs:LL):Prop where
 el:∀ r ∈ xs,U8P r
theorem bytL_of {xs:LL} (h:∀ x ∈ xs,∃ z,rng .u8 z∧x=[.int .u8 z]):BytL xs:=⟨λ r hr=>by
 obtain ⟨z,hz,rfl⟩:=h r hr
 simp only [rng] at hz
 exact ⟨rfl,hz.1,hz.2⟩⟩
theorem aTY {xs:LL} (h:BytL xs):ChsP (xs.take 600) 0:=⟨λ r hr=>h.el r (List.mem_of_mem_take hr),by rw [List.length_take]; omega,Int.le_refl _,by omega⟩
theorem aQS {xs:LL} {p q r:Int} (h1:ChsP xs p) (h2:ChsP xs q) (h3:ChsP xs r):cG (1+nxV xs p 4) (1+nxV xs q 4) (1+nxV xs r 4)=0:=by
 have b1:=iW h1 (n:=4) (by decide)
 have b2:=iW h2 (n:=4) (by decide)
 have b3:=iW h3 (n:=4) (by decide)
 unfold cG
 rw [if_neg]
 intro q
 unfold outB at q
 rw [List.any_eq_true] at q
 obtain ⟨z,hz,q⟩:=q
 simp only [List.mem_cons,List.not_mem_nil,or_false] at hz
 simp only [inB,Bool.not_eq_true',decide_eq_false_iff_not] at q
 rcases hz with rfl | rfl | rfl <;> omega
theorem aFJ {lo hi:Int} {l:List Int} (h:∀ z ∈ l,lo≤z∧z≤hi):outB lo hi l=false:=by
 unfold outB
 rw [List.any_eq_false]
 intro z hz
 have:=h z hz
 simp [inB,this.1,this.2]
theorem aVF {n:Int} {xs:LL} {p:Int} (hq:FrQ n) (hc:ChsP xs p):VStP n (aP (stD xs p n)) (aP (stF xs p n)):=by
 have b1:=iW hc (n:=4) (by decide)
 have m1:0≤pkV stm (nxV xs p 4)∧pkV stm (nxV xs p 4)≤1000000:=aKb (by decide) (by decide) (by decide) (by decide) b1
 have k1:=dF hc 4
 have w1:=kH (n:=(aT nrm n).length) k1 m1.1
 refine ⟨hq.gp,by rw [aS],by rw [aS],?_⟩
 rw [aS,aS]
 unfold aAn
 rw [decide_eq_true (by unfold stD; rw [bU]; exact hq.nd),decide_eq_true (by unfold stF st1; rw [w1.1,Int.toNat_natCast]),aFJ (λ z hz=>?_),aFJ (λ z hz=>?_)]
 ·rfl
 ·have:=w1.2.1 z hz
  omega
 ·unfold stD mk at hz
  simp only [List.mem_map,List.mem_range] at hz
  obtain ⟨k,_,rfl⟩:=hz
  unfold stC
  omega
theorem aTQ {n m:Int} {xs:LL} {p:Int} (hq:FrQ n) (hc:ChsP xs p) (hm:0≤m):ChP n (m+9) (aP (vcL xs p (ndN n) m)) (aP (vcL xs (vcA xs p (ndN n) m) (aT nrm n).length m)):=by
 have w1:=kH (n:=(ndN n:Int)) hc hm
 have w2:=kH (n:=((aT nrm n).length:Int)) w1.2.2 hm
 refine ⟨hq.gp,by rw [aS],by rw [aS],?_,?_,?_,?_⟩ <;> rw [aS]
 ·rw [w1.1,Int.toNat_natCast]
 ·rw [w2.1,Int.toNat_natCast]
 ·exact w1.2.1
 ·exact w2.2.1
theorem aTZ {n a b c:Int} {ds fs:LL} (hP:AmoP n a b c ds fs) (he:sE n a b c (aQ ds) (aQ fs)=0):BrP n (sB n a b c (aQ ds) (aQ fs)):=by
 have hb:mvB n (sAm n a b c (aQ ds) (aQ fs)) (aQ ds)=false:=by
  cases h:mvB n (sAm n a b c (aQ ds) (aQ fs)) (aQ ds) with
  | false=>rfl
  | true =>
   unfold sE mvE at he
   rw [if_pos h] at he
   cases he
 have hv:=hP.v.acc (a:=a) (b:=b)
 have hk:=aIs hv (kP hP.sc).2.2 (aT nrm n).length (Nat.le_refl _)
 have hl:=(nE (aT nrm n) (aQ ds) (aQ (aP (acZ n a b (aQ ds) (aQ fs)))) (bN n) c (aT nrm n).length).2
 rw [aS] at hk hl
 have e:sB n a b c (aQ ds) (aQ fs)=aP (amZ n c (aQ ds) (acZ n a b (aQ ds) (aQ fs))).2:=by
  unfold sB
  rw [hb]; rfl
 rw [e]
 refine ⟨by rw [aS],?_,?_⟩ <;> rw [aS]
 ·exact hl
 ·exact hk.2
theorem aCH {l:List Int} {B:Int} (h:∀ j,-B≤l.getD j 0∧l.getD j 0≤B):∀ z ∈ l,-B≤z∧z≤B:=λ z hz=>by
 obtain ⟨j,hj,rfl⟩:=List.mem_iff_getElem.1 hz
 have:=h j
 rwa [aB,aD hj] at this
theorem aSb {f g:Nat->Int} {n i:Nat} {z:Int} (hz:z=g i) (h:∀ j,j≠i->f j=g j):(mk f n).set i z=mk g n:=by
 apply List.ext_getElem?
 intro j
 rw [List.getElem?_set]
 simp only [mk,List.getElem?_map,List.length_map,List.length_range]
 by_cases q:i=j
 ·subst q
  by_cases hi:i < n
  ·rw [if_pos rfl,if_pos hi,hz]; simp [hi]
  ·rw [if_pos rfl,if_neg hi,List.getElem?_eq_none (by simpa using hi)]; rfl
 ·rw [if_neg q]
  by_cases hj:j < n
  ·simp [hj,h j (λ e=>q e.symm)]
  ·rw [List.getElem?_eq_none (by simpa using hj)]; rfl
def frL:List Int:=[1,1,1,1,2]
theorem aSQ {i:Int} (h:0≤i∧i < 5):FrQ (pkV frL i):=by
 rcases (show i=0∨i=1∨i=2∨i=3∨i=4 by omega) with rfl | rfl | rfl | rfl | rfl
 ·exact aU2
 ·exact aU2
 ·exact aU2
 ·exact aU2
 ·exact aXV
def aBK:SpH
 | [.ptr 0 0],[.cells [.sl 1 g xs,.int .i64 p]]=>some (ChsP xs p,.int .i64 (pkV frL (nxV xs p 5)),[.cells [.sl 1 g xs,.int .i64 (nxA xs p 5)]])
 | _,_=>none
def aBL:Prop :=
 ∀ (gl:aX) (p:Int) (g:Bool) (xs:LL),ChsP xs p->True->True->IR9 p->ChsP xs p∧bif decide (0≤nxV xs p 5∧nxV xs p 5 < (5:Int)) then bif decide ((5:Nat)=(5:Nat)∧(nxV xs p 5).toNat < (5:Nat)) then ∃ n,List.take [AV.int IntKind.i64 n].length (List.drop 0 ([[AV.int IntKind.i64 1],[AV.int IntKind.i64 1],[AV.int IntKind.i64 1],[AV.int IntKind.i64 1],[AV.int IntKind.i64 2]].getD (nxV xs p 5).toNat []))=[AV.int IntKind.i64 n]∧n=pkV frL (nxV xs p 5)∧(((bif g then g=true else True)∧xs=xs)∧nxA xs p 5=nxA xs p 5∧True)∧True else False else False
theorem aPh:aBL:=by
 unfold aBL
 intro gl p g xs hc
 intros
 have hgg:cond g (g=true) True:=by cases g <;> trivial
 have b:=iW hc (n:=5) (by decide)
 refine ⟨hc,cd1 b (cd1 (by omega) ⟨pkV frL (nxV xs p 5),?_,rfl,⟨⟨hgg,rfl⟩,rfl,trivial⟩,trivial⟩)⟩
 generalize nxV xs p 5=i at b
 rcases (show i=0∨i=1∨i=2∨i=3∨i=4 by omega) with rfl | rfl | rfl | rfl | rfl <;> rfl
theorem aPg:aBL=(∀ (gl:aX) (p:Int) (g:Bool) (xs:LL),ChsP xs p->fnH Tryz.prog { glob:=gl,spec:=lk [],specH:=lk [(48,jE)],shape:=[7],nowf:=true } { nt:=8,drop:=drp [(1,248)],fr:=1000,kp:=[0] } (λ _ _=>none) 6 Tryz.f27 [.ptr 0 0] [.cells [.sl 1 g xs,.int .i64 p]] (.int .i64 (pkV frL (nxV xs p 5))) [.cells [.sl 1 g xs,.int .i64 (nxA xs p 5)]]):=by kernel_rfl
def aPf:=Eq.mp (aPg ..) (aPh)
theorem aK7 (gl:aX):HOK Tryz.prog gl 27 aBK:=by
 refine ⟨fok Tryz.func27 (by kernel_rfl) (by kernel_rfl),?_⟩
 intro xs bs pre r bs2 h hp
 unfold aBK at h
 split at h
 ·cases h
  exact bB bD (by exact aV rfl rfl trivial ⟨(kA gl),trivial⟩) (by kernel_rfl) Tryz.func27 (aPf gl _ _ _ hp)
 ·cases h
def shV (by_:Int) (ds hd:List Int) (j:Nat):Int:=ds.getD j 0+by_*hd.getD j 0
def shL (by_:Int) (ds hd:List Int):List Int:=mk (shV by_ ds hd) ds.length
def shP (by_:Int) (ds hd:List Int) (x:Int) (j:Nat):Int:=if (j:Int) < x then shV by_ ds hd j else ds.getD j 0
def shE (n by_:Int) (ds fs hd hf:List Int):Int:=cU n (shL by_ ds hd) (shL by_ fs hf)
def shN (n by_:Int) (ds fs hd hf:List Int):Int:=if shE n by_ ds fs hd hf=0 then n else 0
def shD (n by_:Int) (ds fs hd hf:List Int):LL:=if shE n by_ ds fs hd hf=0 then aP (shL by_ ds hd) else []
def shF (n by_:Int) (ds fs hd hf:List Int):LL:=if shE n by_ ds fs hd hf=0 then aP (shL by_ fs hf) else []
structure ShiP (n by_:Int) (ds fs hd hf:LL):Prop where
 v:VStP n ds fs
 ch:ChP n 1000 hd hf
 lo:0≤by_
 hi:by_≤100000
 le:1≤(aT nrm n).length
def sh8 (n by_:Int) (g h g' h':Bool) (ds fs hd hf:List Int):LInv:=⟨Int,λ x=>⟨[(2,.int .i64 by_),(3,.ptr 3 0),(4,.ptr 4 0),(6,.ptr 6 0),(7,.int .i64 0),(9,.ptr 9 0),(63,.sl 1 g' (aP hd)),(64,.int .i64 hd.length),(65,.int .i64 x)],[(3,.cells [.int .i64 n,.sl 1 g (aP ds),.sl 1 h (aP fs)]),(4,.cells [.sl 1 g' (aP hd),.sl 1 h' (aP hf)]),(6,.cells [.int .i64 0,.nils,.nils]),(9,.cells [.int .i64 n,.rw 57 1 ds.length,.rw 60 1 fs.length]),(57,.row 3 1 (aP (mk (shP by_ ds hd x) ds.length))),(60,.row 3 1 (aP fs))]⟩,LtP ds.length,λ x=>(ds.length - x).toNat,none⟩
def aUJ (n by_:Int) (g h g' h':Bool) (ds fs hd hf:List Int):LInv:=⟨Int,λ x=>⟨[(2,.int .i64 by_),(6,.ptr 6 0),(7,.int .i64 0),(9,.ptr 9 0),(82,.sl 1 h' (aP hf)),(83,.int .i64 hf.length),(84,.int .i64 x)],[(6,.cells [.int .i64 0,.nils,.nils]),(9,.cells [.int .i64 n,.rw 57 1 ds.length,.rw 60 1 fs.length]),(57,.row 3 1 (aP (shL by_ ds hd))),(60,.row 3 1 (aP (mk (shP by_ fs hf x) fs.length)))]⟩,LtP fs.length,λ x=>(fs.length - x).toNat,none⟩
theorem aQR (b:Int) (ds hd:List Int):mk (shP b ds hd 0) ds.length=ds:=by
 apply List.ext_getElem?
 intro j
 by_cases h:j < ds.length
 ·rw [aSd _ h,aD h]
  unfold shP
  rw [if_neg (by omega),aB,aD h]; rfl
 ·rw [List.getElem?_eq_none (by rw [bU]; omega),List.getElem?_eq_none (by omega)]
theorem aQQ (b:Int) (ds hd:List Int):mk (shP b ds hd ds.length) ds.length=shL b ds hd:=by
 unfold shL mk
 refine List.map_congr_left λ j hj=>?_
 have:=List.mem_range.1 hj
 unfold shP
 rw [if_pos (by omega)]
theorem aLz (b:Int) (ds hd:List Int) {x:Int} (h:0≤x):shP b ds hd x x.toNat=ds.getD x.toNat 0:=by unfold shP; rw [if_neg (by omega)]
theorem aE6 (b:Int) (ds hd:List Int) {x:Int} (h:0≤x) (hn:x.toNat < ds.length):setEl (aP (mk (shP b ds hd x) ds.length)) x.toNat 0 [.int .i64 (ds.getD x.toNat 0+b*hd.getD x.toNat 0)]=aP (mk (shP b ds hd (x+1)) ds.length):=by
 rw [cZ (by rw [bU]; exact hn),aSb]
 ·unfold shP shV; rw [if_pos (by omega)]
 ·intro j hj
  unfold shP
  by_cases q:(j:Int) < x
  ·rw [if_pos q,if_pos (by omega)]
  ·rw [if_neg q,if_neg (by omega)]
theorem aLR {b v B:Int} (h0:0≤b) (h1:b≤100000) (hv:-B≤v∧v≤B) (hB:0≤B):-(100000*B)≤b*v∧b*v≤100000*B:=by
 have e1:b*B≤100000*B:=Int.mul_le_mul_of_nonneg_right h1 hB
 have e2:b*v≤b*B:=Int.mul_le_mul_of_nonneg_left hv.2 h0
 have e3:b*-B≤b*v:=Int.mul_le_mul_of_nonneg_left hv.1 h0
 rw [Int.mul_neg] at e3
 omega
theorem pV {l:List Int} {B:Int} (h:∀ z ∈ l,-B≤z∧z≤B) (k:Nat) (hB:0≤B):-B≤l.getD k 0∧l.getD k 0≤B:=iA hB h k
theorem aLg {l:List Int} (h:∀ z ∈ l,0≤z∧z≤16777216) (k:Nat):0≤l.getD k 0∧l.getD k 0≤16777216:=by
 rw [aB]
 cases e:l[k]? with
 | none=>simp
 | some z=>exact h z (aL e)
theorem aLF {l:List Int} {B M:Int} (h:∀ z ∈ l,-B≤z∧z≤B) (q:B≤M):outB (-M) M l=false:=aFJ λ z hz=>by have:=h z hz; omega
def aEz:Sp
 | [.agg [.int .i64 n,.sl 1 g ds,.sl 1 h fs],.agg [.sl 1 g' hd,.sl 1 h' hf],.int .i64 by_]=>some (ShiP n by_ ds fs hd hf,.tup [.agg [.int .i64 (shN n by_ (aQ ds) (aQ fs) (aQ hd) (aQ hf)),.sl 1 false (shD n by_ (aQ ds) (aQ fs) (aQ hd) (aQ hf)),.sl 1 false (shF n by_ (aQ ds) (aQ fs) (aQ hd) (aQ hf))],.int .i64 (shE n by_ (aQ ds) (aQ fs) (aQ hd) (aQ hf))])
 | _=>none
abbrev nH (n:Int) (by_:Int) (ds:LL) (fs:LL) (hd:LL) (hf:LL):=((0:Int)=shN n by_ (aQ ds) (aQ fs) (aQ hd) (aQ hf)∧shD n by_ (aQ ds) (aQ fs) (aQ hd) (aQ hf)=[]∧shF n by_ (aQ ds) (aQ fs) (aQ hd) (aQ hf)=[]∧True)
abbrev iD (by_:Int) (fs:LL) (hf:LL) (x2:Int):=(aP (mk (shP by_ (aQ fs) (aQ hf) x2) (aQ fs).length))
abbrev pB (by_:Int) (ds:LL) (hd:LL) (x1:Int):=(aP (mk (shP by_ (aQ ds) (aQ hd) x1) (aQ ds).length))
abbrev aCa (n:Int) (ds:LL) (fs:LL):=(n=n∧(aQ ds).length=(aQ ds).length∧(aQ fs).length=(aQ fs).length∧True)
abbrev xG:=((0:Int)=(0:Int)∧True∧True∧True)
abbrev aB9 (h':Bool) (hf:LL):=((bif h' then h'=true else True)∧aP (aQ hf)=aP (aQ hf))
def aEA (nrm:NrT) (cU:Int->List Int->List Int->Int):Prop :=
 ∀ (n by_:Int) (g h g' h':Bool) (ds fs hd hf:LL),ShiP n by_ ds fs hd hf->(IR9 n)∧True∧True∧True->True∧True∧True->IR9 by_->bif decide ¬(↑hd.length:Int)=(↑ds.length:Int) then (nH n by_ ds fs hd hf)∧(1:Int)=shE n by_ (aQ ds) (aQ fs) (aQ hd) (aQ hf)∧True else bif decide ¬(↑hf.length:Int)=(↑fs.length:Int) then (nH n by_ ds fs hd hf)∧(1:Int)=shE n by_ (aQ ds) (aQ fs) (aQ hd) (aQ hf)∧True else ((hd=aP (aQ hd)∧hd.length≤(1000000:Nat))∧(-9000000000000000000:Int)≤(1048576:Int)∧(1048576:Int)≤(9000000000000000000:Int))∧bif outB (-1048576:Int) 1048576 (aQ hd) then (nH n by_ ds fs hd hf)∧(1:Int)=shE n by_ (aQ ds) (aQ fs) (aQ hd) (aQ hf)∧True else ((hf=aP (aQ hf)∧hf.length≤(1000000:Nat))∧(-9000000000000000000:Int)≤(1048576:Int)∧(1048576:Int)≤(9000000000000000000:Int))∧bif outB (-1048576:Int) 1048576 (aQ hf) then (nH n by_ ds fs hd hf)∧(1:Int)=shE n by_ (aQ ds) (aQ fs) (aQ hd) (aQ hf)∧True else True∧bif !inB (-1048576:Int) 1048576 by_ then (nH n by_ ds fs hd hf)∧(1:Int)=shE n by_ (aQ ds) (aQ fs) (aQ hd) (aQ hf)∧True else StaP n ds fs∧bif decide ¬cU n (aQ ds) (aQ fs)=(0:Int) then (nH n by_ ds fs hd hf)∧cU n (aQ ds) (aQ fs)=shE n by_ (aQ ds) (aQ fs) (aQ hd) (aQ hf)∧True else (1≤ds.length∧ds.length≤(1000000:Nat))∧(1≤fs.length∧fs.length≤(1000000:Nat))∧(∃ x,LtP (aQ ds).length x∧(by_=by_∧(0:Nat)=(0:Nat)∧(0:Nat)=(0:Nat)∧(0:Nat)=(0:Nat)∧(0:Int)=(0:Int)∧(0:Nat)=(0:Nat)∧((bif g' then g'=true else True)∧hd=aP (aQ hd))∧(↑hd.length:Int)=(↑(aQ hd).length:Int)∧(0:Int)=x∧True)∧(n=n∧((bif g then g=true else True)∧ds=aP (aQ ds))∧((bif h then h=true else True)∧fs=aP (aQ fs))∧True)∧(((bif g' then g'=true else True)∧hd=aP (aQ hd))∧((bif h' then h'=true else True)∧hf=aP (aQ hf))∧True)∧(xG)∧(n=n∧ds.length=(aQ ds).length∧fs.length=(aQ fs).length∧True)∧ds=aP (mk (shP by_ (aQ ds) (aQ hd) x) (aQ ds).length)∧fs=aP (aQ fs)∧True)∧∀ (x1:Int),LtP (aQ ds).length x1->bif decide (x1 < (↑(aQ hd).length:Int)) then bif decide (0≤x1∧x1 < (↑(aP (aQ hd)).length:Int)) then ∃ n_1,List.take [I6 n_1].length ((aP (aQ hd)).getD x1.toNat [])=[I6 n_1]∧bif decide (0≤x1∧x1 < (↑(aQ ds).length:Int)) then bif decide ((aQ ds).length=(pB by_ ds hd x1).length∧x1.toNat < (pB by_ ds hd x1).length) then ∃ n_2,List.take [I6 n_2].length (List.drop 0 ((pB by_ ds hd x1).getD x1.toNat []))=[I6 n_2]∧bif decide (rng IntKind.i64 (by_*n_1)) then bif decide (rng IntKind.i64 (n_2+by_*n_1)) then bif decide (0≤x1∧x1 < (↑(aQ ds).length:Int)) then bif decide ((aQ ds).length=(pB by_ ds hd x1).length∧x1.toNat < (pB by_ ds hd x1).length) then bif decide (rng IntKind.i64 (x1+(1:Int))) then ∃ y,LtP (aQ ds).length y∧(sh8 n by_ g h g' h' (aQ ds) (aQ fs) (aQ hd) (aQ hf)).m y < (sh8 n by_ g h g' h' (aQ ds) (aQ fs) (aQ hd) (aQ hf)).m x1∧(by_=by_∧(0:Nat)=(0:Nat)∧(0:Nat)=(0:Nat)∧(0:Nat)=(0:Nat)∧(0:Int)=(0:Int)∧(0:Nat)=(0:Nat)∧((bif g' then g'=true else True)∧aP (aQ hd)=aP (aQ hd))∧(↑(aQ hd).length:Int)=(↑(aQ hd).length:Int)∧x1+(1:Int)=y∧True)∧(n=n∧((bif g then g=true else True)∧aP (aQ ds)=aP (aQ ds))∧((bif h then h=true else True)∧aP (aQ fs)=aP (aQ fs))∧True)∧(((bif g' then g'=true else True)∧aP (aQ hd)=aP (aQ hd))∧(aB9 h' hf)∧True)∧(xG)∧(aCa n ds fs)∧setEl (pB by_ ds hd x1) x1.toNat 0 [I6 (n_2+by_*n_1)]=aP (mk (shP by_ (aQ ds) (aQ hd) y) (aQ ds).length)∧aP (aQ fs)=aP (aQ fs)∧True else False else False else False else False else False else False else False else False else (∃ x_1,LtP (aQ fs).length x_1∧(by_=by_∧(0:Nat)=(0:Nat)∧(0:Int)=(0:Int)∧(0:Nat)=(0:Nat)∧(aB9 h' hf)∧(↑(aP (aQ hf)).length:Int)=(↑(aQ hf).length:Int)∧(0:Int)=x_1∧True)∧(xG)∧(aCa n ds fs)∧aP (mk (shP by_ (aQ ds) (aQ hd) x1) (aQ ds).length)=aP (shL by_ (aQ ds) (aQ hd))∧aP (aQ fs)=aP (mk (shP by_ (aQ fs) (aQ hf) x_1) (aQ fs).length)∧True)∧∀ (x2:Int),LtP (aQ fs).length x2->bif decide (x2 < (↑(aQ hf).length:Int)) then bif decide (0≤x2∧x2 < (↑(aP (aQ hf)).length:Int)) then ∃ n_1,List.take [I6 n_1].length ((aP (aQ hf)).getD x2.toNat [])=[I6 n_1]∧bif decide (0≤x2∧x2 < (↑(aQ fs).length:Int)) then bif decide ((aQ fs).length=(iD by_ fs hf x2).length∧x2.toNat < (iD by_ fs hf x2).length) then ∃ n_2,List.take [I6 n_2].length (List.drop 0 ((iD by_ fs hf x2).getD x2.toNat []))=[I6 n_2]∧bif decide (rng IntKind.i64 (by_*n_1)) then bif decide (rng IntKind.i64 (n_2+by_*n_1)) then bif decide (0≤x2∧x2 < (↑(aQ fs).length:Int)) then bif decide ((aQ fs).length=(iD by_ fs hf x2).length∧x2.toNat < (iD by_ fs hf x2).length) then bif decide (rng IntKind.i64 (x2+(1:Int))) then ∃ y,LtP (aQ fs).length y∧(aUJ n by_ g h g' h' (aQ ds) (aQ fs) (aQ hd) (aQ hf)).m y < (aUJ n by_ g h g' h' (aQ ds) (aQ fs) (aQ hd) (aQ hf)).m x2∧(by_=by_∧(0:Nat)=(0:Nat)∧(0:Int)=(0:Int)∧(0:Nat)=(0:Nat)∧(aB9 h' hf)∧(↑(aQ hf).length:Int)=(↑(aQ hf).length:Int)∧x2+(1:Int)=y∧True)∧(xG)∧(aCa n ds fs)∧aP (shL by_ (aQ ds) (aQ hd))=aP (shL by_ (aQ ds) (aQ hd))∧setEl (iD by_ fs hf x2) x2.toNat 0 [I6 (n_2+by_*n_1)]=aP (mk (shP by_ (aQ fs) (aQ hf) y) (aQ fs).length)∧True else False else False else False else False else False else False else False else False else bif decide ((aQ ds).length=(aP (shL by_ (aQ ds) (aQ hd))).length) then bif decide ((aQ fs).length=(iD by_ fs hf x2).length) then StaP n (aP (shL by_ (aQ ds) (aQ hd))) (iD by_ fs hf x2)∧bif decide ¬cU n (aQ (aP (shL by_ (aQ ds) (aQ hd)))) (aQ (iD by_ fs hf x2))=(0:Int) then (nH n by_ ds fs hd hf)∧cU n (aQ (aP (shL by_ (aQ ds) (aQ hd)))) (aQ (iD by_ fs hf x2))=shE n by_ (aQ ds) (aQ fs) (aQ hd) (aQ hf)∧True else bif decide ((aQ ds).length=(aP (shL by_ (aQ ds) (aQ hd))).length) then bif decide ((aQ fs).length=(iD by_ fs hf x2).length) then (n=shN n by_ (aQ ds) (aQ fs) (aQ hd) (aQ hf)∧(True∧aP (shL by_ (aQ ds) (aQ hd))=shD n by_ (aQ ds) (aQ fs) (aQ hd) (aQ hf))∧(True∧aP (mk (shP by_ (aQ fs) (aQ hf) x2) (aQ fs).length)=shF n by_ (aQ ds) (aQ fs) (aQ hd) (aQ hf))∧True)∧(0:Int)=shE n by_ (aQ ds) (aQ fs) (aQ hd) (aQ hf)∧True else False else False else False else False
theorem aP9:aEA nrm cU:=by
 unfold aEA
 delta nH iD pB aCa xG aB9 I6
 intro n b g h g' h' ds fs hd hf hP
 intros
 have hv:=hP.v
 have hc:=hP.ch
 have b0:=hP.lo
 have b1:=hP.hi
 have sp:=hv.sp
 obtain ⟨ld,lf,bd,bf⟩:=hv.facts
 have ok0:cU n (aQ ds) (aQ fs)=0:=by unfold cU; rw [hv.ok]; rfl
 have de:=hv.de
 have fe:=hv.fe
 have he:=hc.de
 have hfe:=hc.fe
 have lh:=hc.ld
 have lhf:=hc.lf
 have bh:=hc.bd
 have bhf:=hc.bf
 have hN:=fF hv.gp
 have hNu:=hv.gp.bq.l2
 have hNe:=pR hv.gp
 have hE:=(bY hv.gp.bq).2
 have hbq:=hv.gp.bq
 have gg1:cond g (g=true) True:=gg g
 have gg2:cond h (h=true) True:=gg h
 have gg3:cond g' (g'=true) True:=gg g'
 have gg4:cond h' (h'=true) True:=gg h'
 have u1:=bL ds
 have u2:=bL fs
 have u3:=bL hd
 have u4:=bL hf
 generalize aQ ds=D at *
 generalize aQ fs=F at *
 generalize aQ hd=HD at *
 generalize aQ hf=HF at *
 subst de fe he hfe
 have o1:outB (-1048576) 1048576 HD=false:=aLF bh (by decide)
 have o2:outB (-1048576) 1048576 HF=false:=aLF bhf (by decide)
 have o3:inB (-1048576) 1048576 b=true:=by unfold inB; rw [decide_eq_true]; omega
 have lf1:1≤F.length:=by have:=hP.le; omega
 rw [o1,o2,o3]
 refine cd0 (by omega) (cd0 (by omega) ⟨⟨⟨rfl,by omega⟩,by decide,by decide⟩,⟨⟨rfl,by omega⟩,by decide,by decide⟩,trivial,sp,cd0 (λ q=>q ok0) ⟨by omega,by omega,⟨0,⟨Int.le_refl _,by omega⟩,by (repeat' (first | exact trivial | exact rfl | assumption | apply And.intro | omega)),by repeat' first|exact trivial|exact rfl|assumption|apply And.intro,by repeat' first|exact trivial|exact rfl|assumption|apply And.intro,by repeat' first|exact trivial|exact rfl|assumption|apply And.intro,by (repeat' (first | exact trivial | exact rfl | assumption | apply And.intro | omega)),by rw [aQR],rfl,trivial⟩,?_⟩⟩)
 rintro x ⟨x0,x1⟩
 have lm:=bU (shP b D HD x) D.length
 have lmi:=aR (mk (shP b D HD x) D.length)
 refine csp (λ q=>?_) (λ q=>?_)
 ·have hx:x.toNat < D.length:=by omega
  have e1:=pV bh (x.toNat) (by decide)
  have e2:=aLg bd x.toNat
  have e3:=aLR b0 b1 e1 (by decide)
  refine cd1 ⟨x0,by omega⟩ ⟨HD.getD x.toNat 0,by rw [cM (by omega)]; rfl,cd1 ⟨x0,by omega⟩ (cd1 ⟨by omega,by omega⟩ ⟨D.getD x.toNat 0,?_,cdI (by omega) (cdI (by omega) (cd1 ⟨x0,by omega⟩ (cd1 ⟨by omega,by omega⟩ (cdI (by omega) ⟨x+1,⟨by omega,by omega⟩,by show (_:Nat) < _; simp only [sh8]; omega,by repeat' first|exact trivial|exact rfl|assumption|apply And.intro,by repeat' first|exact trivial|exact rfl|assumption|apply And.intro,by repeat' first|exact trivial|exact rfl|assumption|apply And.intro,by repeat' first|exact trivial|exact rfl|assumption|apply And.intro,by repeat' first|exact trivial|exact rfl|assumption|apply And.intro,aE6 b D HD x0 hx,rfl,trivial⟩))))⟩)⟩
  rw [List.drop_zero,cM (by omega),dU _ hx,aLz b D HD x0]; rfl
 ·have ex:x=D.length:=by omega
  subst ex
  refine ⟨⟨0,⟨Int.le_refl _,by omega⟩,by (repeat' (first | exact trivial | exact rfl | assumption | apply And.intro | omega)),by repeat' first|exact trivial|exact rfl|assumption|apply And.intro,by repeat' first|exact trivial|exact rfl|assumption|apply And.intro,by rw [aQQ],by rw [aQR],trivial⟩,?_⟩
  clear lm lmi x0 x1 q
  rintro x ⟨x0,x1⟩
  have lm:=bU (shP b F HF x) F.length
  have lmi:=aR (mk (shP b F HF x) F.length)
  refine csp (λ q=>?_) (λ q=>?_)
  ·have hx:x.toNat < F.length:=by omega
   have e1:=pV bhf (x.toNat) (by decide)
   have e2:=pV bf x.toNat (by decide)
   have e3:=aLR b0 b1 e1 (by decide)
   refine cd1 ⟨x0,by omega⟩ ⟨HF.getD x.toNat 0,by rw [cM (by omega)]; rfl,cd1 ⟨x0,by omega⟩ (cd1 ⟨by omega,by omega⟩ ⟨F.getD x.toNat 0,?_,cdI (by omega) (cdI (by omega) (cd1 ⟨x0,by omega⟩ (cd1 ⟨by omega,by omega⟩ (cdI (by omega) ⟨x+1,⟨by omega,by omega⟩,by show (_:Nat) < _; simp only [aUJ]; omega,by repeat' first|exact trivial|exact rfl|assumption|apply And.intro,by repeat' first|exact trivial|exact rfl|assumption|apply And.intro,by repeat' first|exact trivial|exact rfl|assumption|apply And.intro,rfl,aE6 b F HF x0 hx,trivial⟩))))⟩)⟩
   rw [List.drop_zero,cM (by omega),dU _ hx,aLz b F HF x0]; rfl
  ·have ex:x=F.length:=by omega
   subst ex
   have lsh:(shL b D HD).length=D.length:=bU _ _
   have lsi:=aR (shL b D HD)
   rw [aQQ] at lm lmi ⊢
   refine cd1 (by omega) (cd1 (by omega) ⟨⟨hbq,by rw [aS],by omega,by rw [aS],by omega⟩,?_⟩)
   rw [aS,aS]
   unfold shN shD shF shE
   refine csp (λ q=>?_) (λ q=>?_)
   ·rw [if_neg q,if_neg q,if_neg q]; (repeat' (first | exact trivial | exact rfl | assumption | apply And.intro))
   ·have q:=Classical.not_not.1 q
    rw [if_pos q,if_pos q,if_pos q]
    exact cd1 (by omega) (cd1 (by omega) ⟨by repeat' first|exact trivial|exact rfl|assumption|apply And.intro,q.symm,trivial⟩)
theorem aP8 (nrm:NrT) (cU:Int->List Int->List Int->Int):aEA nrm cU=(∀ (n by_:Int) (g h g' h':Bool) (ds fs hd hf:LL),ShiP n by_ ds fs hd hf->fnK Tryz.prog { glob:=glb,spec:=lk [(68,aCc),(69,uA),(70,(nZ nrm cU))],specH:=lk [(60,aCW)],shape:=[69,74,88,93],nowf:=true } { nt:=107,drop:=drp [(1,35184372056064),(2,70368744177664),(3,422212465065984),(4,562949953421312),(5,6755399441055744),(6,4602678819172646912),(7,4611686018427387904),(9,1033017668127734890496),(10,1207745227993911763402752),(11,1208925819614629174706176),(12,2417851639229258349412352),(14,541598767187353870268366848),(15,633206330094472010610902040576),(16,633825300114114700748351602688),(17,3802951800684688204490109616128),(18,5070602400912917605986812821504),(19,60847228810955011271841753858048),(20,81129638414606681695789005144064)],frz:=λ id=>cond (Nat.beq id 17) [1000057,1000060] [] } (vS [(8,sh8 n by_ g h g' h' (aQ ds) (aQ fs) (aQ hd) (aQ hf)),(13,aUJ n by_ g h g' h' (aQ ds) (aQ fs) (aQ hd) (aQ hf))]) 6 Tryz.f29 [.agg [.int .i64 n,.sl 1 g ds,.sl 1 h fs],.agg [.sl 1 g' hd,.sl 1 h' hf],.int .i64 by_] (.tup [.agg [.int .i64 (shN n by_ (aQ ds) (aQ fs) (aQ hd) (aQ hf)),.sl 1 false (shD n by_ (aQ ds) (aQ fs) (aQ hd) (aQ hf)),.sl 1 false (shF n by_ (aQ ds) (aQ fs) (aQ hd) (aQ hf))],.int .i64 (shE n by_ (aQ ds) (aQ fs) (aQ hd) (aQ hf))])):=by kernel_rfl
def aP7:=Eq.mp (aP8 ..) (aP9)
theorem aMp:SOK Tryz.prog glb 29 aEz:=by
 refine ⟨fok Tryz.func29 (by kernel_rfl) (by kernel_rfl),?_⟩
 intro xs pre r h hp
 unfold aEz at h
 split at h
 ·cases h
  exact aU bD (by exact aV rfl rfl ⟨(aEC glb),(aB8 glb),(nB),trivial⟩ ⟨(aGX glb),trivial⟩) (by kernel_rfl) Tryz.func29 rfl (aP7  _ _ _ _ _ _ _ _ _ _ hp)
 ·cases h
theorem aJm {n a b c B:Int} {bs ds fs:LL} (hB:0≤B) (hE:(aT nrm n).length≤120) (hs:cG a b c=0) (hc:ChP n B ds fs):ChP n (241*(23040*B)) (aP (taD n a b c (aQ bs) (aQ ds) (aQ fs))) (aP (taG n a b c (aQ ds) (aQ fs))):=by
 have h1:=aG3 hB hc.bd
 have h2:=aG3 hB hc.bf
 have hb:∀ k:Nat,(2*((aT nrm n).length:Int)+1)*(23040*B)≤241*(23040*B):=λ _=>Int.mul_le_mul_of_nonneg_right (by omega) (by omega)
 refine ⟨hc.gp,by rw [aS],by rw [aS],?_,?_,?_,?_⟩ <;> rw [aS]
 ·exact pD _ _ _ _ _ _ _ _
 ·unfold taG; rw [bU]
 ·refine aCH λ j=>?_
  have:=aQB (bs:=aQ bs) hc.gp hB hs h1 h2 (aT nrm n).length j
  have:=hb 0
  unfold taD
  omega
 ·refine aCH λ j=>?_
  unfold taG
  have:=aSc (C:=23040*B) (n:=(aT nrm n).length) (by omega) (λ k _=>aMz (es:=aT nrm n) hs h1 h2 k) j
  omega
theorem aPz {n a b c B:Int} {bs ds fs:LL} (hB:0≤B) (hE:(aT nrm n).length≤120) (hs:cG a b c=0) (hc:ChP n B ds fs):ChP n (241*(38400*B)) (aP (ajD n a b c (aQ bs) (aQ ds) (aQ fs))) (aP (ajG n a b c (aQ bs) (aQ ds) (aQ fs))):=by
 have h1:=aG3 hB hc.bd
 have h2:=aG3 hB hc.bf
 have hb:(2*((aT nrm n).length:Int)+1)*(38400*B)≤241*(38400*B):=Int.mul_le_mul_of_nonneg_right (by omega) (by omega)
 refine ⟨hc.gp,by rw [aS],by rw [aS],?_,?_,?_,?_⟩ <;> rw [aS]
 ·exact nF _ _ _ _ _ _ _ _
 ·unfold ajG; rw [bU]
 ·refine aCH λ j=>?_
  have:=aPA (bs:=aQ bs) hc.gp hB hs h1 h2 (aT nrm n).length (Nat.le_refl _) j
  unfold ajD
  omega
 ·refine aCH λ j=>?_
  unfold ajG
  have:=aSc (f:=ajF (aT nrm n) (scZ a b c) a c (aQ bs) (aQ ds) (aQ fs)) (C:=23040*B) (n:=(aT nrm n).length) (by omega) (λ k _=>by
   unfold ajF
   exact aW6 hs h1 h2) j
  omega
structure TwoP (n a b c:Int) (b1 b2 ds fs:LL):Prop where
 hi:(aT nrm n).length≤120
 sc:cG a b c=0
 ch:ChP n 1000 ds fs
 h1:BrP n b1
 h2:BrP n b2
def t2D (n a b c:Int) (b1 b2 ds fs:List Int):List Int:=taD n a b c b2 (taD n a b c b1 ds fs) (taG n a b c ds fs)
def t2G (n a b c:Int) (b1 ds fs:List Int):List Int:=taG n a b c (taD n a b c b1 ds fs) (taG n a b c ds fs)
def a2D (n a b c:Int) (b1 b2 ds fs:List Int):List Int:=ajD n a b c b1 (ajD n a b c b2 ds fs) (ajG n a b c b2 ds fs)
def a2G (n a b c:Int) (b1 b2 ds fs:List Int):List Int:=ajG n a b c b1 (ajD n a b c b2 ds fs) (ajG n a b c b2 ds fs)
def aEF:SpH
 | [.sl 1 j [[.sl 1 i b1],[.sl 1 i2 b2]],.agg [.sl 1 g ds,.sl 1 h fs],.fn 62 [.ptr 0 0,.ptr 1 0]],[.cells [.int .i64 a,.int .i64 b,.int .i64 c],.cells [.int .i64 n]]=>some (TwoP n a b c b1 b2 ds fs,.tup [.agg [.sl 1 false (aP (t2D n a b c (aQ b1) (aQ b2) (aQ ds) (aQ fs))),.sl 1 false (aP (t2G n a b c (aQ b1) (aQ ds) (aQ fs)))],.int .i64 0],[.cells [.int .i64 a,.int .i64 b,.int .i64 c],.cells [.int .i64 n]])
 | _,_=>none
def aEG:Prop :=
 ∀ (n a b c:Int) (j i i2 g h:Bool) (b1 b2 ds fs:LL),TwoP n a b c b1 b2 ds fs->True->True∧True∧True->True->IR9 a->IR9 b->IR9 c->IR9 n->(cG a b c=(0:Int)∧ChP n 10000000000 ds fs∧BrP n b1)∧(cG a b c=(0:Int)∧ChP n 10000000000 (aP (taD n a b c (aQ b1) (aQ ds) (aQ fs))) (aP (taG n a b c (aQ ds) (aQ fs)))∧BrP n b2)∧(((True∧aP (taD n a b c (aQ b2) (aQ (aP (taD n a b c (aQ b1) (aQ ds) (aQ fs)))) (aQ (aP (taG n a b c (aQ ds) (aQ fs)))))=aP (t2D n a b c (aQ b1) (aQ b2) (aQ ds) (aQ fs)))∧(True∧aP (taG n a b c (aQ (aP (taD n a b c (aQ b1) (aQ ds) (aQ fs)))) (aQ (aP (taG n a b c (aQ ds) (aQ fs)))))=aP (t2G n a b c (aQ b1) (aQ ds) (aQ fs)))∧True)∧(0:Int)=(0:Int)∧True)∧(a=a∧b=b∧c=c∧True)∧(n=n∧True)∧True
theorem aQl:aEG:=by
 unfold aEG
 intro n a b c j i i2 g h b1 b2 ds fs hP
 intros
 have hc:=hP.ch
 have hc1:=aJm (bs:=b1) (by decide) hP.hi hP.sc hc
 rw [aS,aS]
 exact ⟨⟨hP.sc,hc.mono (by decide),hP.h1⟩,⟨hP.sc,hc1.mono (by decide),hP.h2⟩,by repeat' first|exact trivial|exact rfl|assumption|apply And.intro⟩
theorem aQk:aEG=(∀ (n a b c:Int) (j i i2 g h:Bool) (b1 b2 ds fs:LL),TwoP n a b c b1 b2 ds fs->fnH Tryz.prog { glob:=glb,spec:=lk [],specH:=lk [(62,aEM)],nowf:=true } { nt:=31,drop:=drp [(3,196608),(5,33292288),(6,33554432),(8,402653184),(9,536870912),(10,1073741824)],fr:=1000,kp:=[0,1] } (λ _ _=>none) 6 Tryz.f61 [.sl 1 j [[.sl 1 i b1],[.sl 1 i2 b2]],.agg [.sl 1 g ds,.sl 1 h fs],.fn 62 [.ptr 0 0,.ptr 1 0]] [.cells [.int .i64 a,.int .i64 b,.int .i64 c],.cells [.int .i64 n]] (.tup [.agg [.sl 1 false (aP (t2D n a b c (aQ b1) (aQ b2) (aQ ds) (aQ fs))),.sl 1 false (aP (t2G n a b c (aQ b1) (aQ ds) (aQ fs)))],.int .i64 0]) [.cells [.int .i64 a,.int .i64 b,.int .i64 c],.cells [.int .i64 n]]):=by kernel_rfl
def aQj:=Eq.mp (aQk ..) (aQl)
theorem aMt:HOK Tryz.prog glb 61 aEF:=by
 refine ⟨fok Tryz.func61 (by kernel_rfl) (by kernel_rfl),?_⟩
 intro xs bs pre r bs2 h hp
 unfold aEF at h
 split at h
 ·cases h
  exact bB bD (by exact aV rfl rfl trivial ⟨(aMw),trivial⟩) (by kernel_rfl) Tryz.func61 (aQj  _ _ _ _ _ _ _ _ _ _ _ _ _ hp)
 ·cases h
def aEK:Sp
 | [.agg [.int .i64 a,.int .i64 b,.int .i64 c],.int .i64 n,.sl 1 j [[.sl 1 i b1],[.sl 1 i2 b2]],.agg [.sl 1 g ds,.sl 1 h fs]]=>some (TwoP n a b c b1 b2 ds fs,.tup [.agg [.sl 1 false (aP (t2D n a b c (aQ b1) (aQ b2) (aQ ds) (aQ fs))),.sl 1 false (aP (t2G n a b c (aQ b1) (aQ ds) (aQ fs)))],.int .i64 0])
 | _=>none
def aEL:Prop :=
 ∀ (n a b c:Int) (j i i2 g h:Bool) (b1 b2 ds fs:LL),TwoP n a b c b1 b2 ds fs->(IR9 a)∧(IR9 b)∧(IR9 c)∧True->IR9 n->True->True∧True∧True->ds.length≤(1000000:Nat)∧fs.length≤(1000000:Nat)∧TwoP n a b c b1 b2 ds fs∧((True∧aP (t2D n a b c (aQ b1) (aQ b2) (aQ ds) (aQ fs))=aP (t2D n a b c (aQ b1) (aQ b2) (aQ ds) (aQ fs)))∧(True∧aP (t2G n a b c (aQ b1) (aQ ds) (aQ fs))=aP (t2G n a b c (aQ b1) (aQ ds) (aQ fs)))∧True)∧(0:Int)=(0:Int)∧True
theorem aQr:aEL:=by
 unfold aEL
 intro n a b c j i i2 g h b1 b2 ds fs hP
 intros
 have hC:=hP.ch
 have ld:=hC.ld
 have lf:=hC.lf
 rw [bL] at ld lf
 have hN:=fF hC.gp
 have hE:=(bY hC.gp.bq).2
 exact ⟨by omega,by omega,hP,by repeat' first|exact trivial|exact rfl|assumption|apply And.intro⟩
theorem aQq:aEL=(∀ (n a b c:Int) (j i i2 g h:Bool) (b1 b2 ds fs:LL),TwoP n a b c b1 b2 ds fs->fnK Tryz.prog { glob:=glb,spec:=lk [(60,qE)],specH:=lk [(61,aEF)],nowf:=true } { nt:=24,drop:=drp [(1,260096),(2,16515072)] } (λ _ _=>none) 6 Tryz.f24 [.agg [.int .i64 a,.int .i64 b,.int .i64 c],.int .i64 n,.sl 1 j [[.sl 1 i b1],[.sl 1 i2 b2]],.agg [.sl 1 g ds,.sl 1 h fs]] (.tup [.agg [.sl 1 false (aP (t2D n a b c (aQ b1) (aQ b2) (aQ ds) (aQ fs))),.sl 1 false (aP (t2G n a b c (aQ b1) (aQ ds) (aQ fs)))],.int .i64 0])):=by kernel_rfl
def aQp:=Eq.mp (aQq ..) (aQr)
theorem aMv:SOK Tryz.prog glb 24 aEK:=by
 refine ⟨fok Tryz.func24 (by kernel_rfl) (by kernel_rfl),?_⟩
 intro xs pre r h hp
 unfold aEK at h
 split at h
 ·cases h
  exact aU bD (by exact aV rfl rfl ⟨(qF glb),trivial⟩ ⟨(aMt),trivial⟩) (by kernel_rfl) Tryz.func24 rfl (aQp  _ _ _ _ _ _ _ _ _ _ _ _ _ hp)
 ·cases h
theorem aXT (f i i2:Bool) (b1 b2:LL):ItOK 113 (.sl 1 f [[.sl 1 i b1],[.sl 1 i2 b2]]) 2 (λ k=>.int .i64 ((2:Int) - 1 - k)) (λ k=>.sl 1 (cond (Nat.beq k 0) i2 i) (cond (Nat.beq k 0) b2 b1)):=by
 obtain ⟨h0,h1,h2,h3,h4⟩:=itB f [[.sl 1 i b1],[.sl 1 i2 b2]]
 refine ⟨h0,h1,h2,h3,λ S m g v hp hc=>?_⟩
 obtain ⟨v0,v1,k1,k2⟩:=h4 S m g v hp hc
 refine ⟨v0,v1,λ k hk S' hS m'=>?_,k2⟩
 rcases (show k=0∨k=1 by omega) with rfl | rfl
 ·exact k1 0 hk S' hS m'
 ·exact k1 1 hk S' hS m'
def c2D (n a b c:Int) (b1 b2 ds fs:LL):Nat->LL
 | 0=>ds
 | 1=>aP (ajD n a b c (aQ b2) (aQ ds) (aQ fs))
 | _+2=>aP (a2D n a b c (aQ b1) (aQ b2) (aQ ds) (aQ fs))
def c2F (n a b c:Int) (b1 b2 ds fs:LL):Nat->LL
 | 0=>fs
 | 1=>aP (ajG n a b c (aQ b2) (aQ ds) (aQ fs))
 | _+2=>aP (a2G n a b c (aQ b1) (aQ b2) (aQ ds) (aQ fs))
def c2L (n a b c:Int) (f i i2:Bool) (b1 b2 ds fs:LL):RL:=⟨113,.sl 1 f [[.sl 1 i b1],[.sl 1 i2 b2]],2,λ k=>.int .i64 ((2:Int) - 1 - k),λ k=>.sl 1 (cond (Nat.beq k 0) i2 i) (cond (Nat.beq k 0) b2 b1),[(4,.ptr 4 0),(5,.ptr 5 0),(8,.ptr 8 0),(9,.ptr 9 0),(10,.ptr 10 0)],λ k=>[(4,.cells [.int .i64 a,.int .i64 b,.int .i64 c]),(5,.cells [.int .i64 n]),(8,.cells [.nils,.nils]),(9,.cells [.int .i64 0]),(10,.cells [.sl 1 false (c2D n a b c b1 b2 ds fs k),.sl 1 false (c2F n a b c b1 b2 ds fs k)])],22,[4,5,8,9,10]⟩
def aIK:Sp
 | [.agg [.int .i64 a,.int .i64 b,.int .i64 c],.int .i64 n,.sl 1 f [[.sl 1 i b1],[.sl 1 i2 b2]],.agg [.sl 1 g ds,.sl 1 h fs]]=>some (TwoP n a b c b1 b2 ds fs,.tup [.agg [.sl 1 false (aP (a2D n a b c (aQ b1) (aQ b2) (aQ ds) (aQ fs))),.sl 1 false (aP (a2G n a b c (aQ b1) (aQ b2) (aQ ds) (aQ fs)))],.int .i64 0])
 | _=>none
def aIL:Prop :=
 ∀ (n a b c:Int) (f i i2 g h:Bool) (b1 b2 ds fs:LL),TwoP n a b c b1 b2 ds fs->ds.length≤(1000000:Nat)∧fs.length≤(1000000:Nat)∧True∧ItOK (c2L n a b c f i i2 b1 b2 ds fs).gf (c2L n a b c f i i2 b1 b2 ds fs).c (c2L n a b c f i i2 b1 b2 ds fs).N (c2L n a b c f i i2 b1 b2 ds fs).x0 (c2L n a b c f i i2 b1 b2 ds fs).x1∧((((0:Nat)=(0:Nat)∧True)∧(0:Nat)=(0:Nat)∧(0:Nat)=(0:Nat)∧(0:Nat)=(0:Nat)∧(0:Nat)=(0:Nat)∧(0:Nat)=(0:Nat)∧True)∧(((bif f then f=true else True)∧[[AV.sl 1 i b1],[AV.sl 1 i2 b2]]=[[AV.sl 1 i b1],[AV.sl 1 i2 b2]])∧True)∧(a=a∧b=b∧c=c∧True)∧(n=n∧True)∧(True∧True∧True)∧((0:Int)=(0:Int)∧True)∧((True∧ds=c2D n a b c b1 b2 ds fs 0)∧(True∧fs=c2F n a b c b1 b2 ds fs 0)∧True)∧True)∧((∀ (k:Nat),nn k (AV.ptr 4 0)=false->inL k (c2L n a b c f i i2 b1 b2 ds fs).kp=true)∧(∀ (k:Nat),nn k (AV.ptr 5 0)=false->inL k (c2L n a b c f i i2 b1 b2 ds fs).kp=true)∧(∀ (k:Nat),nn k (AV.ptr 8 0)=false->inL k (c2L n a b c f i i2 b1 b2 ds fs).kp=true)∧(∀ (k:Nat),nn k (AV.ptr 9 0)=false->inL k (c2L n a b c f i i2 b1 b2 ds fs).kp=true)∧(∀ (k:Nat),nn k (AV.ptr 10 0)=false->inL k (c2L n a b c f i i2 b1 b2 ds fs).kp=true)∧True)∧(∀ (k:Nat),lP ((c2L n a b c f i i2 b1 b2 ds fs).H k)=true)∧(∀ (k:Nat),k < (c2L n a b c f i i2 b1 b2 ds fs).N->(cG a b c=(0:Int)∧ChP n 10000000000 (c2D n a b c b1 b2 ds fs k) (c2F n a b c b1 b2 ds fs k)∧BrP n (bif k.beq 0 then b2 else b1))∧True∧(a=a∧b=b∧c=c∧True)∧(n=n∧True)∧(True∧True∧True)∧((0:Int)=(0:Int)∧True)∧((True∧aP (ajD n a b c (aQ (bif k.beq 0 then b2 else b1)) (aQ (c2D n a b c b1 b2 ds fs k)) (aQ (c2F n a b c b1 b2 ds fs k)))=c2D n a b c b1 b2 ds fs (k+(1:Nat)))∧(True∧aP (ajG n a b c (aQ (bif k.beq 0 then b2 else b1)) (aQ (c2D n a b c b1 b2 ds fs k)) (aQ (c2F n a b c b1 b2 ds fs k)))=c2F n a b c b1 b2 ds fs (k+(1:Nat)))∧True)∧True)∧((True∧c2D n a b c b1 b2 ds fs (c2L n a b c f i i2 b1 b2 ds fs).N=aP (a2D n a b c (aQ b1) (aQ b2) (aQ ds) (aQ fs)))∧(True∧c2F n a b c b1 b2 ds fs (c2L n a b c f i i2 b1 b2 ds fs).N=aP (a2G n a b c (aQ b1) (aQ b2) (aQ ds) (aQ fs)))∧True)∧(0:Int)=(0:Int)∧True
theorem aUp:aIL:=by
 unfold aIL
 intro n a b c f i i2 g h b1 b2 ds fs hQ
 have hP:=hQ.ch
 have ld:=hP.ld
 have lf:=hP.lf
 rw [bL] at ld lf
 have hN:=fF hP.gp
 have hE:=(bY hP.gp.bq).2
 have g1:cond f (f=true) True:=gg f
 have hc1:=aPz (bs:=b2) (by decide) hQ.hi hQ.sc hP
 refine ⟨by omega,by omega,trivial,aXT f i i2 b1 b2,by repeat' first|exact trivial|exact rfl|assumption|apply And.intro,⟨λ k q=>by rw [fE q]; rfl,λ k q=>by rw [fE q]; rfl,λ k q=>by rw [fE q]; rfl,λ k q=>by rw [fE q]; rfl,λ k q=>by rw [fE q]; rfl,trivial⟩,λ k=>rfl,λ k hk=>?_,by repeat' first|exact trivial|exact rfl|assumption|apply And.intro⟩
 have hk:k < 2:=hk
 rcases (show k=0∨k=1 by omega) with rfl | rfl
 ·exact ⟨⟨hQ.sc,hP.mono (by decide),hQ.h2⟩,by repeat' first|exact trivial|exact rfl|assumption|apply And.intro⟩
 ·have e1:c2D n a b c b1 b2 ds fs 1=aP (ajD n a b c (aQ b2) (aQ ds) (aQ fs)):=rfl
  have e2:c2F n a b c b1 b2 ds fs 1=aP (ajG n a b c (aQ b2) (aQ ds) (aQ fs)):=rfl
  rw [e1,e2]
  refine ⟨⟨hQ.sc,hc1.mono (by decide),hQ.h1⟩,by repeat' first|exact trivial|exact rfl|assumption|apply And.intro,by repeat' first|exact trivial|exact rfl|assumption|apply And.intro,by repeat' first|exact trivial|exact rfl|assumption|apply And.intro,by repeat' first|exact trivial|exact rfl|assumption|apply And.intro,by repeat' first|exact trivial|exact rfl|assumption|apply And.intro,⟨⟨trivial,?_⟩,⟨trivial,?_⟩,trivial⟩,trivial⟩
  ·rw [aS,aS]; rfl
  ·rw [aS,aS]; rfl
theorem aUo:aIL=(∀ (n a b c:Int) (f i i2 g h:Bool) (b1 b2 ds fs:LL),TwoP n a b c b1 b2 ds fs->fnR Tryz.prog { glob:=glb,spec:=lk [(60,qE),(67,aIT)],specH:=lk [(66,aE9)],nowf:=true } { nt:=38,drop:=drp [(1,2080768),(2,2097152),(5,8556380160),(6,8589934592),(7,103079215104),(8,137438953472)] } (λ _ _=>none) 6 (λ _=>some (c2L n a b c f i i2 b1 b2 ds fs)) Tryz.f28 [.agg [.int .i64 a,.int .i64 b,.int .i64 c],.int .i64 n,.sl 1 f [[.sl 1 i b1],[.sl 1 i2 b2]],.agg [.sl 1 g ds,.sl 1 h fs]] (.tup [.agg [.sl 1 false (aP (a2D n a b c (aQ b1) (aQ b2) (aQ ds) (aQ fs))),.sl 1 false (aP (a2G n a b c (aQ b1) (aQ b2) (aQ ds) (aQ fs)))],.int .i64 0])):=by kernel_rfl
def aUn:=Eq.mp (aUo ..) (aUp)
theorem aPI:SOK Tryz.prog glb 28 aIK:=by
 refine ⟨fok Tryz.func28 (by kernel_rfl) (by kernel_rfl),?_⟩
 intro xs pre r h hp
 unfold aIK at h
 split at h
 ·cases h
  exact lZ bD (by exact aV rfl rfl ⟨(qF glb),(aPL),trivial⟩ ⟨(aMM glb),trivial⟩) rfl Tryz.func28 rfl (aUn  _ _ _ _ _ _ _ _ _ _ _ _ _ hp)
 ·cases h
theorem zC (xs ys:List Int):∀ k,eW xs ys k=eW ys xs k
 | 0=>rfl
 | k+1=>by rw [eW,eW,zC xs ys k,Int.mul_comm]
theorem oW {xs ys:List Int} (h:xs.length=ys.length):cY xs ys=cY ys xs:=by unfold cY; rw [zC,h]
theorem aET (n a b c:Int) (bs ds fs:List Int):(taD n a b c bs ds fs).length=ndN n:=pD _ _ _ _ _ _ _ _
theorem aMy (n a b c:Int) (ds fs:List Int):(taG n a b c ds fs).length=(aT nrm n).length:=by unfold taG; rw [bU]
theorem aXz (n a b c:Int) (bs ds fs:List Int):(ajD n a b c bs ds fs).length=ndN n:=nF n a b c bs ds fs _
theorem aXy (n a b c:Int) (bs ds fs:List Int):(ajG n a b c bs ds fs).length=(aT nrm n).length:=by unfold ajG; rw [bU]
theorem aX6 {n a b c:Int} {b1 b2 gd gf hd hf:List Int} (hg:GrdP nrm n) (hs:cG a b c=0) (h1:∀ k,-1≤b1.getD k 0∧b1.getD k 0≤1) (h2:∀ k,-1≤b2.getD k 0∧b2.getD k 0≤1)
  (lg:gd.length=ndN n) (lgf:gf.length=(aT nrm n).length) (lh:hd.length=ndN n) (lhf:hf.length=(aT nrm n).length) :
  cY (t2D n a b c b1 b2 hd hf) gd+cY (t2G n a b c b1 hd hf) gf=cY hd (a2D n a b c b1 b2 gd gf)+cY hf (a2G n a b c b1 b2 gd gf):=by
 have t2:=aLr (bs:=b2) (gd:=gd) (gf:=gf) (ds:=taD n a b c b1 hd hf) (fs:=taG n a b c hd hf) ⟨hg,hs,h2,lg,aET _ _ _ _ _ _ _,lgf⟩
 have t1:=aLr (bs:=b1) (gd:=ajD n a b c b2 gd gf) (gf:=ajG n a b c b2 gd gf) (ds:=hd) (fs:=hf) ⟨hg,hs,h1,aXz _ _ _ _ _ _ _,lh,aXy _ _ _ _ _ _ _⟩
 unfold t2D t2G a2D a2G
 rw [oW (show (taD n a b c b2 (taD n a b c b1 hd hf) (taG n a b c hd hf)).length=gd.length by rw [aET,lg]),oW (show (taG n a b c (taD n a b c b1 hd hf) (taG n a b c hd hf)).length=gf.length by rw [aMy,lgf]),← t2,← t1]
 rw [oW (show (ajD n a b c b1 (ajD n a b c b2 gd gf) (ajG n a b c b2 gd gf)).length=hd.length by rw [aXz,lh]),oW (show (ajG n a b c b1 (ajD n a b c b2 gd gf) (ajG n a b c b2 gd gf)).length=hf.length by rw [aXy,lhf])]
set_option maxRecDepth 10000 in
theorem aML {a b c:Int} (h:cG a b c=0):scZ a b c=2 ^ min a.toNat 64*wan a (scZ a b c)∧scZ a b c=2 ^ min b.toNat 64*wan b (scZ a b c)∧(2:Int) ^ min a.toNat 64≠0∧(2:Int) ^ min b.toNat 64≠0:=by
 obtain ⟨ha,hb,hc⟩:=kP h
 rcases (show a=1∨a=2∨a=3∨a=4 by omega) with rfl | rfl | rfl | rfl <;> rcases (show b=1∨b=2∨b=3∨b=4 by omega) with rfl | rfl | rfl | rfl <;> rcases (show c=1∨c=2∨c=3∨c=4 by omega) with rfl | rfl | rfl | rfl <;> decide
theorem tR {s x q:Int} (h:(2:Int) ^ min s.toNat 64≠0):wan s (x+2 ^ min s.toNat 64*q)=wan s x+q:=by
 unfold wan
 rw [Int.add_mul_ediv_left _ _ h]
def acU (a b:Int) (fs sl:List Int) (k:Nat):Int:=fs.getD k 0+(wan b (sl.getD k 0) - wan a (fs.getD k 0))
theorem aUq {a b c:Int} (hs:cG a b c=0) {es:LL} {fs sl fs' sl' hd hf:List Int} {k:Nat} (hF:fs'.getD k 0=fs.getD k 0+scZ a b c*hf.getD k 0)
  (hS:sl'.getD k 0=sl.getD k 0+scZ a b c*(hd.getD (nI (es.getD k []) 0).toNat 0 - hd.getD (nI (es.getD k []) 1).toNat 0)):acU a b fs' sl' k=acU a b fs sl k+taF es (scZ a b c) a b hd hf k:=by
 obtain ⟨da,db,na,nb⟩:=aML hs
 have e1:wan a (fs'.getD k 0)=wan a (fs.getD k 0)+wan a (scZ a b c)*hf.getD k 0:=by
  rw [hF]
  conv=>lhs; rw [da,Int.mul_assoc]
  exact tR na
 have e2:wan b (sl'.getD k 0)=wan b (sl.getD k 0)+wan b (scZ a b c)*(hd.getD (nI (es.getD k []) 0).toNat 0 - hd.getD (nI (es.getD k []) 1).toNat 0):=by
  rw [hS]
  conv=>lhs; rw [db,Int.mul_assoc]
  exact tR nb
 unfold acU taF
 rw [e1,e2,hF,Int.sub_mul]
 omega
theorem aQC {a b c:Int} (hs:cG a b c=0) {es:LL} {hd hf:List Int} {k:Nat}:∃ q,taF es (scZ a b c) a b hd hf k=2 ^ min c.toNat 64*q∧wan c (taF es (scZ a b c) a b hd hf k)=q∧(2:Int) ^ min c.toNat 64≠0:=by
 obtain ⟨d1,d2,n⟩:=aE8 hs
 refine ⟨wan c (scZ a b c - wan a (scZ a b c))*hf.getD k 0+wan (b+c) (scZ a b c)*(hd.getD (nI (es.getD k []) 0).toNat 0 - hd.getD (nI (es.getD k []) 1).toNat 0),?_,?_,n⟩
 ·unfold taF
  rw [Int.mul_add,← Int.mul_assoc,← Int.mul_assoc,← d1,← d2]
 ·have e:taF es (scZ a b c) a b hd hf k=0+2 ^ min c.toNat 64*(wan c (scZ a b c - wan a (scZ a b c))*hf.getD k 0+wan (b+c) (scZ a b c)*(hd.getD (nI (es.getD k []) 0).toNat 0 - hd.getD (nI (es.getD k []) 1).toNat 0)):=by
   unfold taF
   rw [Int.zero_add,Int.mul_add,← Int.mul_assoc,← Int.mul_assoc,← d1,← d2]
  rw [e,tR n,aJg,Int.zero_add]
structure DegP (n:Int):Prop where
 dg:∀ j,j < ndN n->(bN n).getD j 0=5∨(bN n).getD j 0=6
theorem aEJ {x Z d y:Int} (hx:0≤x) (hy:0≤x+Z*y) (hd:d=5∨d=6) (hZ:∃ q,Z=30*q∧0≤q):(x+Z*y).tdiv d=x.tdiv d+Z.tdiv d*y:=by
 obtain ⟨q,rfl,hq⟩:=hZ
 rw [Int.tdiv_eq_ediv_of_nonneg hx,Int.tdiv_eq_ediv_of_nonneg hy,Int.tdiv_eq_ediv_of_nonneg (by omega)]
 rcases hd with rfl | rfl
 ·rw [show 30*q*y=5*(6*q*y) by rw [show (30:Int)=5*6 from rfl,Int.mul_assoc,Int.mul_assoc,Int.mul_assoc],Int.add_mul_ediv_left _ _ (by decide),show 30*q=5*(6*q) by omega,Int.mul_ediv_cancel_left _ (by decide)]
 ·rw [show 30*q*y=6*(5*q*y) by rw [show (30:Int)=6*5 from rfl,Int.mul_assoc,Int.mul_assoc,Int.mul_assoc],Int.add_mul_ediv_left _ _ (by decide),show 30*q=6*(5*q) by omega,Int.mul_ediv_cancel_left _ (by decide)]
theorem aQT {a b c:Int} (h:cG a b c=0):∃ q,scZ a b c=30*q∧0≤q:=by
 obtain ⟨ha,hb,hc⟩:=kP h
 have:=p2c (t:=max a b+c) (by omega)
 exact ⟨2 ^ min (max a b+c).toNat 64,rfl,by omega⟩
theorem aUa {n a b c:Int} (hs:cG a b c=0) (hD:DegP n) {es:LL} {ds fs ds' fs' hd hf:List Int} {k:Nat} (ha:(nI (es.getD k []) 0).toNat < ndN n) (hb:(nI (es.getD k []) 1).toNat < ndN n)
  (d0:∀ j,0≤ds.getD j 0) (d1:∀ j,0≤ds'.getD j 0) (eD:∀ j,ds'.getD j 0=ds.getD j 0+scZ a b c*hd.getD j 0) (eF:fs'.getD k 0=fs.getD k 0+taF es (scZ a b c) a b hd hf k)
  (hbr:(amV es ds' fs' (bN n) c k).2=(amV es ds fs (bN n) c k).2) {bs:List Int} (hbs:bs.getD k 0=(amV es ds fs (bN n) c k).2) :
  (amV es ds' fs' (bN n) c k).1=(amV es ds fs (bN n) c k).1+taA es (scZ a b c) a b c (bN n) bs hd hf k:=by
 obtain ⟨q,hq,hw,hn⟩:=aQC (es:=es) (hd:=hd) (hf:=hf) (k:=k) hs
 have hZ:=aQT hs
 have f0:=aEJ (y:=hd.getD (nI (es.getD k []) 0).toNat 0) (d0 (nI (es.getD k []) 0).toNat) (by have:=d1 (nI (es.getD k []) 0).toNat; rw [eD] at this; exact this) (hD.dg _ ha) hZ
 have f1:=aEJ (y:=hd.getD (nI (es.getD k []) 1).toNat 0) (d0 (nI (es.getD k []) 1).toNat) (by have:=d1 (nI (es.getD k []) 1).toNat; rw [eD] at this; exact this) (hD.dg _ hb) hZ
 have fw:wan c (fs'.getD k 0)=wan c (fs.getD k 0)+q:=by rw [eF,hq,tR hn]
 unfold amV at hbr hbs ⊢
 simp only [eD,f0,f1,fw] at hbr hbs ⊢
 unfold taA
 rw [hbs,hw]
 clear hbs eD eF f0 f1 fw d0 d1 hq hw
 generalize (ds.getD (nI (es.getD k []) 0).toNat 0).tdiv ((bN n).getD (nI (es.getD k []) 0).toNat 0)=l0 at *
 generalize (ds.getD (nI (es.getD k []) 1).toNat 0).tdiv ((bN n).getD (nI (es.getD k []) 1).toNat 0)=l1 at *
 generalize (scZ a b c).tdiv ((bN n).getD (nI (es.getD k []) 0).toNat 0)*hd.getD (nI (es.getD k []) 0).toNat 0=x0 at *
 generalize (scZ a b c).tdiv ((bN n).getD (nI (es.getD k []) 1).toNat 0)*hd.getD (nI (es.getD k []) 1).toNat 0=x1 at *
 generalize wan c (fs.getD k 0)=w at *
 by_cases p1:l0 < w
 ·rw [if_pos p1] at hbr ⊢
  by_cases p2:l0+x0 < w+q
  ·rw [if_pos p2]; simp
  ·rw [if_neg p2] at hbr
   split at hbr <;> simp at hbr
 ·rw [if_neg p1] at hbr ⊢
  by_cases p3:w < -l1
  ·rw [if_pos p3] at hbr ⊢
   by_cases p2:l0+x0 < w+q
   ·rw [if_pos p2] at hbr; simp at hbr
   ·rw [if_neg p2] at hbr ⊢
    by_cases p4:w+q < -(l1+x1)
    ·rw [if_pos p4]; simp; omega
    ·rw [if_neg p4] at hbr; simp at hbr
  ·rw [if_neg p3] at hbr ⊢
   by_cases p2:l0+x0 < w+q
   ·rw [if_pos p2] at hbr; simp at hbr
   ·rw [if_neg p2] at hbr ⊢
    by_cases p4:w+q < -(l1+x1)
    ·rw [if_pos p4] at hbr; simp at hbr
    ·rw [if_neg p4]; simp
theorem aF7 {es:LL} {am am' ta D D' T:List Int} {N:Nat} (l1:D.length=N) (l2:D'.length=N) (l3:T.length=N) {E:Nat} (hA:∀ k,k < E->am'.getD k 0=am.getD k 0+ta.getD k 0) (h0:∀ j,D'.getD j 0=D.getD j 0+T.getD j 0):∀ K,K≤E->∀ j,(mvK es am' D' K).getD j 0=(mvK es am D K).getD j 0+(mvK es ta T K).getD j 0
 | 0,_,j=>h0 j
 | K+1,hK,j=>by
  have ih:=aF7 (es:=es) l1 l2 l3 hA h0 K (by omega) j
  have hk:=hA K (by omega)
  rw [mvK,mvK,mvK,vC,vC,vC]
  simp only [eP,dM,mR,l1,l2,l3,ih,hk]
  split <;> split <;> omega
theorem aL7 (a b:Int) (fs sl:List Int):∀ (m k:Nat),k < m->(acK a b fs sl m)[k]?=some (acV a b fs sl k)
 | 0,k,h=>by omega
 | m+1,k,h=>by
  rw [acK]
  by_cases q:k < m
  ·rw [List.getElem?_append_left (by rw [kY]; exact q)]; exact aL7 a b fs sl m k q
  ·obtain rfl:k=m:=by omega
   rw [List.getElem?_append_right (by rw [kY]; exact Nat.le_refl _),kY,Nat.sub_self]; rfl
theorem aL6 (a b:Int) (fs sl:List Int) {k N:Nat} (h:k < N):(acK a b fs sl N).getD k 0=acV a b fs sl k:=by
 rw [aB,aL7 a b fs sl N k h]; rfl
theorem aE3 (es:LL) (ds:List Int) {k N:Nat} (h:k < N):(aEr es ds N).getD k 0=ds.getD (nI (es.getD k []) 0).toNat 0 - ds.getD (nI (es.getD k []) 1).toNat 0:=by
 rw [aB,aAo es ds N k h]; rfl
theorem aIr (es:LL) (ds fs dg:List Int) (mv:Int):∀ (N k:Nat),k < N->(amK es ds fs dg mv N).1.getD k 0=(amV es ds fs dg mv k).1∧(amK es ds fs dg mv N).2.getD k 0=(amV es ds fs dg mv k).2
 | 0,k,h=>by omega
 | N+1,k,h=>by
  have hl:=nE es ds fs dg mv N
  rw [amK]
  simp only [aB]
  by_cases q:k < N
  ·have ih:=aIr es ds fs dg mv N k q
   simp only [aB] at ih
   rw [List.getElem?_append_left (by omega),List.getElem?_append_left (by omega)]
   exact ih
  ·obtain rfl:k=N:=by omega
   rw [List.getElem?_append_right (by omega),List.getElem?_append_right (by omega),hl.1,hl.2]
   simp
structure ShfP (n a b c:Int) (ds fs ds' fs' hd hf bs:List Int):Prop where
 gp:GrdP nrm n
 sc:cG a b c=0
 dg:DegP n
 ld:ds.length=ndN n
 ld':ds'.length=ndN n
 lh:hd.length=ndN n
 d0:∀ j,0≤ds.getD j 0
 d1:∀ j,0≤ds'.getD j 0
 eD:∀ j,ds'.getD j 0=ds.getD j 0+scZ a b c*hd.getD j 0
 eF:∀ k,fs'.getD k 0=fs.getD k 0+scZ a b c*hf.getD k 0
 f0:∀ k,k < (aT nrm n).length->-16777216 < (acZ n a b ds fs).getD k 0∧(acZ n a b ds fs).getD k 0 < 16777216
 f1:∀ k,k < (aT nrm n).length->-16777216 < (acZ n a b ds' fs').getD k 0∧(acZ n a b ds' fs').getD k 0 < 16777216
theorem aHr {n a b c:Int} {ds fs ds' fs' hd hf bs:List Int} (h:ShfP n a b c ds fs ds' fs' hd hf bs) {k:Nat} (hk:k < (aT nrm n).length):(acZ n a b ds' fs').getD k 0=(acZ n a b ds fs).getD k 0+(taG n a b c hd hf).getD k 0:=by
 have g0:=h.f0 k hk
 have g1:=h.f1 k hk
 have e:=aUq (es:=aT nrm n) (k:=k) (fs:=fs) (fs':=fs') (sl:=mH n ds) (sl':=mH n ds') (hd:=hd) (hf:=hf) h.sc (h.eF k) (by
  unfold mH
  rw [aE3 _ _ hk,aE3 _ _ hk,h.eD,h.eD,Int.mul_sub]
  omega)
 unfold taG
 rw [dU _ hk]
 unfold acZ at g0 g1 ⊢
 rw [aL6 _ _ _ _ hk] at g0 g1 ⊢
 rw [aL6 _ _ _ _ hk]
 have a0:acV a b fs (mH n ds) k=min (max (acU a b fs (mH n ds) k) (-16777216)) 16777216:=rfl
 have a1:acV a b fs' (mH n ds') k=min (max (acU a b fs' (mH n ds') k) (-16777216)) 16777216:=rfl
 rw [a0] at g0 ⊢
 rw [a1] at g1 ⊢
 omega
theorem aK0 {n a b c:Int} {ds fs ds' fs' hd hf bs:List Int} (h:ShfP n a b c ds fs ds' fs' hd hf bs) (hb:∀ k,k < (aT nrm n).length->bs.getD k 0=(amZ n c ds (acZ n a b ds fs)).2.getD k 0∧(amZ n c ds' (acZ n a b ds' fs')).2.getD k 0=(amZ n c ds (acZ n a b ds fs)).2.getD k 0) (j:Nat) :
  (mvZ n (amZ n c ds' (acZ n a b ds' fs')).1 ds').getD j 0=(mvZ n (amZ n c ds (acZ n a b ds fs)).1 ds).getD j 0+(taD n a b c bs hd hf).getD j 0:=by
 unfold mvZ taD taK
 refine aF7 (N:=ndN n) (E:=(aT nrm n).length) h.ld h.ld' (bU _ _) (λ k hk=>?_) (λ j=>?_) _ (Nat.le_refl _) j
 ·obtain ⟨ea,eb⟩:=iG h.gp hk
  obtain ⟨b1,b2⟩:=hb k hk
  have m0:=aIr (aT nrm n) ds (acZ n a b ds fs) (bN n) c _ k hk
  have m1:=aIr (aT nrm n) ds' (acZ n a b ds' fs') (bN n) c _ k hk
  unfold amZ at b1 b2 ⊢
  rw [m0.2] at b1 b2
  rw [m1.2] at b2
  rw [m0.1,m1.1,dU _ hk]
  refine aUa (n:=n) h.sc h.dg (by omega) (by omega) h.d0 h.d1 h.eD ?_ b2 b1
  rw [aHr h hk]
  unfold taG
  rw [dU _ hk]
 ·rw [h.eD]
  by_cases q:j < ndN n
  ·rw [dU _ q]; rfl
  ·have e1:(mk (taS (scZ a b c) hd) (ndN n)).getD j 0=0:=by rw [aB,List.getElem?_eq_none (by rw [bU]; omega)]; rfl
   have e2:hd.getD j 0=0:=by rw [aB,List.getElem?_eq_none (by rw [h.lh]; omega)]; rfl
   rw [e1,e2]; omega
def cnE (es:LL) (j:Nat):Nat:=es.countP (λ r=>Nat.beq (nI r 0).toNat j)+es.countP (λ r=>Nat.beq (nI r 1).toNat j)
theorem aH0 (es:LL) {N:Nat} {j:Nat} (hj:j < N):∀ k,k≤es.length->(kF es N k).getD j 0=cnE (es.take k) j
 | 0,_=>by
  rw [kF,aVR]; simp [cnE]
 | k+1,hk=>by
  have ih:=aH0 es hj k (by omega)
  have hlt:k < es.length:=by omega
  have e:es.take (k+1)=es.take k++[es.getD k []]:=by
   rw [List.take_succ_eq_append_getElem hlt,aB,aD hlt]; rfl
  have hl:=jZ es N k
  rw [kF,e]
  generalize es.getD k []=r
  have hS:(aHX (kF es N k) r).getD j 0=(kF es N k).getD j 0+(if (nI r 0).toNat=j then 1 else 0)+(if (nI r 1).toNat=j then 1 else 0):=by
   have:aHX (kF es N k) r=rN (rN (kF es N k) (nI r 0).toNat 1) (nI r 1).toNat 1:=rfl
   rw [this,eP,eP,dM,hl]
   simp only [hj,and_true]
  rw [hS,ih]
  unfold cnE
  rw [List.countP_append,List.countP_append,List.countP_singleton,List.countP_singleton]
  have b0:∀ x:Nat,(Nat.beq x j=true)↔x=j:=λ x=>⟨aA,λ e=>by subst e; exact Nat.beq_refl _⟩
  simp only [b0]
  split <;> split <;> omega
theorem aLZ {n:Int} (h:BldQ nrm n) {L:List Nat} (hL:ddp ((edL (aP0 nrm n)).map cdE)=L) (hc:((List.range (ndN n)).all λ j=>Nat.beq (L.countP (λ x=>Nat.beq (x / 1000) j)+L.countP (λ x=>Nat.beq (x % 1000) j)) 5||Nat.beq (L.countP (λ x=>Nat.beq (x / 1000) j)+L.countP (λ x=>Nat.beq (x % 1000) j)) 6)=true):DegP n:=by
 rw [← aPd] at hL
 have hin:=(bY h).1
 have l2:=h.l2
 have hst:=aHQ h
 have hnd:((aT nrm n).map cdE).Nodup:=by
  rw [List.nodup_iff_pairwise_ne,List.pairwise_map]
  refine (List.Pairwise.and_mem.1 hst).imp ?_
  rintro a b ⟨ha,hb,q⟩
  have a0:=(hin a ha).at_ 0 (by decide)
  have a1:=(hin a ha).at_ 1 (by decide)
  have b0:=(hin b hb).at_ 0 (by decide)
  have b1:=(hin b hb).at_ 1 (by decide)
  unfold ltE at q
  unfold cdE
  omega
 have hp:((aT nrm n).map cdE).Perm L:=by
  rw [← hL]
  refine (List.perm_ext_iff_of_nodup hnd mB).2 λ x=>?_
  rw [qZ,List.mem_map,List.mem_map]
  exact exists_congr λ r=>and_congr_left λ _=>aHS h r
 refine ⟨λ j hj=>?_⟩
 have hk:=List.all_eq_true.1 hc j (List.mem_range.2 hj)
 have e:(bN n).getD j 0=cnE (aT nrm n) j:=by
  unfold bN
  rw [aH0 _ hj _ (Nat.le_refl _),List.take_length]
 have e0:(aT nrm n).countP (λ r=>Nat.beq (nI r 0).toNat j)=L.countP (λ x=>Nat.beq (x / 1000) j):=by
  rw [← hp.countP_eq,List.countP_map]
  refine List.countP_congr λ r hr=>?_
  have a0:=(hin r hr).at_ 0 (by decide)
  have a1:=(hin r hr).at_ 1 (by decide)
  have:cdE r / 1000=(nI r 0).toNat:=by unfold cdE; omega
  simp only [Function.comp,this]
 have e1:(aT nrm n).countP (λ r=>Nat.beq (nI r 1).toNat j)=L.countP (λ x=>Nat.beq (x % 1000) j):=by
  rw [← hp.countP_eq,List.countP_map]
  refine List.countP_congr λ r hr=>?_
  have a0:=(hin r hr).at_ 0 (by decide)
  have a1:=(hin r hr).at_ 1 (by decide)
  have:cdE r % 1000=(nI r 1).toNat:=by unfold cdE; omega
  simp only [Function.comp,this]
 rw [e]
 unfold cnE
 rw [e0,e1]
 simp only [Bool.or_eq_true] at hk
 rcases hk with hk | hk <;> have:=aA hk <;> omega
set_option maxRecDepth 100000
theorem aU6:DegP 1:=aLZ aU0.bq rfl (by decide +kernel)
theorem aXX:DegP 2:=aLZ aWE.bq rfl (by decide +kernel)
structure AdX where
 n:Int
 a:Int
 b:Int
 c:Int
 xd:List Int
 xf:List Int
 gd:List Int
 gf:List Int
 hd:List Int
 hf:List Int
 b1:List Int
 b2:List Int
structure Adj7 (x:AdX):Prop where
 fq:FrQ x.n
 dg:DegP x.n
 v:AmoP x.n x.a x.b x.c (aP x.xd) (aP x.xf)
 g:ChP x.n 29 (aP x.gd) (aP x.gf)
 h:ChP x.n 29 (aP x.hd) (aP x.hf)
structure Adj14 (x:AdX):Prop where
 o:Adj7 x
 e1:sE x.n x.a x.b x.c x.xd x.xf=0
 h1:x.b1=(amZ x.n x.c x.xd (acZ x.n x.a x.b x.xd x.xf)).2
 k1:BrP x.n (aP x.b1)
 k2:BrP x.n (aP x.b2)
structure AdY where
 x:AdX
 zd:List Int
 zf:List Int
structure Adj24 (y:AdY):Prop where
 o:Adj14 y.x
 v:VStP y.x.n (aP y.zd) (aP y.zf)
 ed:y.zd=shL (scZ y.x.a y.x.b y.x.c) y.x.xd y.x.hd
 ef:y.zf=shL (scZ y.x.a y.x.b y.x.c) y.x.xf y.x.hf
structure AdZ where
 n:Int
 p:List Int
 r:List Int
 ad:List Int
 af:List Int
 bd:List Int
 bf:List Int
 wd:List Int
 wf:List Int
structure AdL (z:AdZ):Prop where
 fq:FrQ z.n
 lp:z.p.length=(aT nrm z.n).length
 lr:z.r.length=(aT nrm z.n).length
 lad:z.ad.length=ndN z.n
 laf:z.af.length=(aT nrm z.n).length
 lbd:z.bd.length=ndN z.n
 lbf:z.bf.length=(aT nrm z.n).length
 lwd:z.wd.length=ndN z.n
 lwf:z.wf.length=(aT nrm z.n).length
 ba:∀ k,-16777216≤z.ad.getD k 0∧z.ad.getD k 0≤16777216
 bb:∀ k,-16777216≤z.af.getD k 0∧z.af.getD k 0≤16777216
 bc:∀ k,-16777216≤z.bf.getD k 0∧z.bf.getD k 0≤16777216
 bd:∀ k,-1099511627776≤z.wd.getD k 0∧z.wd.getD k 0≤1099511627776
 be:∀ k,-1099511627776≤z.wf.getD k 0∧z.wf.getD k 0≤1099511627776
def AdK (z:AdZ):Prop:=(∀ k,k < ndN z.n->z.bd.getD k 0=z.ad.getD k 0+z.wd.getD k 0)∧∀ k,k < (aT nrm z.n).length->z.bf.getD k 0=z.af.getD k 0+z.wf.getD k 0
def AdF (z:AdZ) (k:Nat):Prop:=(-16777216 < z.af.getD k 0∧z.af.getD k 0 < 16777216)∧-16777216 < z.bf.getD k 0∧z.bf.getD k 0 < 16777216
structure Adj29 (z:AdZ):Prop where
 l:AdL z
 key:(∀ k,k < (aT nrm z.n).length->z.p.getD k 0=z.r.getD k 0)->(∀ k,k < (aT nrm z.n).length->AdF z k)->AdK z
structure Adj32 (x:AdZ × Int):Prop where
 o:Adj29 x.1
 lo:0≤x.2
 hi:x.2≤(aT nrm x.1.n).length
 eq:∀ k:Nat,(k:Int) < x.2->x.1.p.getD k 0=x.1.r.getD k 0
structure Adj38 (x:AdZ × Int):Prop where
 l:AdL x.1
 key:(∀ k,k < (aT nrm x.1.n).length->AdF x.1 k)->AdK x.1
 lo:0≤x.2
 hi:x.2≤(aT nrm x.1.n).length
 eq:∀ k:Nat,(k:Int) < x.2->AdF x.1 k
structure Adj44 (x:AdZ × Int):Prop where
 l:AdL x.1
 key:AdK x.1
 lo:0≤x.2
 hi:x.2≤ndN x.1.n
structure Adj50 (x:AdZ × Int):Prop where
 l:AdL x.1
 key:AdK x.1
 lo:0≤x.2
 hi:x.2≤(aT nrm x.1.n).length
def ad7:LInv:=⟨AdX,λ x=>⟨[(4,.int .i64 x.n),(5,.ptr 5 0),(6,.ptr 6 0),(7,.ptr 7 0),(8,.ptr 8 0),(9,.nils),(10,.ptr 10 0)],[(5,.cells [.int .i64 x.n,.sl 1 false (aP x.xd),.sl 1 false (aP x.xf)]),(6,.cells [.int .i64 x.a,.int .i64 x.b,.int .i64 x.c]),(7,.cells [.sl 1 false (aP x.gd),.sl 1 false (aP x.gf)]),(8,.cells [.sl 1 false (aP x.hd),.sl 1 false (aP x.hf)]),(10,.cells [.int .i64 x.n,.sl 1 false (aP x.xd),.sl 1 false (aP x.xf)])]⟩,Adj7,λ _=>0,none⟩
def aX9:LInv:=⟨AdX,λ x=>⟨[(4,.int .i64 x.n),(5,.ptr 5 0),(6,.ptr 6 0),(7,.ptr 7 0),(8,.ptr 8 0),(9,.rw 900 1 2)],[(5,.cells [.int .i64 x.n,.sl 1 false (aP x.xd),.sl 1 false (aP x.xf)]),(6,.cells [.int .i64 x.a,.int .i64 x.b,.int .i64 x.c]),(7,.cells [.sl 1 false (aP x.gd),.sl 1 false (aP x.gf)]),(8,.cells [.sl 1 false (aP x.hd),.sl 1 false (aP x.hf)]),(900,.row 60 1 [[.sl 1 false (aP x.b1)],[.sl 1 false (aP x.b2)]])]⟩,Adj14,λ _=>0,none⟩
def aX8:LInv:=⟨AdY,λ y=>⟨[(4,.int .i64 y.x.n),(5,.ptr 5 0),(6,.ptr 6 0),(8,.ptr 8 0),(9,.sl 1 false [[.sl 1 false (aP y.x.b1)],[.sl 1 false (aP y.x.b2)]]),(25,.ptr 25 0)],[(5,.cells [.int .i64 y.x.n,.sl 1 false (aP y.x.xd),.sl 1 false (aP y.x.xf)]),(6,.cells [.int .i64 y.x.a,.int .i64 y.x.b,.int .i64 y.x.c]),(8,.cells [.sl 1 false (aP y.x.hd),.sl 1 false (aP y.x.hf)]),(25,.cells [.int .i64 y.x.n,.sl 1 false (aP y.zd),.sl 1 false (aP y.zf)])]⟩,Adj24,λ _=>0,none⟩
def aX7:LInv:=⟨AdZ,λ z=>⟨[(27,.ptr 27 0),(28,.sl 1 false (aP z.p)),(30,.ptr 30 0),(31,.sl 1 false (aP z.r)),(33,.ptr 33 0)],[(27,.cells [.int .i64 z.n,.sl 1 false (aP z.ad),.sl 1 false (aP z.af)]),(30,.cells [.int .i64 z.n,.sl 1 false (aP z.bd),.sl 1 false (aP z.bf)]),(33,.cells [.sl 1 false (aP z.wd),.sl 1 false (aP z.wf)])]⟩,Adj29,λ _=>0,none⟩
def aVg:LInv:=⟨AdZ × Int,λ x=>⟨[(27,.ptr 27 0),(28,.sl 1 false (aP x.1.p)),(30,.ptr 30 0),(31,.sl 1 false (aP x.1.r)),(33,.ptr 33 0),(233,.int .i64 x.1.p.length),(234,.int .i64 x.2)],[(27,.cells [.int .i64 x.1.n,.sl 1 false (aP x.1.ad),.sl 1 false (aP x.1.af)]),(30,.cells [.int .i64 x.1.n,.sl 1 false (aP x.1.bd),.sl 1 false (aP x.1.bf)]),(33,.cells [.sl 1 false (aP x.1.wd),.sl 1 false (aP x.1.wf)])]⟩,Adj32,λ x=>((aT nrm x.1.n).length - x.2).toNat,none⟩
def aVf:LInv:=⟨AdZ × Int,λ x=>⟨[(27,.ptr 27 0),(30,.ptr 30 0),(33,.ptr 33 0),(250,.int .i64 x.1.af.length),(251,.int .i64 x.2)],[(27,.cells [.int .i64 x.1.n,.sl 1 false (aP x.1.ad),.sl 1 false (aP x.1.af)]),(30,.cells [.int .i64 x.1.n,.sl 1 false (aP x.1.bd),.sl 1 false (aP x.1.bf)]),(33,.cells [.sl 1 false (aP x.1.wd),.sl 1 false (aP x.1.wf)])]⟩,Adj38,λ x=>((aT nrm x.1.n).length - x.2).toNat,none⟩
def aVe:LInv:=⟨AdZ × Int,λ x=>⟨[(27,.ptr 27 0),(30,.ptr 30 0),(33,.ptr 33 0),(282,.int .i64 x.1.ad.length),(283,.int .i64 x.2)],[(27,.cells [.int .i64 x.1.n,.sl 1 false (aP x.1.ad),.sl 1 false (aP x.1.af)]),(30,.cells [.int .i64 x.1.n,.sl 1 false (aP x.1.bd),.sl 1 false (aP x.1.bf)]),(33,.cells [.sl 1 false (aP x.1.wd),.sl 1 false (aP x.1.wf)])]⟩,Adj44,λ x=>(ndN x.1.n - x.2).toNat,none⟩
def aVd:LInv:=⟨AdZ × Int,λ x=>⟨[(27,.ptr 27 0),(30,.ptr 30 0),(33,.ptr 33 0),(306,.int .i64 x.1.af.length),(307,.int .i64 x.2)],[(27,.cells [.int .i64 x.1.n,.sl 1 false (aP x.1.ad),.sl 1 false (aP x.1.af)]),(30,.cells [.int .i64 x.1.n,.sl 1 false (aP x.1.bd),.sl 1 false (aP x.1.bf)]),(33,.cells [.sl 1 false (aP x.1.wd),.sl 1 false (aP x.1.wf)])]⟩,Adj50,λ x=>((aT nrm x.1.n).length - x.2).toNat,none⟩
theorem aWL {i:Int} (h:0≤i∧i < 5):DegP (pkV frL i):=by
 rcases (show i=0∨i=1∨i=2∨i=3∨i=4 by omega) with rfl | rfl | rfl | rfl | rfl
 ·exact aU6
 ·exact aU6
 ·exact aU6
 ·exact aU6
 ·exact aXX
theorem aQP {n:Int} {xs:LL} {p:Int} (hc:ChsP xs p):ChsP xs (st5 xs p n):=by
 have b1:=iW hc (n:=4) (by decide)
 have m1:0≤pkV stm (nxV xs p 4)∧pkV stm (nxV xs p 4)≤1000000:=aKb (by decide) (by decide) (by decide) (by decide) b1
 have w1:=kH (n:=(aT nrm n).length) (dF hc 4) m1.1
 have k2:=dF w1.2.2 4
 have b3:=iW k2 (n:=3) (by decide)
 have m3:0≤pkV sto (nxV xs (st3 xs p n) 3)∧pkV sto (nxV xs (st3 xs p n) 3)≤90000:=aRq (by decide) (by decide) (by decide) b3
 exact (kH (n:=(ndN n:Int)) (dF k2 3) m3.1).2.2
theorem aX0 {b:Bool} {A B:Prop} (h:b=false) (k:B):cond b A B:=by subst h; exact k
theorem aAm {n a b c:Int} {xd xf:List Int} (v:AmoP n a b c (aP xd) (aP xf)) (e:sE n a b c xd xf=0):sN n a b c xd xf=n∧sD n a b c xd xf=aP (mvZ n (sAm n a b c xd xf) xd)∧sF n a b c xd xf=aP (acZ n a b xd xf)∧sB n a b c xd xf=aP (amZ n c xd (acZ n a b xd xf)).2∧VStP n (aP (mvZ n (sAm n a b c xd xf) xd)) (aP (acZ n a b xd xf)):=by
 have hb:mvB n (sAm n a b c xd xf) xd=false:=by
  cases h:mvB n (sAm n a b c xd xf) xd with
  | false=>rfl
  | true =>
   unfold sE mvE at e
   rw [if_pos h] at e
   cases e
 obtain ⟨ld,lf,bd,bf⟩:=v.v.facts
 rw [aS] at ld
 have en:=(pR v.v.gp).1
 refine ⟨?_,?_,?_,?_,v.v.gp,by rw [aS],by rw [aS],?_⟩
 ·unfold sN mvN; rw [hb]; rfl
 ·unfold sD mvD; rw [hb]; rfl
 ·unfold sF mvF; rw [hb]; rfl
 ·unfold sB; rw [hb]; rfl
 ·rw [aS,aS]
  unfold aAn
  have l1:(mvZ n (sAm n a b c xd xf) xd).length=ndN n:=by unfold mvZ; rw [mR,ld]
  rw [decide_eq_true (by omega),decide_eq_true (by unfold acZ; rw [kY]),show outB 0 16777216 (mvZ n (sAm n a b c xd xf) xd)=false from hb,show outB (-16777216) 16777216 (acZ n a b xd xf)=false from kS (aIR _ _ _ _ _)]; rfl
theorem aQY (n a b c:Int) (xd xf:List Int):sE n a b c xd xf=0∨sE n a b c xd xf=7:=by
 unfold sE mvE
 split
 ·exact .inr rfl
 ·exact .inl rfl
theorem aVE {n:Int} {ds fs:List Int} (g:GrdP nrm n) (h:cU n ds fs=0):VStP n (aP ds) (aP fs):=by
 refine ⟨g,by rw [aS],by rw [aS],?_⟩
 rw [aS,aS]
 unfold cU at h
 split at h
 ·assumption
 ·cases h
theorem aTD {n B C:Int} {xs ys xf yf:List Int} (h1:ChP n B (aP xs) (aP xf)) (h2:ChP n C (aP ys) (aP yf)) (hB:B≤72057594037927936) (hC:C≤72057594037927936) (hi:(aT nrm n).length≤120):DotP (aP xs) (aP ys)∧DotP (aP xf) (aP yf):=by
 have a1:=h1.ld
 have a2:=h1.lf
 have a3:=h1.bd
 have a4:=h1.bf
 have c1:=h2.ld
 have c2:=h2.lf
 have c3:=h2.bd
 have c4:=h2.bf
 have hN:=fF h1.gp
 have hE:=(bY h1.gp.bq).2
 rw [aS] at a1 a2 a3 a4 c1 c2 c3 c4
 refine ⟨⟨by rw [aS],by rw [aS],by rw [aR,aR,a1,c1],by rw [aR]; omega,?_,?_⟩,⟨by rw [aS],by rw [aS],by rw [aR,aR,a2,c2],by rw [aR]; omega,?_,?_⟩⟩ <;> rw [aS]
 ·exact λ z hz=>by have:=a3 z hz; omega
 ·exact λ z hz=>by have:=c3 z hz; omega
 ·exact λ z hz=>by have:=a4 z hz; omega
 ·exact λ z hz=>by have:=c4 z hz; omega
theorem aLA {s:Int} {ds hd:List Int} (h:ds.length=hd.length) (j:Nat):(shL s ds hd).getD j 0=ds.getD j 0+s*hd.getD j 0:=by
 unfold shL
 by_cases q:j < ds.length
 ·rw [dU _ q]; rfl
 ·have e1:(mk (shV s ds hd) ds.length).getD j 0=0:=by rw [aB,List.getElem?_eq_none (by rw [bU]; omega)]; rfl
  have e2:ds.getD j 0=0:=by rw [aB,List.getElem?_eq_none (by omega)]; rfl
  have e3:hd.getD j 0=0:=by rw [aB,List.getElem?_eq_none (by omega)]; rfl
  rw [e1,e2,e3]; simp
theorem aPE {n a b c:Int} {xd xf zd zf hd hf:List Int} (dg:DegP n) (v:AmoP n a b c (aP xd) (aP xf)) (vz:VStP n (aP zd) (aP zf)) (h:ChP n 29 (aP hd) (aP hf)) (ed:zd=shL (scZ a b c) xd hd) (ef:zf=shL (scZ a b c) xf hf)
  (hp:∀ k,k < (aT nrm n).length->(amZ n c xd (acZ n a b xd xf)).2.getD k 0=(amZ n c zd (acZ n a b zd zf)).2.getD k 0)
  (hF:∀ k,k < (aT nrm n).length->(-16777216 < (acZ n a b xd xf).getD k 0∧(acZ n a b xd xf).getD k 0 < 16777216)∧-16777216 < (acZ n a b zd zf).getD k 0∧(acZ n a b zd zf).getD k 0 < 16777216) :
  (∀ k,k < ndN n->(mvZ n (sAm n a b c zd zf) zd).getD k 0=(mvZ n (sAm n a b c xd xf) xd).getD k 0+(taD n a b c (amZ n c xd (acZ n a b xd xf)).2 hd hf).getD k 0)∧∀ k,k < (aT nrm n).length->(acZ n a b zd zf).getD k 0=(acZ n a b xd xf).getD k 0+(taG n a b c hd hf).getD k 0:=by
 obtain ⟨ld,lf,bd,bf⟩:=v.v.facts
 obtain ⟨ld',lf',bd',bf'⟩:=vz.facts
 have hl:=h.ld
 have hlf:=h.lf
 rw [aS] at ld lf bd bf ld' lf' bd' bf' hl hlf
 have hS:ShfP n a b c xd xf zd zf hd hf (amZ n c xd (acZ n a b xd xf)).2:=by
  refine ⟨v.v.gp,v.sc,dg,ld,ld',hl,λ j=>(aLg bd j).1,λ j=>(aLg bd' j).1,λ j=>?_,λ k=>?_,λ k hk=>(hF k hk).1,λ k hk=>(hF k hk).2⟩
  ·rw [ed]
   exact aLA (by omega) j
  ·rw [ef]
   exact aLA (by omega) k
 exact ⟨λ k hk=>aK0 hS (λ k hk=>⟨rfl,(hp k hk).symm⟩) k,λ k hk=>aHr hS hk⟩
def aGF:Sp
 | [.sl 1 false xs]=>some (BytL xs,.bool true)
 | _=>none
abbrev cV (xs:LL):=(pkV frL (YtgbbmadjdaphnaaGreatDoor.nxV (List.take 600 xs) 0 5))
abbrev pY (nxA:LL->Int->Int->Int) (xs:LL):=(nxA (List.take 600 xs) (nxA (List.take 600 xs) (nxA (List.take 600 xs) (st5 (List.take 600 xs) (YtgbbmadjdaphnaaGreatDoor.nxA (List.take 600 xs) 0 5) (cV xs)) 4) 4) 4)
abbrev kR (xs:LL):=(YtgbbmadjdaphnaaGreatDoor.nxA (List.take 600 xs) 0 5)
abbrev aA5 (x2:AdX):=(cY (aQ (aP x2.hd)) (aQ (aP (a2D x2.n x2.a x2.b x2.c (aQ (aP x2.b1)) (aQ (aP x2.b2)) (aQ (aP x2.gd)) (aQ (aP x2.gf)))))+cY (aQ (aP x2.hf)) (aQ (aP (a2G x2.n x2.a x2.b x2.c (aQ (aP x2.b1)) (aQ (aP x2.b2)) (aQ (aP x2.gd)) (aQ (aP x2.gf))))))
abbrev aA4 (x2:AdX):=(cY (aQ (aP (t2D x2.n x2.a x2.b x2.c (aQ (aP x2.b1)) (aQ (aP x2.b2)) (aQ (aP x2.hd)) (aQ (aP x2.hf))))) (aQ (aP x2.gd))+cY (aQ (aP (t2G x2.n x2.a x2.b x2.c (aQ (aP x2.b1)) (aQ (aP x2.hd)) (aQ (aP x2.hf))))) (aQ (aP x2.gf)))
abbrev aA3 (x1:AdX):=(sB (sN x1.n x1.a x1.b x1.c (aQ (aP x1.xd)) (aQ (aP x1.xf))) x1.a x1.b x1.c (aQ (sD x1.n x1.a x1.b x1.c (aQ (aP x1.xd)) (aQ (aP x1.xf)))) (aQ (sF x1.n x1.a x1.b x1.c (aQ (aP x1.xd)) (aQ (aP x1.xf)))))
abbrev vP (xs:LL) (nxA:LL->Int->Int->Int):=(vcA (List.take 600 xs) (vcA (List.take 600 xs) (pY nxA xs) (↑(ndN (cV xs)):Int) 20) (↑(aT nrm (cV xs)).length:Int) 20)
abbrev pX (xs:LL):=(st5 (List.take 600 xs) (kR xs) (cV xs))
abbrev vO (x1:AdX):=(sN x1.n x1.a x1.b x1.c (aQ (aP x1.xd)) (aQ (aP x1.xf)))
abbrev oQ (x1:AdX):=(sD x1.n x1.a x1.b x1.c (aQ (aP x1.xd)) (aQ (aP x1.xf)))
abbrev oP (x1:AdX):=(sF x1.n x1.a x1.b x1.c (aQ (aP x1.xd)) (aQ (aP x1.xf)))
def aA2 (nxV:LL->Int->Int->Int) (nxA:LL->Int->Int->Int) (wH:Int->Int) (wL:Int->Int) (adZ:Int->Int->Int->Int->Int):Prop :=
 ∀ (xs:LL),BytL xs->True->True∧ChsP (List.take 600 xs) 0∧(FrQ (cV xs)∧ChsP (List.take 600 xs) (kR xs))∧ChsP (List.take 600 xs) (pX xs)∧(FrQ (cV xs)∧ChsP (List.take 600 xs) (pY nxA xs)∧(0:Int)≤(20:Int)∧(20:Int)≤(1000:Int))∧(FrQ (cV xs)∧ChsP (List.take 600 xs) (vP xs nxA)∧(0:Int)≤(20:Int)∧(20:Int)≤(1000:Int))∧(∃ x,Adj7 x∧(pkV frL (YtgbbmadjdaphnaaGreatDoor.nxV (List.take 600 xs) 0 5)=x.n∧(0:Nat)=(0:Nat)∧(0:Nat)=(0:Nat)∧(0:Nat)=(0:Nat)∧(0:Nat)=(0:Nat)∧True∧(0:Nat)=(0:Nat)∧True)∧(pkV frL (YtgbbmadjdaphnaaGreatDoor.nxV (List.take 600 xs) 0 5)=x.n∧(True∧aP (stD (List.take 600 xs) (kR xs) (cV xs))=aP x.xd)∧(True∧aP (stF (List.take 600 xs) (kR xs) (cV xs))=aP x.xf)∧True)∧((1:Int)+nxV (List.take 600 xs) (pX xs) 4=x.a∧(1:Int)+nxV (List.take 600 xs) (nxA (List.take 600 xs) (pX xs) 4) 4=x.b∧(1:Int)+nxV (List.take 600 xs) (nxA (List.take 600 xs) (nxA (List.take 600 xs) (pX xs) 4) 4) 4=x.c∧True)∧((True∧aP (vcL (List.take 600 xs) (pY nxA xs) (↑(ndN (cV xs)):Int) 20)=aP x.gd)∧(True∧aP (vcL (List.take 600 xs) (vcA (List.take 600 xs) (pY nxA xs) (↑(ndN (cV xs)):Int) 20) (↑(aT nrm (cV xs)).length:Int) 20)=aP x.gf)∧True)∧((True∧aP (vcL (List.take 600 xs) (vP xs nxA) (↑(ndN (cV xs)):Int) 20)=aP x.hd)∧(True∧aP (vcL (List.take 600 xs) (vcA (List.take 600 xs) (vP xs nxA) (↑(ndN (cV xs)):Int) 20) (↑(aT nrm (cV xs)).length:Int) 20)=aP x.hf)∧True)∧(pkV frL (YtgbbmadjdaphnaaGreatDoor.nxV (List.take 600 xs) 0 5)=x.n∧(True∧aP (stD (List.take 600 xs) (kR xs) (cV xs))=aP x.xd)∧(True∧aP (stF (List.take 600 xs) (kR xs) (cV xs))=aP x.xf)∧True)∧True)∧∀ (x1:AdX),Adj7 x1->(AmoP x1.n x1.a x1.b x1.c (aP x1.xd) (aP x1.xf)∧bif decide ¬sE x1.n x1.a x1.b x1.c (aQ (aP x1.xd)) (aQ (aP x1.xf))=(0:Int) then bif decide (sE x1.n x1.a x1.b x1.c (aQ (aP x1.xd)) (aQ (aP x1.xf))=(7:Int)) then True∧true=true else false=true else AmoP (vO x1) x1.a x1.b x1.c (oQ x1) (oP x1)∧bif decide ¬sE (vO x1) x1.a x1.b x1.c (aQ (oQ x1)) (aQ (oP x1))=(0:Int) then bif decide (sE (vO x1) x1.a x1.b x1.c (aQ (oQ x1)) (aQ (oP x1))=(7:Int)) then True∧true=true else false=true else ∃ x_1,Adj14 x_1∧(x1.n=x_1.n∧(0:Nat)=(0:Nat)∧(0:Nat)=(0:Nat)∧(0:Nat)=(0:Nat)∧(0:Nat)=(0:Nat)∧([]++[[AV.sl 1 false (sB x1.n x1.a x1.b x1.c (aQ (aP x1.xd)) (aQ (aP x1.xf)))]]++[[AV.sl 1 false (aA3 x1)]]).length=(2:Nat)∧True)∧(x1.n=x_1.n∧(True∧aP x1.xd=aP x_1.xd)∧(True∧aP x1.xf=aP x_1.xf)∧True)∧(x1.a=x_1.a∧x1.b=x_1.b∧x1.c=x_1.c∧True)∧((True∧aP x1.gd=aP x_1.gd)∧(True∧aP x1.gf=aP x_1.gf)∧True)∧((True∧aP x1.hd=aP x_1.hd)∧(True∧aP x1.hf=aP x_1.hf)∧True)∧[]++[[AV.sl 1 false (sB x1.n x1.a x1.b x1.c (aQ (aP x1.xd)) (aQ (aP x1.xf)))]]++[[AV.sl 1 false (aA3 x1)]]=[[AV.sl 1 false (aP x_1.b1)],[AV.sl 1 false (aP x_1.b2)]]∧True)∧∀ (x2:AdX),Adj14 x2->TwoP x2.n x2.a x2.b x2.c (aP x2.b1) (aP x2.b2) (aP x2.hd) (aP x2.hf)∧TwoP x2.n x2.a x2.b x2.c (aP x2.b1) (aP x2.b2) (aP x2.gd) (aP x2.gf)∧(DotP (aP (t2D x2.n x2.a x2.b x2.c (aQ (aP x2.b1)) (aQ (aP x2.b2)) (aQ (aP x2.hd)) (aQ (aP x2.hf)))) (aP x2.gd)∧DotP (aP (t2G x2.n x2.a x2.b x2.c (aQ (aP x2.b1)) (aQ (aP x2.hd)) (aQ (aP x2.hf)))) (aP x2.gf))∧(DotP (aP x2.hd) (aP (a2D x2.n x2.a x2.b x2.c (aQ (aP x2.b1)) (aQ (aP x2.b2)) (aQ (aP x2.gd)) (aQ (aP x2.gf))))∧DotP (aP x2.hf) (aP (a2G x2.n x2.a x2.b x2.c (aQ (aP x2.b1)) (aQ (aP x2.b2)) (aQ (aP x2.gd)) (aQ (aP x2.gf)))))∧bif !(decide (wH (aA4 x2)=wH (aA5 x2))&&(decide (wL (aA4 x2)=wL (aA5 x2))&&true)) then false=true else cG x2.a x2.b x2.c=(0:Int)∧ShiP x2.n (scZ x2.a x2.b x2.c) (aP x2.xd) (aP x2.xf) (aP x2.hd) (aP x2.hf)∧(bif decide ¬shE x2.n (scZ x2.a x2.b x2.c) (aQ (aP x2.xd)) (aQ (aP x2.xf)) (aQ (aP x2.hd)) (aQ (aP x2.hf))=(0:Int) then True∧true=true else ∃ x_1,Adj24 x_1∧(x2.n=x_1.x.n∧(0:Nat)=(0:Nat)∧(0:Nat)=(0:Nat)∧(0:Nat)=(0:Nat)∧((2:Nat)=[[AV.sl 1 false (aP x2.b1)],[AV.sl 1 false (aP x2.b2)]].length∧[[AV.sl 1 false (aP x2.b1)],[AV.sl 1 false (aP x2.b2)]]=[[AV.sl 1 false (aP x_1.x.b1)],[AV.sl 1 false (aP x_1.x.b2)]])∧(0:Nat)=(0:Nat)∧True)∧(x2.n=x_1.x.n∧(True∧aP x2.xd=aP x_1.x.xd)∧(True∧aP x2.xf=aP x_1.x.xf)∧True)∧(x2.a=x_1.x.a∧x2.b=x_1.x.b∧x2.c=x_1.x.c∧True)∧((True∧aP x2.hd=aP x_1.x.hd)∧(True∧aP x2.hf=aP x_1.x.hf)∧True)∧(shN x2.n (scZ x2.a x2.b x2.c) (aQ (aP x2.xd)) (aQ (aP x2.xf)) (aQ (aP x2.hd)) (aQ (aP x2.hf))=x_1.x.n∧(True∧shD x2.n (scZ x2.a x2.b x2.c) (aQ (aP x2.xd)) (aQ (aP x2.xf)) (aQ (aP x2.hd)) (aQ (aP x2.hf))=aP x_1.zd)∧(True∧shF x2.n (scZ x2.a x2.b x2.c) (aQ (aP x2.xd)) (aQ (aP x2.xf)) (aQ (aP x2.hd)) (aQ (aP x2.hf))=aP x_1.zf)∧True)∧True)∧∀ (x3:AdY),Adj24 x3->AmoP x3.x.n x3.x.a x3.x.b x3.x.c (aP x3.x.xd) (aP x3.x.xf)∧AmoP x3.x.n x3.x.a x3.x.b x3.x.c (aP x3.zd) (aP x3.zf)∧(cG x3.x.a x3.x.b x3.x.c=(0:Int)∧ChP x3.x.n 10000000000 (aP x3.x.hd) (aP x3.x.hf)∧BrP x3.x.n (aP x3.x.b1))∧(bif decide ¬sE x3.x.n x3.x.a x3.x.b x3.x.c (aQ (aP x3.x.xd)) (aQ (aP x3.x.xf))=(0:Int) then bif decide (sE x3.x.n x3.x.a x3.x.b x3.x.c (aQ (aP x3.x.xd)) (aQ (aP x3.x.xf))=(0:Int)) then True∧true=true else false=true else bif decide ¬sE x3.x.n x3.x.a x3.x.b x3.x.c (aQ (aP x3.zd)) (aQ (aP x3.zf))=(0:Int) then bif decide (sE x3.x.n x3.x.a x3.x.b x3.x.c (aQ (aP x3.x.xd)) (aQ (aP x3.x.xf))=(0:Int)) then True∧true=true else false=true else ∃ x_1,Adj29 x_1∧((0:Nat)=(0:Nat)∧(True∧sB x3.x.n x3.x.a x3.x.b x3.x.c (aQ (aP x3.x.xd)) (aQ (aP x3.x.xf))=aP x_1.p)∧(0:Nat)=(0:Nat)∧(True∧sB x3.x.n x3.x.a x3.x.b x3.x.c (aQ (aP x3.zd)) (aQ (aP x3.zf))=aP x_1.r)∧(0:Nat)=(0:Nat)∧True)∧(sN x3.x.n x3.x.a x3.x.b x3.x.c (aQ (aP x3.x.xd)) (aQ (aP x3.x.xf))=x_1.n∧(True∧sD x3.x.n x3.x.a x3.x.b x3.x.c (aQ (aP x3.x.xd)) (aQ (aP x3.x.xf))=aP x_1.ad)∧(True∧sF x3.x.n x3.x.a x3.x.b x3.x.c (aQ (aP x3.x.xd)) (aQ (aP x3.x.xf))=aP x_1.af)∧True)∧(sN x3.x.n x3.x.a x3.x.b x3.x.c (aQ (aP x3.zd)) (aQ (aP x3.zf))=x_1.n∧(True∧sD x3.x.n x3.x.a x3.x.b x3.x.c (aQ (aP x3.zd)) (aQ (aP x3.zf))=aP x_1.bd)∧(True∧sF x3.x.n x3.x.a x3.x.b x3.x.c (aQ (aP x3.zd)) (aQ (aP x3.zf))=aP x_1.bf)∧True)∧((True∧aP (taD x3.x.n x3.x.a x3.x.b x3.x.c (aQ (aP x3.x.b1)) (aQ (aP x3.x.hd)) (aQ (aP x3.x.hf)))=aP x_1.wd)∧(True∧aP (taG x3.x.n x3.x.a x3.x.b x3.x.c (aQ (aP x3.x.hd)) (aQ (aP x3.x.hf)))=aP x_1.wf)∧True)∧True)∧∀ (x4:AdZ),Adj29 x4->bif decide ¬(↑(aP x4.p).length:Int)=(↑(aP x4.r).length:Int) then false=true else bif decide ¬(↑(aP x4.ad).length:Int)=(↑(aP x4.wd).length:Int) then false=true else bif decide ¬(↑(aP x4.af).length:Int)=(↑(aP x4.wf).length:Int) then false=true else bif decide ¬(↑(aP x4.bd).length:Int)=(↑(aP x4.wd).length:Int) then false=true else bif decide ¬(↑(aP x4.bf).length:Int)=(↑(aP x4.wf).length:Int) then false=true else (∃ x_1,Adj32 x_1∧((0:Nat)=(0:Nat)∧(True∧aP x4.p=aP x_1.1.p)∧(0:Nat)=(0:Nat)∧(True∧aP x4.r=aP x_1.1.r)∧(0:Nat)=(0:Nat)∧(↑(aP x4.p).length:Int)=(↑x_1.1.p.length:Int)∧(0:Int)=x_1.2∧True)∧(x4.n=x_1.1.n∧(True∧aP x4.ad=aP x_1.1.ad)∧(True∧aP x4.af=aP x_1.1.af)∧True)∧(x4.n=x_1.1.n∧(True∧aP x4.bd=aP x_1.1.bd)∧(True∧aP x4.bf=aP x_1.1.bf)∧True)∧((True∧aP x4.wd=aP x_1.1.wd)∧(True∧aP x4.wf=aP x_1.1.wf)∧True)∧True)∧∀ (x5:AdZ × Int),Adj32 x5->bif decide (x5.2 < (↑x5.1.p.length:Int)) then bif decide (0≤x5.2∧x5.2 < (↑(aP x5.1.p).length:Int)) then ∃ n,List.take [I6 n].length ((aP x5.1.p).getD x5.2.toNat [])=[I6 n]∧bif decide (0≤x5.2∧x5.2 < (↑(aP x5.1.r).length:Int)) then ∃ n_1,List.take [I6 n_1].length ((aP x5.1.r).getD x5.2.toNat [])=[I6 n_1]∧bif decide ¬n=n_1 then True∧true=true else bif decide (rng IntKind.i64 (x5.2+(1:Int))) then ∃ y,Adj32 y∧aVg.m y < aVg.m x5∧((0:Nat)=(0:Nat)∧(True∧aP x5.1.p=aP y.1.p)∧(0:Nat)=(0:Nat)∧(True∧aP x5.1.r=aP y.1.r)∧(0:Nat)=(0:Nat)∧(↑x5.1.p.length:Int)=(↑y.1.p.length:Int)∧x5.2+(1:Int)=y.2∧True)∧(x5.1.n=y.1.n∧(True∧aP x5.1.ad=aP y.1.ad)∧(True∧aP x5.1.af=aP y.1.af)∧True)∧(x5.1.n=y.1.n∧(True∧aP x5.1.bd=aP y.1.bd)∧(True∧aP x5.1.bf=aP y.1.bf)∧True)∧((True∧aP x5.1.wd=aP y.1.wd)∧(True∧aP x5.1.wf=aP y.1.wf)∧True)∧True else False else False else False else (∃ x_1,Adj38 x_1∧((0:Nat)=(0:Nat)∧(0:Nat)=(0:Nat)∧(0:Nat)=(0:Nat)∧(↑(aP x5.1.af).length:Int)=(↑x_1.1.af.length:Int)∧(0:Int)=x_1.2∧True)∧(x5.1.n=x_1.1.n∧(True∧aP x5.1.ad=aP x_1.1.ad)∧(True∧aP x5.1.af=aP x_1.1.af)∧True)∧(x5.1.n=x_1.1.n∧(True∧aP x5.1.bd=aP x_1.1.bd)∧(True∧aP x5.1.bf=aP x_1.1.bf)∧True)∧((True∧aP x5.1.wd=aP x_1.1.wd)∧(True∧aP x5.1.wf=aP x_1.1.wf)∧True)∧True)∧∀ (x6:AdZ × Int),Adj38 x6->bif decide (x6.2 < (↑x6.1.af.length:Int)) then bif decide (0≤x6.2∧x6.2 < (↑(aP x6.1.af).length:Int)) then ∃ n,List.take [I6 n].length ((aP x6.1.af).getD x6.2.toNat [])=[I6 n]∧bif decide (0≤x6.2∧x6.2 < (↑(aP x6.1.af).length:Int)) then ∃ n_1,List.take [I6 n_1].length ((aP x6.1.af).getD x6.2.toNat [])=[I6 n_1]∧bif decide (rng IntKind.i64 ((0:Int) - n_1)) then bif decide (0≤x6.2∧x6.2 < (↑(aP x6.1.bf).length:Int)) then ∃ n_2,List.take [I6 n_2].length ((aP x6.1.bf).getD x6.2.toNat [])=[I6 n_2]∧bif decide (0≤x6.2∧x6.2 < (↑(aP x6.1.bf).length:Int)) then ∃ n_3,List.take [I6 n_3].length ((aP x6.1.bf).getD x6.2.toNat [])=[I6 n_3]∧bif decide (rng IntKind.i64 ((0:Int) - n_3)) then bif decide (16777216≤max (max (max n ((0:Int) - n_1)) n_2) ((0:Int) - n_3)) then True∧true=true else bif decide (rng IntKind.i64 (x6.2+(1:Int))) then ∃ y,Adj38 y∧aVf.m y < aVf.m x6∧((0:Nat)=(0:Nat)∧(0:Nat)=(0:Nat)∧(0:Nat)=(0:Nat)∧(↑x6.1.af.length:Int)=(↑y.1.af.length:Int)∧x6.2+(1:Int)=y.2∧True)∧(x6.1.n=y.1.n∧(True∧aP x6.1.ad=aP y.1.ad)∧(True∧aP x6.1.af=aP y.1.af)∧True)∧(x6.1.n=y.1.n∧(True∧aP x6.1.bd=aP y.1.bd)∧(True∧aP x6.1.bf=aP y.1.bf)∧True)∧((True∧aP x6.1.wd=aP y.1.wd)∧(True∧aP x6.1.wf=aP y.1.wf)∧True)∧True else False else False else False else False else False else False else False else (∃ x_1,Adj44 x_1∧((0:Nat)=(0:Nat)∧(0:Nat)=(0:Nat)∧(0:Nat)=(0:Nat)∧(↑(aP x6.1.ad).length:Int)=(↑x_1.1.ad.length:Int)∧(0:Int)=x_1.2∧True)∧(x6.1.n=x_1.1.n∧(True∧aP x6.1.ad=aP x_1.1.ad)∧(True∧aP x6.1.af=aP x_1.1.af)∧True)∧(x6.1.n=x_1.1.n∧(True∧aP x6.1.bd=aP x_1.1.bd)∧(True∧aP x6.1.bf=aP x_1.1.bf)∧True)∧((True∧aP x6.1.wd=aP x_1.1.wd)∧(True∧aP x6.1.wf=aP x_1.1.wf)∧True)∧True)∧∀ (x7:AdZ × Int),Adj44 x7->bif decide (x7.2 < (↑x7.1.ad.length:Int)) then bif decide (0≤x7.2∧x7.2 < (↑(aP x7.1.bd).length:Int)) then ∃ n,List.take [I6 n].length ((aP x7.1.bd).getD x7.2.toNat [])=[I6 n]∧bif decide (0≤x7.2∧x7.2 < (↑(aP x7.1.ad).length:Int)) then ∃ n_1,List.take [I6 n_1].length ((aP x7.1.ad).getD x7.2.toNat [])=[I6 n_1]∧bif decide (0≤x7.2∧x7.2 < (↑(aP x7.1.wd).length:Int)) then ∃ n_2,List.take [I6 n_2].length ((aP x7.1.wd).getD x7.2.toNat [])=[I6 n_2]∧bif decide (rng IntKind.i64 (n_1+n_2)) then bif decide ¬n=n_1+n_2 then false=true else bif decide (rng IntKind.i64 (x7.2+(1:Int))) then ∃ y,Adj44 y∧aVe.m y < aVe.m x7∧((0:Nat)=(0:Nat)∧(0:Nat)=(0:Nat)∧(0:Nat)=(0:Nat)∧(↑x7.1.ad.length:Int)=(↑y.1.ad.length:Int)∧x7.2+(1:Int)=y.2∧True)∧(x7.1.n=y.1.n∧(True∧aP x7.1.ad=aP y.1.ad)∧(True∧aP x7.1.af=aP y.1.af)∧True)∧(x7.1.n=y.1.n∧(True∧aP x7.1.bd=aP y.1.bd)∧(True∧aP x7.1.bf=aP y.1.bf)∧True)∧((True∧aP x7.1.wd=aP y.1.wd)∧(True∧aP x7.1.wf=aP y.1.wf)∧True)∧True else False else False else False else False else False else (∃ x_1,Adj50 x_1∧((0:Nat)=(0:Nat)∧(0:Nat)=(0:Nat)∧(0:Nat)=(0:Nat)∧(↑(aP x7.1.af).length:Int)=(↑x_1.1.af.length:Int)∧(0:Int)=x_1.2∧True)∧(x7.1.n=x_1.1.n∧(True∧aP x7.1.ad=aP x_1.1.ad)∧(True∧aP x7.1.af=aP x_1.1.af)∧True)∧(x7.1.n=x_1.1.n∧(True∧aP x7.1.bd=aP x_1.1.bd)∧(True∧aP x7.1.bf=aP x_1.1.bf)∧True)∧((True∧aP x7.1.wd=aP x_1.1.wd)∧(True∧aP x7.1.wf=aP x_1.1.wf)∧True)∧True)∧∀ (x8:AdZ × Int),Adj50 x8->bif decide (x8.2 < (↑x8.1.af.length:Int)) then bif decide (0≤x8.2∧x8.2 < (↑(aP x8.1.bf).length:Int)) then ∃ n,List.take [I6 n].length ((aP x8.1.bf).getD x8.2.toNat [])=[I6 n]∧bif decide (0≤x8.2∧x8.2 < (↑(aP x8.1.af).length:Int)) then ∃ n_1,List.take [I6 n_1].length ((aP x8.1.af).getD x8.2.toNat [])=[I6 n_1]∧bif decide (0≤x8.2∧x8.2 < (↑(aP x8.1.wf).length:Int)) then ∃ n_2,List.take [I6 n_2].length ((aP x8.1.wf).getD x8.2.toNat [])=[I6 n_2]∧bif decide (rng IntKind.i64 (n_1+n_2)) then bif decide ¬n=n_1+n_2 then false=true else bif decide (rng IntKind.i64 (x8.2+(1:Int))) then ∃ y,Adj50 y∧aVd.m y < aVd.m x8∧((0:Nat)=(0:Nat)∧(0:Nat)=(0:Nat)∧(0:Nat)=(0:Nat)∧(↑x8.1.af.length:Int)=(↑y.1.af.length:Int)∧x8.2+(1:Int)=y.2∧True)∧(x8.1.n=y.1.n∧(True∧aP x8.1.ad=aP y.1.ad)∧(True∧aP x8.1.af=aP y.1.af)∧True)∧(x8.1.n=y.1.n∧(True∧aP x8.1.bd=aP y.1.bd)∧(True∧aP x8.1.bf=aP y.1.bf)∧True)∧((True∧aP x8.1.wd=aP y.1.wd)∧(True∧aP x8.1.wf=aP y.1.wf)∧True)∧True else False else False else False else False else False else True∧true=true
theorem aN6:aA2 nxV nxA wH wL adZ:=by
 unfold aA2
 delta cV pY kR aA5 aA4 aA3 vP pX vO oQ oP I6
 intro xs hx
 intros
 have c0:=aTY hx
 generalize List.take 600 xs=zs at *
 have fb:=iW c0 (n:=5) (by decide)
 have q0:=dF c0 5
 have fq:=aSQ fb
 have dg:=aWL fb
 generalize pkV frL (nxV zs 0 5)=n at *
 generalize nxA zs 0 5=p0 at *
 have s5:ChsP zs (st5 zs p0 n):=aQP q0
 have hst:=aVF fq q0
 have q1:=dF s5 4
 have q2:=dF q1 4
 have q3:=dF q2 4
 have hsc:=aQS s5 q1 q2
 generalize st5 zs p0 n=p1 at *
 generalize nxA zs (nxA zs (nxA zs p1 4) 4) 4=p3 at *
 generalize 1+nxV zs p1 4=a at *
 generalize 1+nxV zs (nxA zs p1 4) 4=b at *
 generalize 1+nxV zs (nxA zs (nxA zs p1 4) 4) 4=c at *
 generalize stD zs p0 n=xd at *
 generalize stF zs p0 n=xf at *
 have hg:=aTQ (m:=20) fq q3 (by decide)
 have w1:=kH (n:=(ndN n:Int)) (m:=20) q3 (by decide)
 have w2:=kH (n:=((aT nrm n).length:Int)) (m:=20) w1.2.2 (by decide)
 have q4:=w2.2.2
 generalize vcA zs (vcA zs p3 (↑(ndN n)) 20) (↑(aT nrm n).length) 20=p4 at q4 ⊢
 have hh:=aTQ (m:=20) fq q4 (by decide)
 refine ⟨trivial,c0,⟨fq,q0⟩,s5,⟨fq,q3,by decide,by decide⟩,⟨fq,q4,by decide,by decide⟩,⟨⟨n,a,b,c,xd,xf,_,_,_,_,[],[]⟩,⟨fq,dg,⟨hst,hsc⟩,hg,hh⟩,by repeat' first|exact trivial|exact rfl|assumption|apply And.intro,by repeat' first|exact trivial|exact rfl|assumption|apply And.intro,by repeat' first|exact trivial|exact rfl|assumption|apply And.intro,by repeat' first|exact trivial|exact rfl|assumption|apply And.intro,by repeat' first|exact trivial|exact rfl|assumption|apply And.intro,by repeat' first|exact trivial|exact rfl|assumption|apply And.intro,trivial⟩,?_⟩
 clear hh q4 w2 w1 hg hsc q3 q2 q1 hst s5 dg fq q0 fb c0 hx
 clear xd xf a b c p4 p3 p1 p0 n zs xs
 rintro ⟨n,a,b,c,xd,xf,gd,gf,hd,hf,b1,b2⟩ ⟨fq,dg,v,g,h⟩
 dsimp only at fq dg v g h ⊢
 repeat rw [aS]
 refine ⟨⟨v,csp (λ q=>cd1 ((aQY n a b c xd xf).resolve_left q) ⟨trivial,rfl⟩) (λ q=>?_)⟩,?_⟩
 ·have e1:=Classical.not_not.1 q
  obtain ⟨s1,s2,s3,s4,s6⟩:=aAm v e1
  have v2:AmoP n a b c (aP (mvZ n (sAm n a b c xd xf) xd)) (aP (acZ n a b xd xf)):=⟨s6,v.sc⟩
  have k1:=aTZ v (by rw [aS,aS]; exact e1)
  rw [aS,aS] at k1
  rw [s1,s2,s3]
  simp only [aS]
  refine ⟨v2,csp (λ q2=>cd1 ((aQY _ _ _ _ _ _).resolve_left q2) ⟨trivial,trivial⟩) (λ q2=>?_)⟩
  have k2:=aTZ v2 (by rw [aS,aS]; exact Classical.not_not.1 q2)
  rw [aS,aS] at k2
  refine ⟨⟨n,a,b,c,xd,xf,gd,gf,hd,hf,(amZ n c xd (acZ n a b xd xf)).2,aQ (sB n a b c (mvZ n (sAm n a b c xd xf) xd) (acZ n a b xd xf))⟩,⟨⟨fq,dg,v,g,h⟩,e1,rfl,by rw [← s4]; exact k1,by rw [← k2.be]; exact k2⟩,by repeat' first|exact trivial|exact rfl|assumption|apply And.intro,by repeat' first|exact trivial|exact rfl|assumption|apply And.intro,by repeat' first|exact trivial|exact rfl|assumption|apply And.intro,by repeat' first|exact trivial|exact rfl|assumption|apply And.intro,by repeat' first|exact trivial|exact rfl|assumption|apply And.intro,?_,trivial⟩
  rw [s4,← k2.be]; rfl
 clear v fq dg g h
 clear n a b c xd xf gd gf hd hf b1 b2
 rintro ⟨n,a,b,c,xd,xf,gd,gf,hd,hf,b1,b2⟩ ⟨⟨fq,dg,v,g,h⟩,e1,h1,k1,k2⟩
 dsimp only at fq dg v g h e1 h1 k1 k2 ⊢
 repeat rw [aS]
 have hth:=aJm (bs:=aP b1) (by decide) fq.hi v.sc h
 have hth2:=aJm (bs:=aP b2) (by decide) fq.hi v.sc hth
 have hag:=aPz (bs:=aP b2) (by decide) fq.hi v.sc g
 have hag2:=aPz (bs:=aP b1) (by decide) fq.hi v.sc hag
 simp only [aS] at hth hth2 hag hag2
 have d1:=aTD hth2 g (by decide) (by decide) fq.hi
 have d2:=aTD h hag2 (by decide) (by decide) fq.hi
 have ad:=aX6 (n:=n) (a:=a) (b:=b) (c:=c) (b1:=b1) (b2:=b2) (gd:=gd) (gf:=gf) (hd:=hd) (hf:=hf) v.v.gp v.sc (by have:=aG3 (by decide) k1.bb; rwa [aS] at this) (by have:=aG3 (by decide) k2.bb; rwa [aS] at this) (by have:=g.ld; rwa [aS] at this) (by have:=g.lf; rwa [aS] at this) (by have:=h.ld; rwa [aS] at this) (by have:=h.lf; rwa [aS] at this)
 have hsb:=pF v.sc
 refine ⟨⟨fq.hi,v.sc,h.mono (by decide),k1,k2⟩,⟨fq.hi,v.sc,g.mono (by decide),k1,k2⟩,d1,d2,?_⟩
 rw [ad]
 refine aX0 (by simp only [decide_true,Bool.and_self,Bool.not_true]) ?_
 refine ⟨v.sc,⟨v.v,h.mono (by decide),by omega,by omega,fq.lo⟩,csp (λ q=>⟨trivial,rfl⟩) (λ q=>?_),?_⟩
 ·have e:=Classical.not_not.1 q
  unfold shN shD shF
  rw [if_pos e,if_pos e,if_pos e]
  exact ⟨⟨⟨n,a,b,c,xd,xf,gd,gf,hd,hf,b1,b2⟩,_,_⟩,⟨⟨⟨fq,dg,v,g,h⟩,e1,h1,k1,k2⟩,aVE v.v.gp e,rfl,rfl⟩,by repeat' first|exact trivial|exact rfl|assumption|apply And.intro,by repeat' first|exact trivial|exact rfl|assumption|apply And.intro,by repeat' first|exact trivial|exact rfl|assumption|apply And.intro,by repeat' first|exact trivial|exact rfl|assumption|apply And.intro,by repeat' first|exact trivial|exact rfl|assumption|apply And.intro,trivial⟩
 clear d1 d2 ad hsb hth hth2 hag hag2 v fq dg g h e1 h1 k1 k2
 clear n a b c xd xf gd gf hd hf b1 b2
 rintro ⟨⟨n,a,b,c,xd,xf,gd,gf,hd,hf,b1,b2⟩,zd,zf⟩ ⟨⟨⟨fq,dg,v,g,h⟩,e1,h1,k1,k2⟩,vz,ed,ef⟩
 dsimp only at fq dg v g h e1 h1 k1 k2 vz ed ef ⊢
 repeat rw [aS]
 refine ⟨v,⟨vz,v.sc⟩,⟨v.sc,h.mono (by decide),k1⟩,cd0 (λ q=>q e1) (csp (λ q=>cd1 e1 ⟨trivial,rfl⟩) (λ q=>?_)),?_⟩
 ·have ez:=Classical.not_not.1 q
  obtain ⟨s1,s2,s3,s4,s6⟩:=aAm v e1
  obtain ⟨t1,t2,t3,t4,t6⟩:=aAm ⟨vz,v.sc⟩ ez
  rw [s1,s2,s3,s4,t1,t2,t3,t4]
  have hth:=aJm (bs:=aP b1) (by decide) fq.hi v.sc h
  obtain ⟨f1,f2,f3,f4⟩:=s6.facts
  obtain ⟨g1,g2,g3,g4⟩:=t6.facts
  have u1:=hth.ld
  have u2:=hth.lf
  have u3:=hth.bd
  have u4:=hth.bf
  have kl:=k1.lb
  have lr:=(nE (aT nrm n) zd (acZ n a b zd zf) (bN n) c (aT nrm n).length).2
  simp only [aS] at f1 f2 f3 f4 g1 g2 g3 g4 u1 u2 u3 u4 kl
  rw [h1] at kl u1 u3
  rw [h1]
  exact ⟨⟨n,(amZ n c xd (acZ n a b xd xf)).2,(amZ n c zd (acZ n a b zd zf)).2,mvZ n (sAm n a b c xd xf) xd,acZ n a b xd xf,mvZ n (sAm n a b c zd zf) zd,acZ n a b zd zf,taD n a b c (amZ n c xd (acZ n a b xd xf)).2 hd hf,taG n a b c hd hf⟩,⟨⟨fq,kl,lr,f1,f2,g1,g2,u1,u2,λ k=>by have:=aLg f3 k; dsimp only; omega,λ k=>by have:=pV f4 k (by decide); dsimp only; omega,λ k=>by have:=pV g4 k (by decide); dsimp only; omega,λ k=>by have:=pV u3 k (by decide); dsimp only; omega,λ k=>by have:=pV u4 k (by decide); dsimp only; omega⟩,λ hp hF=>aPE dg v vz h ed ef hp hF⟩,by repeat' first|exact trivial|exact rfl|assumption|apply And.intro,by repeat' first|exact trivial|exact rfl|assumption|apply And.intro,by repeat' first|exact trivial|exact rfl|assumption|apply And.intro,by repeat' first|exact trivial|exact rfl|assumption|apply And.intro,trivial⟩
 clear vz ed ef v fq dg g h e1 h1 k1 k2
 clear n a b c xd xf gd gf hd hf b1 b2 zd zf
 rintro ⟨n,p,r,ad,af,bd,bf,wd,wf⟩ ⟨L,key⟩
 obtain ⟨fq,lp,lr,lad,laf,lbd,lbf,lwd,lwf,ba,bb,bc,bdd,be⟩:=L
 dsimp only at fq lp lr lad laf lbd lbf lwd lwf ba bb bc bdd be key ⊢
 have hN:=fF fq.gp
 have hE:=fq.hi
 repeat rw [aR]
 refine cd0 (λ q=>q (by omega)) (cd0 (λ q=>q (by omega)) (cd0 (λ q=>q (by omega)) (cd0 (λ q=>q (by omega)) (cd0 (λ q=>q (by omega)) ⟨⟨(⟨n,p,r,ad,af,bd,bf,wd,wf⟩,0),⟨⟨⟨fq,lp,lr,lad,laf,lbd,lbf,lwd,lwf,ba,bb,bc,bdd,be⟩,key⟩,Int.le_refl _,by dsimp only; omega,λ k hk=>by dsimp only at hk; omega⟩,by repeat' first|exact trivial|exact rfl|assumption|apply And.intro,by repeat' first|exact trivial|exact rfl|assumption|apply And.intro,by repeat' first|exact trivial|exact rfl|assumption|apply And.intro,by repeat' first|exact trivial|exact rfl|assumption|apply And.intro,trivial⟩,?_⟩))))
 clear key ba bb bc bdd be hN hE fq lp lr lad laf lbd lbf lwd lwf
 clear n p r ad af bd bf wd wf
 rintro ⟨⟨n,p,r,ad,af,bd,bf,wd,wf⟩,x⟩ ⟨⟨L,key⟩,x0,x1,eq⟩
 have LL:=L
 obtain ⟨fq,lp,lr,lad,laf,lbd,lbf,lwd,lwf,ba,bb,bc,bdd,be⟩:=L
 dsimp only at fq lp lr lad laf lbd lbf lwd lwf ba bb bc bdd be key x0 x1 eq ⊢
 have hN:=fF fq.gp
 have hE:=fq.hi
 repeat rw [aR]
 refine csp (λ q=>?_) (λ q=>?_)
 ·refine cd1 ⟨x0,by omega⟩ ⟨p.getD x.toNat 0,by rw [cM (by omega)]; rfl,cd1 ⟨x0,by omega⟩ ⟨r.getD x.toNat 0,by rw [cM (by omega)]; rfl,csp (λ _=>⟨trivial,rfl⟩) (λ qe=>cdI (by omega) ⟨(⟨n,p,r,ad,af,bd,bf,wd,wf⟩,x+1),⟨⟨LL,key⟩,by dsimp only; omega,by dsimp only; omega,λ k hk=>?_⟩,by show (_:Nat) < _; simp only [aVg]; omega,by repeat' first|exact trivial|exact rfl|assumption|apply And.intro,by repeat' first|exact trivial|exact rfl|assumption|apply And.intro,by repeat' first|exact trivial|exact rfl|assumption|apply And.intro,by repeat' first|exact trivial|exact rfl|assumption|apply And.intro,trivial⟩)⟩⟩
  dsimp only at hk ⊢
  rcases (show (k:Int) < x∨k=x.toNat by omega) with hk | rfl
  ·exact eq k hk
  ·exact Classical.not_not.1 qe
 refine ⟨⟨(⟨n,p,r,ad,af,bd,bf,wd,wf⟩,0),⟨LL,key (λ k hk=>eq k (by omega)),Int.le_refl _,by dsimp only; omega,λ k hk=>by dsimp only at hk; omega⟩,by repeat' first|exact trivial|exact rfl|assumption|apply And.intro,by repeat' first|exact trivial|exact rfl|assumption|apply And.intro,by repeat' first|exact trivial|exact rfl|assumption|apply And.intro,by repeat' first|exact trivial|exact rfl|assumption|apply And.intro,trivial⟩,?_⟩
 clear q key eq x0 x1 LL ba bb bc bdd be hN hE fq lp lr lad laf lbd lbf lwd lwf
 clear n p r ad af bd bf wd wf x
 rintro ⟨⟨n,p,r,ad,af,bd,bf,wd,wf⟩,x⟩ ⟨L,key,x0,x1,eq⟩
 have LL:=L
 obtain ⟨fq,lp,lr,lad,laf,lbd,lbf,lwd,lwf,ba,bb,bc,bdd,be⟩:=L
 dsimp only at fq lp lr lad laf lbd lbf lwd lwf ba bb bc bdd be key x0 x1 eq ⊢
 have hN:=fF fq.gp
 have hE:=fq.hi
 repeat rw [aR]
 refine csp (λ q=>?_) (λ q=>?_)
 ·have b1:=bb x.toNat
  have b2:=bc x.toNat
  refine cd1 ⟨x0,by omega⟩ ⟨af.getD x.toNat 0,by rw [cM (by omega)]; rfl,cd1 ⟨x0,by omega⟩ ⟨af.getD x.toNat 0,by rw [cM (by omega)]; rfl,cdI (by omega) (cd1 ⟨x0,by omega⟩ ⟨bf.getD x.toNat 0,by rw [cM (by omega)]; rfl,cd1 ⟨x0,by omega⟩ ⟨bf.getD x.toNat 0,by rw [cM (by omega)]; rfl,cdI (by omega) (csp (λ _=>⟨trivial,rfl⟩) (λ qe=>cdI (by omega) ⟨(⟨n,p,r,ad,af,bd,bf,wd,wf⟩,x+1),⟨LL,key,by dsimp only; omega,by dsimp only; omega,λ k hk=>?_⟩,by show (_:Nat) < _; simp only [aVf]; omega,by repeat' first|exact trivial|exact rfl|assumption|apply And.intro,by repeat' first|exact trivial|exact rfl|assumption|apply And.intro,by repeat' first|exact trivial|exact rfl|assumption|apply And.intro,by repeat' first|exact trivial|exact rfl|assumption|apply And.intro,trivial⟩))⟩⟩)⟩⟩
  dsimp only at hk ⊢
  rcases (show (k:Int) < x∨k=x.toNat by omega) with hk | rfl
  ·exact eq k hk
  ·unfold AdF
   dsimp only
   omega
 refine ⟨⟨(⟨n,p,r,ad,af,bd,bf,wd,wf⟩,0),⟨LL,key (λ k hk=>eq k (by omega)),Int.le_refl _,by dsimp only; omega⟩,by repeat' first|exact trivial|exact rfl|assumption|apply And.intro,by repeat' first|exact trivial|exact rfl|assumption|apply And.intro,by repeat' first|exact trivial|exact rfl|assumption|apply And.intro,by repeat' first|exact trivial|exact rfl|assumption|apply And.intro,trivial⟩,?_⟩
 clear q key eq x0 x1 LL ba bb bc bdd be hN hE fq lp lr lad laf lbd lbf lwd lwf
 clear n p r ad af bd bf wd wf x
 rintro ⟨⟨n,p,r,ad,af,bd,bf,wd,wf⟩,x⟩ ⟨L,key,x0,x1⟩
 have LL:=L
 obtain ⟨fq,lp,lr,lad,laf,lbd,lbf,lwd,lwf,ba,bb,bc,bdd,be⟩:=L
 dsimp only at fq lp lr lad laf lbd lbf lwd lwf ba bb bc bdd be key x0 x1 ⊢
 have hN:=fF fq.gp
 have hE:=fq.hi
 repeat rw [aR]
 refine csp (λ q=>?_) (λ q=>?_)
 ·have b1:=ba x.toNat
  have b2:=bdd x.toNat
  exact cd1 ⟨x0,by omega⟩ ⟨bd.getD x.toNat 0,by rw [cM (by omega)]; rfl,cd1 ⟨x0,by omega⟩ ⟨ad.getD x.toNat 0,by rw [cM (by omega)]; rfl,cd1 ⟨x0,by omega⟩ ⟨wd.getD x.toNat 0,by rw [cM (by omega)]; rfl,cdI (by omega) (cd0 (λ q=>q (key.1 x.toNat (by dsimp only; omega))) (cdI (by omega) ⟨(⟨n,p,r,ad,af,bd,bf,wd,wf⟩,x+1),⟨LL,key,by dsimp only; omega,by dsimp only; omega⟩,by show (_:Nat) < _; simp only [aVe]; omega,by repeat' first|exact trivial|exact rfl|assumption|apply And.intro,by repeat' first|exact trivial|exact rfl|assumption|apply And.intro,by repeat' first|exact trivial|exact rfl|assumption|apply And.intro,by repeat' first|exact trivial|exact rfl|assumption|apply And.intro,trivial⟩))⟩⟩⟩
 refine ⟨⟨(⟨n,p,r,ad,af,bd,bf,wd,wf⟩,0),⟨LL,key,Int.le_refl _,by dsimp only; omega⟩,by repeat' first|exact trivial|exact rfl|assumption|apply And.intro,by repeat' first|exact trivial|exact rfl|assumption|apply And.intro,by repeat' first|exact trivial|exact rfl|assumption|apply And.intro,by repeat' first|exact trivial|exact rfl|assumption|apply And.intro,trivial⟩,?_⟩
 clear q key x0 x1 LL ba bb bc bdd be hN hE fq lp lr lad laf lbd lbf lwd lwf
 clear n p r ad af bd bf wd wf x
 rintro ⟨⟨n,p,r,ad,af,bd,bf,wd,wf⟩,x⟩ ⟨L,key,x0,x1⟩
 have LL:=L
 obtain ⟨fq,lp,lr,lad,laf,lbd,lbf,lwd,lwf,ba,bb,bc,bdd,be⟩:=L
 dsimp only at fq lp lr lad laf lbd lbf lwd lwf ba bb bc bdd be key x0 x1 ⊢
 have hN:=fF fq.gp
 have hE:=fq.hi
 repeat rw [aR]
 refine csp (λ q=>?_) (λ q=>⟨trivial,rfl⟩)
 have b1:=bb x.toNat
 have b2:=be x.toNat
 exact cd1 ⟨x0,by omega⟩ ⟨bf.getD x.toNat 0,by rw [cM (by omega)]; rfl,cd1 ⟨x0,by omega⟩ ⟨af.getD x.toNat 0,by rw [cM (by omega)]; rfl,cd1 ⟨x0,by omega⟩ ⟨wf.getD x.toNat 0,by rw [cM (by omega)]; rfl,cdI (by omega) (cd0 (λ q=>q (key.2 x.toNat (by dsimp only; omega))) (cdI (by omega) ⟨(⟨n,p,r,ad,af,bd,bf,wd,wf⟩,x+1),⟨LL,key,by dsimp only; omega,by dsimp only; omega⟩,by show (_:Nat) < _; simp only [aVd]; omega,by repeat' first|exact trivial|exact rfl|assumption|apply And.intro,by repeat' first|exact trivial|exact rfl|assumption|apply And.intro,by repeat' first|exact trivial|exact rfl|assumption|apply And.intro,by repeat' first|exact trivial|exact rfl|assumption|apply And.intro,trivial⟩))⟩⟩⟩
theorem aN5 (nxV:LL->Int->Int->Int) (nxA:LL->Int->Int->Int) (wH:Int->Int) (wL:Int->Int) (adZ:Int->Int->Int->Int->Int):aA2 nxV nxA wH wL adZ=(∀ (xs:LL),BytL xs->fnK Tryz.prog { glob:=glb,spec:=lk [(20,vE),(21,aIj),(24,aEK),(28,aIK),(25,(aEH wH wL adZ)),(26,xH),(29,aEz),(30,aCg)],specH:=lk [(16,aH7),(27,aBK),(17,wR),(18,(aBF nxV nxA)),(19,aIc)],shape:=[239,240,243,244,257,258,262,263,268,269,273,274,289,290,294,295,299,300,313,314,318,319,323,324],nowf:=true } { nt:=329,drop:=drp [(1,1649267441664),(2,6597069766656),(3,272678883688448),(4,17732923532771328),(6,18014398509481984),(8,36028797018963968),(9,432345564227567616),(10,73210515542534782976),(11,73786976294838206464),(12,9149585060559937601536),(13,292786721937918003249152),(14,77069021000432609887518720),(15,19729669376110748131204792320),(16,1247843559599663317098317217792),(17,79861987814378452294292301938688),(18,21267566802920239359779217175480369152),(20,1318594171818636545920576603798101819392),(21,172863442395836739439394300575338251419648),(22,5400961727769135292090681769157025052229632),(23,345661550577224658693803633226049603342696448),(24,45315114243414226223600579530021470580152205312),(25,5800334623157020956620874179842748234259482279936),(26,5980464699958054741289478335475030116432075965857792),(27,3059004771025270338363731761225812471988967544671174656),(28,3132420885529876826484461323495231971316702765743282847744),(29,3450873173392143342849684590756594831513950652877142099859030094643200),(31,6901746346790563787434755862277025452451108972170386555162524223799296),(33,110427941548649020598956093796432407239217743554726184882600387580788736),(34,56318250189811000505467607836180527692001049212910354290126197666202255360),(35,113078212145816597093331040047546785012958969400039613319782796882727665664),(36,226156424291633194186662080095093570025917938800079226639565593765455331328),(37,1356938545749799165119972480570561420155507632800475359837393562592731987968),(39,14474011154664524427946373126085988481658748083205070504932198000989141204992),(40,242833582580193824535883882460193611158323891564021273746335541352967033672368652288),(41,485667223056432267729865476705879726660601709763034880312953102434726071301302124544),(42,971334446112864535459730953411759453321203419526069760625906204869452142602604249088),(43,5828006676677187212758385720470556719927220517156418563755437229216712855615625494528),(45,62165404551223330269422781018352605012557018849668464680057997111644937126566671941632),(46,8148019574528841898413243908075475938995848460626045665615201681423301909179093691389706240),(48,16296287810675888690147565507275025288411747149327490005089123594835050398106693649467179008),(49,97777726864055332140885393043650151730470482895964940030534741569010302388640161896803074048),(51,1042962419883256876169444192465601618458351817556959360325703910069443225478828393565899456512),(52,136701084374098478759529050306466404131336172727190663357890011492801923563510037544682441765027840),(54,273406340597876490546562778389702670669146178861651554553221325801244124899921990402939147127881728),(55,546812681195752981093125556779405341338292357723303109106442651602488249799843980805878294255763456)],tys:=[69],frz:=λ id=>cond (Nat.beq id 14) [1000900] [],emp:=λ id=>cond (Nat.beq id 7) [(9,900,60,1)] [] } (vS [(100007,ad7),(100014,aX9),(100024,aX8),(100029,aX7),(32,aVg),(38,aVf),(44,aVe),(50,aVd)]) 6 Tryz.f5 [.sl 1 false xs] (.bool true)):=by kernel_rfl
def aN4:=Eq.mp (aN5 ..) (aN6)
theorem ltadj_ok:SOK Tryz.prog glb 5 aGF:=by
 refine ⟨fok Tryz.func5 (by kernel_rfl) (by kernel_rfl),?_⟩
 intro xs pre r h hp
 unfold aGF at h
 split at h
 ·cases h
  exact aU (aPP (by kernel_rfl)) (by exact aV rfl rfl ⟨(aCF),(aPp),(aMv),(aPI),(aMu glb),(aAg glb),(aMp),(aEQ),trivial⟩ ⟨(aO9 glb),(aK7 glb),(aH3 glb),(aK5 glb),(aPo glb),trivial⟩) (by kernel_rfl) Tryz.func5 rfl (aN4  _ hp)
 ·cases h
open Go.ChangeShapes Go.WideShapes
open Go.RowKit (Below)
def pinAll (w:World):Pin:=λ b o=>match w.cell? ⟨b,o,none⟩ with | some v=>cond v.oneCell' (some v) none | none=>none
theorem pM {w:World} {b o:Nat} {v:Value} (h:w.cell? ⟨b,o,none⟩=some v) (k:v.oneCell'=true):pinAll w b o=some v:=by simp [pinAll,h,k]
theorem aIx (w:World):eB (pinAll w) w:=by
 intro b o v h
 unfold pinAll at h
 split at h
 ·next u e =>
  cases hk:u.oneCell' with
  | true=>rw [hk] at h; simp only [cond_true,aJ] at h; subst h; exact ⟨e,hk⟩
  | false=>rw [hk] at h; cases h
 ·cases h
def uB (P:Program):List Field->Nat->Nat->Bool
 | [],o,n=>Nat.beq o n
 | f::fs,o,n=>Nat.beq f.offset o&&uB P fs (o+P.cellsOf f.type) n
def aEV (P:Program):Nat->TypeId->Bool
 | 0,_=>false
 | n+1,t=>match P.underlying t with
  | some .bool=>true
  | some (.int _)=>true
  | some .string=>true
  | some (.slice e)=>Nat.blt 0 (P.cellsOf e)&&aEV P n e
  | some (.struct fs)=>uB P fs.toList 0 (P.cellsOf t)&&fs.toList.all λ f=>aEV P n f.type
  | some (.array m e)=>Nat.beq (m*P.cellsOf e) (P.cellsOf t)&&aEV P n e
  | _=>false
def ShF (P:Program) (sh:TypeId->List AV->Prop):List Field->List AV->Prop
 | [],cs=>cs=[]
 | f::fs,cs=>∃ ys zs,sh f.type ys∧ShF P sh fs zs∧cs=ys++zs
def ShE (sh:List AV->Prop):Nat->List AV->Prop
 | 0,cs=>cs=[]
 | n+1,cs=>∃ ys zs,sh ys∧ShE sh n zs∧cs=ys++zs
def Sh (P:Program):Nat->TypeId->List AV->Prop
 | 0,_,_=>False
 | n+1,t,cs=>match P.underlying t with
  | some .bool=>∃ b,cs=[.bool b]
  | some (.int k)=>∃ z,rng k z∧cs=[.int k z]
  | some .string=>∃ s:ByteArray,s.size≤9223372036854775807∧cs=[.str s]
  | some (.slice e)=>∃ xs:LL,xs.length≤9223372036854775807∧(∀ x ∈ xs,Sh P n e x)∧cs=[.sl (P.cellsOf e) false xs]
  | some (.struct fs)=>ShF P (Sh P n) fs.toList cs
  | some (.array m e)=>ShE (Sh P n e) m cs
  | _=>False
theorem aE7 {P:Program} {S:Pin} {sh:TypeId->List AV->Prop} {vs:List Value}:∀ (fs:List Field) (o tot:Nat),uB P fs o tot=true->vs.length=tot ->
  (∀ f ∈ fs,∃ ys,sh f.type ys∧cX ys=true∧CVl S ys dG ((vs.drop f.offset).take (P.cellsOf f.type)))->∃ cs,ShF P sh fs cs∧cX cs=true∧CVl S cs dG (vs.drop o)
 | [],o,tot,ht,hl,_=>by
  simp only [uB] at ht
  have:=aA ht
  exact ⟨[],rfl,rfl,by simp only [CVl]; exact List.drop_eq_nil_of_le (by omega)⟩
 | f::fs,o,tot,ht,hl,h=>by
  simp only [uB,aC] at ht
  obtain ⟨ho,ht⟩:=ht
  have ho:=aA ho
  obtain ⟨ys,h1,h2,h3⟩:=h f (aO ..)
  obtain ⟨zs,k1,k2,k3⟩:=aE7 fs _ tot ht hl (λ g hg=>h g (aN _ hg))
  refine ⟨ys++zs,⟨ys,zs,h1,k1,rfl⟩,allOne_append h2 k2,?_⟩
  rw [ho] at h3
  have e:vs.drop o=(vs.drop o).take (P.cellsOf f.type)++vs.drop (o+P.cellsOf f.type):=by
   rw [← List.drop_drop]; exact (List.take_append_drop _ _).symm
  rw [e]
  exact CVl.append h3 k3
where allOne_append:∀ {xs ys:List AV},cX xs=true->cX ys=true->cX (xs++ys)=true
 | [],ys,_,h=>h
 | x::xs,ys,h,k=>by
  simp only [cX,aC,List.cons_append] at h ⊢
  exact ⟨h.1,allOne_append h.2 k⟩
theorem aLB {S:Pin} {sh:List AV->Prop} {s:Nat}:∀ (n:Nat) (vs:List Value),vs.length=n*s->(∀ i,i < n->∃ ys,sh ys∧cX ys=true∧CVl S ys dG ((vs.drop (i*s)).take s)) ->
  ∃ cs,ShE sh n cs∧cX cs=true∧CVl S cs dG vs
 | 0,vs,hl,_=>⟨[],rfl,rfl,by simp only [CVl]; exact List.eq_nil_of_length_eq_zero (by omega)⟩
 | n+1,vs,hl,h=>by
  obtain ⟨ys,h1,h2,h3⟩:=h 0 (by omega)
  have hl':vs.length=n*s+s:=by rw [hl,Nat.succ_mul]
  obtain ⟨zs,k1,k2,k3⟩:=aLB n (vs.drop s) (by rw [List.length_drop,hl',Nat.add_sub_cancel]) (λ i hi=>by
   obtain ⟨q,q1,q2,q3⟩:=h (i+1) (by omega)
   refine ⟨q,q1,q2,?_⟩
   rw [List.drop_drop,show s+i*s=(i+1)*s by rw [Nat.succ_mul]; omega]
   exact q3)
  refine ⟨ys++zs,⟨ys,zs,h1,k1,rfl⟩,aE7.allOne_append h2 k2,?_⟩
  rw [Nat.zero_mul,List.drop_zero] at h3
  have e:vs=vs.take s++vs.drop s:=(List.take_append_drop _ _).symm
  rw [e]
  exact CVl.append h3 k3
theorem aGI {α:Type} {p:Nat->α->Prop}:∀ (n:Nat),(∀ i,i < n->∃ x,p i x)->∃ xs:List α,xs.length=n∧∀ i x,xs[i]?=some x->p i x
 | 0,_=>⟨[],rfl,by simp⟩
 | n+1,h=>by
  obtain ⟨xs,h1,h2⟩:=aGI n (λ i hi=>h i (by omega))
  obtain ⟨x,hx⟩:=h n (by omega)
  refine ⟨xs++[x],by simp [h1],λ i y hy=>?_⟩
  rcases Nat.lt_or_ge i xs.length with hi | hi
  ·rw [List.getElem?_append_left hi] at hy; exact h2 i y hy
  ·rw [List.getElem?_append_right hi] at hy
   rcases Nat.eq_zero_or_pos (i - xs.length) with h0 | h0
   ·rw [h0] at hy
    simp only [List.getElem?_cons_zero,aJ] at hy
    rw [← hy,show i=n by omega]; exact hx
   ·rw [List.getElem?_eq_none (by simp; omega)] at hy; cases hy
section
variable {H:Type} {enc:TypeId × Value->H} {P:Program} {w:World} {base:Nat} {held:Bool}
theorem aFj {k:IntKind} {z:Int} (h:(Lit.int k z).wf=true):rng k z:=by
 rw [aMT]
 simp only [Lit.wf,aC,decide_eq_true_eq] at h
 exact h
theorem jT:∀ (n:Nat) (t:TypeId) (fuel:Nat) (vs:List Value) (x:DataW H × List MemPlace),aEV P n t=true->DataW.trod enc P w base (λ _=>true) held fuel t vs=some x ->
  ∃ cs,Sh P n t cs∧cX cs=true∧CVl (pinAll w) cs dG vs
 | 0,t,_,_,_,hs,_=>by simp [aEV] at hs
 | n+1,t,fuel,vs,x,hs,h=>by
  unfold aEV at hs
  unfold Sh
  split at hs
  ·next ht =>
   obtain ⟨b,rfl,_⟩:=DataW.trod_bool ht h
   exact ⟨[.bool b],⟨b,rfl⟩,rfl,_,_,rfl,rfl,rfl⟩
  ·next k ht =>
   obtain ⟨z,rfl,_,hw⟩:=DataW.trod_int ht h
   exact ⟨[.int k z],⟨z,aFj hw,rfl⟩,rfl,_,_,rfl,⟨rfl,aFj hw⟩,rfl⟩
  ·next ht =>
   obtain ⟨s,rfl,_,hw⟩:=DataW.trod_string ht h
   exact ⟨[.str s],⟨s,hw,rfl⟩,rfl,_,_,rfl,⟨rfl,hw⟩,rfl⟩
  ·next e ht =>
   simp only [aC] at hs
   have hs0:0 < P.cellsOf e:=by have:=hs.1; simp [Nat.blt] at this; omega
   rcases DataW.trod_slice ht h with ⟨rfl,_⟩ | ⟨a,len,cap,elems,rest,m,_,rfl,_,hb,hl,hc,hlen,hel,hsp,hns⟩
   ·refine ⟨[.sl (P.cellsOf e) false []],⟨[],by simp,by simp,rfl⟩,rfl,_,_,rfl,⟨none,0,rfl,by simp,by simp,(λ h=>by cases h),(λ _=>rfl),(λ a ha=>by cases ha)⟩,rfl⟩
   ·have each:∀ i,i < len->∃ x,(Sh P n e x)∧∃ cs',w.cells? base (a.add (i*P.cellsOf e)) (P.cellsOf e)=some cs'∧cX x=true∧CVl (pinAll w) x dG cs':=by
     intro i hi
     have h1:=hel i hi
     have hx:elems[i]?=some (elems[i]'(by omega)):=aD (by omega)
     rw [hx,Option.bind_eq_some_iff] at h1
     obtain ⟨cs',h2,h3⟩:=h1
     obtain ⟨y,k1,k2,k3⟩:=jT n e m cs' _ hs.2 h3
     exact ⟨y,k1,cs',h2,k2,k3⟩
    obtain ⟨xs,hx1,hx2⟩:=aGI len each
    have hmem:∀ x ∈ xs,Sh P n e x:=by
     intro x hx
     obtain ⟨i,hi⟩:=List.getElem?_of_mem hx
     exact (hx2 i x hi).1
    refine ⟨[.sl (P.cellsOf e) false xs],⟨xs,by unfold maxLen at hc; omega,hmem,rfl⟩,rfl,_,_,rfl,⟨some a,cap,by rw [hx1],by omega,hc,(λ h=>by cases h),(λ h=>by cases h),λ a' ha=>?_⟩,rfl⟩
    cases ha
    have key:∀ (j:Nat) (x:List AV),xs[j]?=some x->∃ cs':List Value,cs'.length=P.cellsOf e∧CVl (pinAll w) x dG cs'∧cX x=true∧∀ i,i < P.cellsOf e->w.cell? ((a.add (j*P.cellsOf e)).add i)=cs'[i]?:=by
     intro j x hj
     obtain ⟨_,cs',h2,h3,h4⟩:=hx2 j x hj
     obtain ⟨_,q1,q2⟩:=World.cells?_some h2
     exact ⟨cs',q1,h4,h3,q2⟩
    have spot:cap≠0->a.spot=none:=by
     intro h0
     have h1:∃ cs',w.cells? base (a.add (0*P.cellsOf e)) (P.cellsOf e)=some cs':=by
      rcases Nat.eq_zero_or_pos len with hl0 | hl0
      ·obtain ⟨hr,hr2⟩:=hsp rfl
       have h1:=hr2 0 (by omega)
       have hx:rest[0]?=some (rest[0]'(by omega)):=aD (by omega)
       rw [hx,Option.bind_eq_some_iff] at h1
       obtain ⟨cs',h2,_⟩:=h1
       exact ⟨cs',by rw [← h2,hl0]⟩
      ·have h1:=hel 0 hl0
       have hx:elems[0]?=some (elems[0]'(by omega)):=aD (by omega)
       rw [hx,Option.bind_eq_some_iff] at h1
       obtain ⟨cs',h2,_⟩:=h1
       exact ⟨cs',h2⟩
     obtain ⟨cs',h2⟩:=h1
     obtain ⟨_,q1,q2⟩:=World.cells?_some h2
     have h3:=q2 0 hs0
     rw [aD (by omega)] at h3
     have h4:=World.cell?_spot h3
     simpa [Addr.add] using h4
    refine ⟨spot,CE.mk λ j x hj=>?_⟩
    obtain ⟨cs',k1,k2,k3,k4⟩:=key j x hj
    have hxl:x.length=P.cellsOf e:=by rw [← k1]; exact (CVl.len k2).symm
    refine ⟨hxl,CC.mk λ i y hy=>?_⟩
    obtain ⟨u,hu,hcv⟩:=CVl.get k2 hy
    have hi:i < P.cellsOf e:=by have:=(aF.1 hy).1; omega
    have hj':j < len:=by have:=(aF.1 hj).1; omega
    have hsp:=spot (by omega)
    obtain ⟨b,o,sp⟩:=a
    simp only at hsp
    subst hsp
    have h5:=k4 i hi
    rw [bW,bW,hu] at h5
    exact ⟨u,pM h5 (gS k2 k3 u (aL hu)),hcv⟩
  ·next fs ht =>
   simp only [aC,List.all_eq_true] at hs
   obtain ⟨xs,m,_,_,hl,hxl,hf⟩:=DataW.trod_struct ht h
   obtain ⟨cs,k1,k2,k3⟩:=aE7 (S:=pinAll w) (sh:=Sh P n) (vs:=vs) fs.toList 0 _ hs.1 hl (λ f hfm=>by
    obtain ⟨i,hi⟩:=List.getElem?_of_mem hfm
    have h1:=hf i f (by simpa using hi)
    have hi':i < fs.size:=by have:=(aF.1 hi).1; simpa using this
    rw [aD (by omega:i < xs.length)] at h1
    exact jT n f.type m _ _ (hs.2 f hfm) h1)
   exact ⟨cs,k1,k2,by simpa using k3⟩
  ·next m e ht =>
   simp only [aC] at hs
   obtain ⟨xs,q,_,_,hl,hxl,hf⟩:=DataW.trod_array ht h
   have hsz:=aA hs.1
   exact aLB (S:=pinAll w) (sh:=Sh P n e) (s:=P.cellsOf e) m vs (by omega) (λ i hi=>by
    have h1:=hf i hi
    rw [aD (by omega:i < xs.length)] at h1
    exact jT n e q _ _ hs.2 h1)
  ·cases hs
def mkA (P:Program) (t:TypeId) (cs:List AV):AV:=cond (xD P t) (.agg cs) (match cs with | [x]=>x | _=>.dead)
def ShAll (P:Program):List TypeId->(List AV->Prop)->Prop
 | [],K=>K []
 | t::ts,K=>∀ cs,Sh P 50 t cs->ShAll P ts λ xs=>K (mkA P t cs::xs)
theorem aSB {r:Reach} {b0 n:Nat} {t:TypeId} {v:Value} {fuel:Nat} {x:DataW H × List MemPlace} (hs:aEV P n t=true) (hv:Value.okWide P w r b0 t v) (h:DataW.trod enc P w base (λ _=>true) held fuel t v.cells.toList=some x) :
  ∃ cs,Sh P n t cs∧CV (pinAll w) (mkA P t cs) dG v:=by
 obtain ⟨cs,h1,h2,h3⟩:=jT n t fuel _ x hs h
 refine ⟨cs,h1,?_⟩
 have one:xD P t=false->v.cells=#[v]->CV (pinAll w) (mkA P t cs) dG v:=by
  intro ha hc
  rw [hc] at h3
  unfold mkA
  rw [ha]
  match cs,h3 with
  | [y],h3 =>
   simp only [CVl] at h3
   obtain ⟨u,us,e,hy,hn⟩:=h3
   simp at e
   rw [e.1]; exact hy
  | [],h3=>simp [CVl] at h3
  | _::_::_,h3 =>
   simp [CVl] at h3
   obtain ⟨u,us,⟨_,e⟩,_,u',us',e',_⟩:=h3
   rw [e] at e'; cases e'
 have agg:xD P t=true->∀ us,v=.agg us->CV (pinAll w) (mkA P t cs) dG v:=by
  intro ha us e
  subst e
  unfold mkA
  rw [ha]
  exact ⟨us,rfl,h3⟩
 unfold Value.okWide at hv
 cases n with
 | zero=>simp [aEV] at hs
 | succ n =>
  unfold aEV at hs
  split at hs
  ·next ht =>
   rw [ht] at hv
   simp only [Cell.okWide,Cell.ok,ht] at hv
   refine one (by unfold xD; rw [ht]) ?_
   split at hv <;> first | rfl | (split at hv <;> first | rfl | cases hv) | cases hv
  ·next k ht =>
   rw [ht] at hv
   simp only [Cell.okWide,Cell.ok,ht] at hv
   refine one (by unfold xD; rw [ht]) ?_
   split at hv <;> first | rfl | (split at hv <;> first | rfl | cases hv) | cases hv
  ·next ht =>
   rw [ht] at hv
   simp only [Cell.okWide,Cell.ok,ht] at hv
   refine one (by unfold xD; rw [ht]) ?_
   split at hv <;> first | rfl | (split at hv <;> first | rfl | cases hv) | cases hv
  ·next e ht =>
   rw [ht] at hv
   simp only [Cell.okWide,Cell.ok,ht] at hv
   refine one (by unfold xD; rw [ht]) ?_
   split at hv <;> first | rfl | (split at hv <;> first | rfl | cases hv) | cases hv
  ·next fs ht =>
   rw [ht] at hv
   obtain ⟨us,e,_⟩:=hv
   exact agg (by unfold xD; rw [ht]) us e
  ·next m e ht =>
   rw [ht] at hv
   obtain ⟨us,e,_⟩:=hv
   exact agg (by unfold xD; rw [ht]) us e
  ·cases hs
theorem aLT {r:Reach} {b0:Nat}:∀ (ts:List TypeId) (vs:List Value) (ds:List (DataW H)) (ps:List MemPlace) (K:List AV->Prop),(ts.all λ t=>aEV P 50 t)=true->DataW.TrodAll enc P w base (λ _=>true) held ts vs ds ps ->
  (∀ (j:Nat) t v,ts[j]?=some t->vs[j]?=some v->Value.okWide P w r b0 t v)->ShAll P ts K->∃ xs,K xs∧CVl (pinAll w) xs dG vs
 | [],[],[],ps,K,_,h,_,hK=>⟨[],hK,by simp only [CVl]⟩
 | t::ts,v::vs,d::ds,ps,K,hs,h,hv,hK=>by
  simp only [List.all_cons,aC] at hs
  obtain ⟨p,q,⟨fuel,h1⟩,h2,_⟩:=h
  obtain ⟨cs,k1,k2⟩:=aSB hs.1 (hv 0 t v rfl rfl) h1
  obtain ⟨xs,q1,q2⟩:=aLT ts vs ds q (λ xs=>K (mkA P t cs::xs)) hs.2 h2 (λ j t v ht hv'=>hv (j+1) t v (by simpa using ht) (by simpa using hv')) (hK cs k1)
  exact ⟨_,q1,by simp only [CVl]; exact ⟨v,vs,rfl,k2,q2⟩⟩
 | [],v::vs,ds,ps,K,_,h,_,_=>by cases ds <;> simp [DataW.TrodAll] at h
 | [],[],d::ds,ps,K,_,h,_,_=>by simp [DataW.TrodAll] at h
 | t::ts,[],ds,ps,K,_,h,_,_=>by cases ds <;> simp [DataW.TrodAll] at h
 | t::ts,v::vs,[],ps,K,_,h,_,_=>by simp [DataW.TrodAll] at h
theorem law_calls {gl:aX} {f:FuncId} {r:Reach} {b0:Nat} {ts:List TypeId} {args:Array Value} {ds:List (DataW H)} {ps:List MemPlace} (hs:(ts.all λ t=>aEV P 50 t)=true) (hg:GOKg gl (pinAll w))
  (h:ShAll P ts λ xs=>PureC P gl f xs (.bool true)) (hA:DataW.TrodAll enc P w base (λ _=>true) held ts args.toList ds ps)
  (hv:∀ (j:Nat) t v,ts[j]?=some t->args.toList[j]?=some v->Value.okWide P w r b0 t v) :
  Calls P f args w λ e w'=>e=.returned (.bool true)∧Below w.heap.size w w':=by
 obtain ⟨xs,h1,h2⟩:=aLT ts _ ds ps _ hs hA hv h
 refine (h1 w (pinAll w) args hg (aIx w) h2).mono λ e w' h=>?_
 obtain ⟨u,S',h3,h4,_,_,_,h5⟩:=h
 simp only [CV] at h5
 exact ⟨by rw [h3,h5],h4⟩
theorem trodAll_stay (hl:laidOutB P=true) {w':World} (hb:Below w.heap.size w w'):∀ (ts:List TypeId) (vs:List Value) (ds:List (DataW H)) (ps:List MemPlace),(ts.all λ t=>P.readableRec t&&decide (t < P.types.size))=true ->
  DataW.TrodAll enc P w 0 (λ _=>true) true ts vs ds ps->DataW.TrodAll enc P w' 0 (λ b=>decide (b < w.heap.size)) true ts vs ds ps
 | [],[],[],ps,_,h=>h
 | t::ts,v::vs,d::ds,ps,hs,h=>by
  simp only [List.all_cons,aC,decide_eq_true_eq] at hs
  obtain ⟨p,q,h1,h2,h3⟩:=h
  have hlt:∀ x ∈ p,x.block < w.heap.size:=by obtain ⟨m,hm⟩:=h1; exact DataW.trod_lt m _ _ _ hm
  exact ⟨p,q,Below.trod hl hs.1.1 hs.1.2 h1 hb hlt,trodAll_stay hl hb ts vs ds q hs.2 h2,h3⟩
 | [],v::vs,ds,ps,_,h=>by cases ds <;> simp [DataW.TrodAll] at h
 | [],[],d::ds,ps,_,h=>by simp [DataW.TrodAll] at h
 | t::ts,[],ds,ps,_,h=>by cases ds <;> simp [DataW.TrodAll] at h
 | t::ts,v::vs,[],ps,_,h=>by simp [DataW.TrodAll] at h
def aEU (P:Program):Nat->TypeId->Bool
 | 0,_=>false
 | n+1,t=>match P.underlying t with
  | some .bool=>true
  | some (.int _)=>true
  | some .string=>true
  | some (.struct fs)=>uB P fs.toList 0 (P.cellsOf t)&&fs.toList.all λ f=>aEU P n f.type
  | some (.array m e)=>Nat.beq (m*P.cellsOf e) (P.cellsOf t)&&aEU P n e
  | _=>false
mutual
def flatD:DataW H->List AV
 | .lit (.bool b)=>[.bool b]
 | .lit (.int k z)=>[.int k z]
 | .lit (.string l)=>[.str ⟨l.toArray⟩]
 | .agg ds=>nY ds
 | _=>[.dead]
def nY:List (DataW H)->List AV
 | []=>[]
 | d::ds=>flatD d++nY ds
end
theorem aS1 {S:Pin} {vs:List Value}:∀ (fs:List Field) (ds:List (DataW H)) (o tot:Nat),uB P fs o tot=true->vs.length=tot->ds.length=fs.length ->
  (∀ (i:Nat) (f:Field) (d:DataW H),fs[i]?=some f->ds[i]?=some d->CVl S (flatD d) dG ((vs.drop f.offset).take (P.cellsOf f.type)))->CVl S (nY ds) dG (vs.drop o)
 | [],[],o,tot,ht,hl,_,_=>by
  simp only [uB] at ht
  have:=aA ht
  simp only [nY,CVl]; exact List.drop_eq_nil_of_le (by omega)
 | f::fs,d::ds,o,tot,ht,hl,hd,h=>by
  simp only [uB,aC] at ht
  obtain ⟨ho,ht⟩:=ht
  have ho:=aA ho
  have h1:=h 0 f d rfl rfl
  have h2:=aS1 fs ds _ tot ht hl (by simpa using hd) (λ i g d' hg hd'=>h (i+1) g d' (by simpa using hg) (by simpa using hd'))
  rw [ho] at h1
  have e:vs.drop o=(vs.drop o).take (P.cellsOf f.type)++vs.drop (o+P.cellsOf f.type):=by
   rw [← List.drop_drop]; exact (List.take_append_drop _ _).symm
  rw [e]
  simp only [nY]
  exact CVl.append h1 h2
 | [],_::_,_,_,_,_,hd,_=>by simp at hd
 | _::_,[],_,_,_,_,hd,_=>by simp at hd
theorem aS2 {S:Pin} {s:Nat}:∀ (ds:List (DataW H)) (vs:List Value),vs.length=ds.length*s->(∀ (i:Nat) (d:DataW H),ds[i]?=some d->CVl S (flatD d) dG ((vs.drop (i*s)).take s))->CVl S (nY ds) dG vs
 | [],vs,hl,_=>by simp only [nY,CVl]; exact List.eq_nil_of_length_eq_zero (by simpa using hl)
 | d::ds,vs,hl,h=>by
  have h1:=h 0 d rfl
  have hl':vs.length=ds.length*s+s:=by rw [hl,List.length_cons,Nat.succ_mul]
  have h2:=aS2 (S:=S) (s:=s) ds (vs.drop s) (by rw [List.length_drop]; omega) (λ i d' hd=>by
   have:=h (i+1) d' (by simpa using hd)
   rw [List.drop_drop,show s+i*s=(i+1)*s by rw [Nat.succ_mul]; omega]
   exact this)
  rw [Nat.zero_mul,List.drop_zero] at h1
  have e:vs=vs.take s++vs.drop s:=(List.take_append_drop _ _).symm
  rw [e]
  simp only [nY]
  exact CVl.append h1 h2
theorem flat_of_trod {S:Pin} {spare:Nat->Bool}:∀ (n:Nat) (t:TypeId) (fuel:Nat) (vs:List Value) (x:DataW H × List MemPlace),aEU P n t=true->DataW.trod enc P w base spare held fuel t vs=some x->CVl S (flatD x.1) dG vs
 | 0,t,_,_,_,hs,_=>by simp [aEU] at hs
 | n+1,t,fuel,vs,x,hs,h=>by
  unfold aEU at hs
  split at hs
  ·next ht =>
   obtain ⟨b,rfl,rfl⟩:=DataW.trod_bool ht h
   exact ⟨_,_,rfl,rfl,rfl⟩
  ·next k ht =>
   obtain ⟨z,rfl,rfl,hw⟩:=DataW.trod_int ht h
   exact ⟨_,_,rfl,⟨rfl,aFj hw⟩,rfl⟩
  ·next ht =>
   obtain ⟨s,rfl,rfl,hw⟩:=DataW.trod_string ht h
   exact ⟨_,_,rfl,⟨by simp,by simpa using hw⟩,rfl⟩
  ·next fs ht =>
   simp only [aC,List.all_eq_true] at hs
   obtain ⟨xs,m,_,rfl,hl,hxl,hf⟩:=DataW.trod_struct ht h
   have:=aS1 (S:=S) (vs:=vs) fs.toList (xs.map (·.1)) 0 _ hs.1 hl (by simpa using hxl) (λ i f d hi hd=>by
    have h1:=hf i f (by simpa using hi)
    rw [List.getElem?_map] at hd
    cases hx:xs[i]? with
    | none=>rw [hx] at hd; cases hd
    | some y =>
     rw [hx] at hd h1
     simp only [Option.map_some,aJ] at hd
     subst hd
     exact flat_of_trod n f.type m _ _ (hs.2 f (aL hi)) h1)
   simpa [flatD] using this
  ·next m e ht =>
   simp only [aC] at hs
   obtain ⟨xs,q,_,rfl,hl,hxl,hf⟩:=DataW.trod_array ht h
   have hsz:=aA hs.1
   have:=aS2 (S:=S) (s:=P.cellsOf e) (xs.map (·.1)) vs (by simp only [List.length_map]; rw [hxl]; omega) (λ i d hd=>by
    rw [List.getElem?_map] at hd
    cases hx:xs[i]? with
    | none=>rw [hx] at hd; cases hd
    | some y =>
     have hi:i < m:=by have:=(aF.1 hx).1; omega
     have h1:=hf i hi
     rw [hx] at hd h1
     simp only [Option.map_some,aJ] at hd
     subst hd
     exact flat_of_trod n e q _ _ hs.2 h1)
   simpa [flatD] using this
  ·cases hs
end
theorem glob_cells {W:World} {g:Nat} {cs:Array Value} {az:List AV} (hc:∀ i,W.cell? ⟨g,i,none⟩=cs[i]?) (h:CVl (pinAll W) az dG cs.toList) (h1:cX az=true):CC (pinAll W) az g 0:=by
 refine CC.mk λ j x hx=>?_
 obtain ⟨u,hu,hcv⟩:=CVl.get h hx
 have h2:=hc j
 rw [show cs[j]?=some u by simpa using hu] at h2
 rw [Nat.zero_add]
 exact ⟨u,pM h2 (gS h h1 u (aL hu)),hcv⟩
end Go.Proofs.YtgbbmadjdaphnaaGreatDoor
