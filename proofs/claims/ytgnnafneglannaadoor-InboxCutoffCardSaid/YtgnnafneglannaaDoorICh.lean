import Derived.Test.YtgnnafneglannaaDoorICg
import Derived.Test.YtgnnafneglannaaDoorICe
import Derived.Test.YtgnnafneglannaaDoorICd
import Derived.ProofKit
import Derived.OpenShut
import Derived.ShutString
import Derived.ChangeOld
import Derived.Carry
import Derived.Deep.Slices
import Derived.WideShapes
import Derived.LaidMore
namespace Go.Proofs.YtgnnafneglannaaDoor
open Go
set_option linter.unusedVariables false
set_option linter.unusedSimpArgs false
theorem vd_rdE {rd : LLA} (hp : RdsP rd) (h : vdE rd=0) : RdE rd := by
  have h4 : ckA 4 rd=false := by
    cases e : ckA 4 rd with
    | false => rfl
    | true => unfold vdE at h; rw [if_pos e] at h; cases h
  have hasc : ascB rd=true := by
    unfold vdE at h
    rw [h4] at h
    cases e : ascB rd with
    | true => rfl
    | false =>
      rw [e] at h
      cases e2 : ckA 1 rd <;> rw [e2] at h <;> simp at h
  have hel : ∀ i,i < rd.length→1≤rE (rd.getD i [])∧rE (rd.getD i [])≤11 := fun i hi => by
    unfold ckA at h4
    rw [List.any_eq_false] at h4
    have := h4 _ (List.getElem_mem hi)
    rw [← getD_lt hi] at this
    unfold ckP at this
    have hk : ¬ ck (rE (rd.getD i [])) (rV (rd.getD i []))=4 := by simpa using this
    unfold ck at hk
    cases ho : okC (rE (rd.getD i [])) with
    | true => exact of_decide_eq_true ho
    | false => rw [ho] at hk; exact absurd rfl hk
  unfold ascB at hasc
  have hasc := of_decide_eq_true hasc
  have hge : ∀ i,i < rd.length→(i : Int) + 1≤rE (rd.getD i []) := by
    intro i
    induction i with
    | zero => intro hi; have := (hel 0 hi).1; omega
    | succ i ih =>
      intro hi
      have := ih (by omega)
      rcases hasc (i + 1) hi with z | z
      · omega
      · rw [show i + 1 - 1=i by omega] at z; omega
  refine ⟨fun i hi => ?_,?_⟩
  · obtain ⟨e,v,he,_,hv⟩ := hp.row i hi
    have := hel i hi
    rw [he] at this
    exact ⟨e,v,he,this,hv⟩
  · by_cases hz : rd.length=0
    · omega
    · have h1 := hge (rd.length - 1) (by omega)
      have h2 := (hel (rd.length - 1) (by omega)).2
      omega
theorem ck_rdE {k : Int} {nm : ByteArray} {t f a b c : Int} {rd : LLA} {co ar : Int} (hp : RdsP rd) (h : ckR (itA k nm t f a b c rd co ar)=0) : RdE rd∧0≤co := by
  rw [ckR_it] at h
  unfold itE at h
  split at h
  · next e =>
    split at h
    · cases h
    · next e2 =>
      refine ⟨vd_rdE hp ?_,by omega⟩
      unfold gpE at e
      split at e
      · cases e
      · split at e
        · cases e
        · split at e
          · cases e
          · exact e
  · next e => exact absurd h e
structure OkL (l : LLA) : Prop where
  fp : ItsP l
  fv : inV l=0
theorem OkL.row {l : LLA} (h : OkL l) {x : List AV} (hx : x ∈ l) : ∃ (k : Int) (nm : ByteArray) (t f a b c : Int) (rd : LLA) (co ar : Int),x=itA k nm t f a b c rd co ar∧RdsP rd∧RdE rd∧0≤co := by
  obtain ⟨i,hi,rfl⟩ := List.mem_iff_getElem.1 hx
  obtain ⟨k,nm,t,f,a,b,c,rd,co,ar,h1,h2⟩ := h.fp.fr i hi
  rw [getD_lt hi] at h1
  have := firE_all (inV_ok h.fv).2.1 _ (List.getElem_mem hi)
  rw [h1] at this
  obtain ⟨h3,h4⟩ := ck_rdE h2 this
  exact ⟨k,nm,t,f,a,b,c,rd,co,ar,h1,h2,h3,h4⟩
theorem OkL.mgp {l g : LLA} (h : OkL l) (hs : ∀ x ∈ g,x ∈ l) (hl : g.length≤900) (h0 : g≠[]) : MgP g := by
  refine ⟨fun i hi => ?_,hl,List.length_pos_iff.2 h0⟩
  obtain ⟨k,nm,t,f,a,b,c,rd,co,ar,h1,_,h3,_⟩ := h.row (hs _ (List.getElem_mem hi))
  exact ⟨k,nm,t,f,a,b,c,rd,co,ar,by rw [getD_lt hi]; exact h1,h3⟩
theorem gs_sub : ∀ F : LLA,(∀ x ∈ (gsF F).2,x ∈ F)∧(gsF F).2.length≤F.length∧(gsF F).1.length≤F.length∧((gsF F).2≠[]→(gsF F).1.length + 1≤F.length) :=
  snoc_ind ⟨by simp [gsF],by simp [gsF],by simp [gsF],by simp [gsF]⟩ fun l x ⟨h1,h2,h3,h4⟩ => by
    rw [gsF_snoc]
    generalize gsF l=s at *
    obtain ⟨o,g⟩ := s
    simp only at h1 h2 h3 h4
    cases g with
    | nil =>
      refine ⟨fun y hy => ?_,by simp [gs1],by simp [gs1]; omega,fun _ => by simp [gs1]; omega⟩
      simp [gs1] at hy
      simp [hy]
    | cons y g =>
      have h4 := h4 (by simp)
      simp only [gs1]
      split
      · split
        · exact ⟨fun z hz => by simp at hz; simp [hz],by simp,by simp; omega,fun _ => by simp; omega⟩
        · refine ⟨fun z hz => ?_,by simp at h2 ⊢; omega,by simp; omega,fun _ => by simp; omega⟩
          rcases List.mem_append.1 hz with hz | hz
          · exact List.mem_append_left _ (h1 z hz)
          · exact List.mem_append_right _ hz
      · exact ⟨fun z hz => by simp at hz; simp [hz],by simp,by simp; omega,fun _ => by simp; omega⟩
def mgRow (G : LLA) : List AV := [.int .i64 (gK G),.str (gN G),.int .i64 (gT G),.int .i64 (gQ G 0),.int .i64 (gQ G 1),.int .i64 (gQ G 2),.int .i64 (gQ G 3),.sl 2 false (gR G),.int .i64 G.length,.sl 1 false (gC G)]
def ouL (grp out : LLA) : LLA := match grp with
  | [] => out
  | y :: g => out ++ [mgRow (y :: g)]
structure FlP (grp out : LLA) (m q : Nat) : Prop where
  fm : m=grp.length
  fq : q=out.length
  fg : grp≠[]→MgP grp
  fo : out.length≤900
def iflush_s (gK : LLA→Int) (gN : LLA→ByteArray) (gT : LLA→Int) (gQ : LLA→Nat→Int) (gR : LLA→LLA) (gC : LLA→LLA) (ouL : LLA→LLA→LLA) : SpH
  | [.ptr 0 0,.ptr 1 0],[.cells [.rw 2 10 m],.cells [.rw 3 10 q],.row 50 10 grp,.row 61 10 out] => some (FlP grp out m q,.tup [],[.cells [.nils],.cells [.rw 3 10 (ouL grp out).length],.gone,.row 61 10 (ouL grp out)])
  | _,_ => none
set_option maxRecDepth 100000 in
def iflush_T (gK : LLA→Int) (gN : LLA→ByteArray) (gT : LLA→Int) (gQ : LLA→Nat→Int) (gR : LLA→LLA) (gC : LLA→LLA) (ouL : LLA→LLA→LLA) : Prop :=
  ∀ (gl : Glob) (grp out : List (List AV)) (m q:Nat),FlP grp out m q→True→True→True→True→bif decide ((0:Int) < (↑m:Int)) then bif decide (m=grp.length) then MgP grp∧bif decide (q=out.length∧out.length + [[AV.int .i64 (gK grp),.str (gN grp),.int .i64 (gT grp),.int .i64 (gQ grp (0:Nat)),.int .i64 (gQ grp (1:Nat)),.int .i64 (gQ grp (2:Nat)),.int .i64 (gQ grp (3:Nat)),.sl (2:Nat) false (gR grp),.int
 .i64 (↑grp.length:Int),.sl (1:Nat) false (gC grp)]].length≤(9223372036854775807:Nat)∧(out.length + [[AV.int .i64 (gK grp),.str (gN grp),.int .i64 (gT grp),.int .i64 (gQ grp (0:Nat)),.int .i64 (gQ grp (1:Nat)),.int .i64 (gQ grp (2:Nat)),.int .i64 (gQ grp (3:Nat)),.sl (2:Nat) false (gR grp),.int .i64 (↑grp.length:Int),.sl (1:Nat) false (gC grp)]].length) * (120:Nat)≤(140737488355328:Nat)) then
 True∧(True∧True)∧((out ++ [[AV.int .i64 (gK grp),.str (gN grp),.int .i64 (gT grp),.int .i64 (gQ grp (0:Nat)),.int .i64 (gQ grp (1:Nat)),.int .i64 (gQ grp (2:Nat)),.int .i64 (gQ grp (3:Nat)),.sl (2:Nat) false (gR grp),.int .i64 (↑grp.length:Int),.sl (1:Nat) false (gC grp)]]).length=List.length (ouL grp out)∧True)∧True∧out ++ [[AV.int .i64 (gK grp),.str (gN grp),.int .i64 (gT grp),.int .i64 (gQ grp
 (0:Nat)),.int .i64 (gQ grp (1:Nat)),.int .i64 (gQ grp (2:Nat)),.int .i64 (gQ grp (3:Nat)),.sl (2:Nat) false (gR grp),.int .i64 (↑grp.length:Int),.sl (1:Nat) false (gC grp)]]=ouL grp out∧True else False else False else True∧(True∧True)∧(q=List.length (ouL grp out)∧True)∧True∧out=ouL grp out∧True
set_option maxRecDepth 100000 in
theorem iflush_P : iflush_T gK gN gT gQ gR gC ouL := by
  unfold iflush_T
  intro gl grp out m q ⟨fm,fq,fg,fo⟩ _ _ _ _
  subst fm fq
  cases grp with
  | nil => exact cd0 (by simp) ⟨trivial,⟨trivial,trivial⟩,⟨rfl,trivial⟩,trivial,rfl,trivial⟩
  | cons y g =>
    refine cd1 (by simp only [List.length_cons]; omega) (cd1 rfl ⟨fg (by simp),cd1 ⟨rfl,by simp only [List.length_cons,List.length_nil]; omega,by simp only [List.length_cons,List.length_nil]; omega⟩ ⟨trivial,⟨trivial,trivial⟩,⟨rfl,trivial⟩,trivial,rfl,trivial⟩⟩)
def iflush_S (gK : LLA→Int) (gN : LLA→ByteArray) (gT : LLA→Int) (gQ : LLA→Nat→Int) (gR : LLA→LLA) (gC : LLA→LLA) (ouL : LLA→LLA→LLA) : Prop := ∀ (gl : Glob) (grp out : List (List AV)) (m q : Nat),FlP grp out m q→fnH Tryd.prog { glob := gl,spec := lk [(45,(mgd_s gK gN gT gQ gR gC))],specH := lk [],nowf := true } { nt := 10,drop := drp [(0,12),(1,992)],fr := 1000,kp := [0,1,2,3],own := true } (fun _ _ => none) 6 Tryd.f44 [.ptr 0 0,.ptr 1 0] [.cells [.rw 2 10 m],.cells [.rw 3 10 q],.row 50 10 grp,.row 61 10 out] (.tup []) [.cells [.nils],.cells [.rw 3 10 (ouL grp out).length],.gone,.row 61 10 (ouL grp out)]
set_option maxRecDepth 100000 in
theorem iflush_e (gK : LLA→Int) (gN : LLA→ByteArray) (gT : LLA→Int) (gQ : LLA→Nat→Int) (gR : LLA→LLA) (gC : LLA→LLA) (ouL : LLA→LLA→LLA) : iflush_T gK gN gT gQ gR gC ouL=iflush_S gK gN gT gQ gR gC ouL := by kernel_rfl
theorem iflush_v : iflush_S gK gN gT gQ gR gC ouL := @Eq.mp (iflush_T gK gN gT gQ gR gC ouL) (iflush_S gK gN gT gQ gR gC ouL) (iflush_e gK gN gT gQ gR gC ouL) (iflush_P)
theorem iflush_ok (gl : Glob) : HOK Tryd.prog gl 44 (iflush_s gK gN gT gQ gR gC ouL) := by
  refine ⟨fok Tryd.func44 (by kernel_rfl) (by kernel_rfl),?_⟩
  intro xs bs pre r bs2 h hp
  unfold iflush_s at h
  split at h
  · simp only [Option.some.injEq,Prod.mk.injEq] at h
    obtain ⟨h1,h2,h3⟩ := h
    subst h1 h2 h3
    exact fnH_sound tyNil (by exact specOK rfl rfl ⟨(mgd_ok gl),trivial⟩ trivial) (by kernel_rfl) Tryd.func44 (iflush_v gl _ _ _ _ hp)
  · cases h
def cntd (fr to cut : Int) (x : List AV) : Bool := decide (itAr x≤cut) && (decide (fr≤itTm x) && decide (itTm x≤to))
def mrF (l : LLA) (fr to cut : Int) : LLA := l.filter (cntd fr to cut)
def mrR (F : LLA) : LLA := (gsF F).1.map mgRow
def mrG (F : LLA) : LLA := (gsF F).2
def mrE (l : LLA) (fr to : Int) : Int := if inV l=0 then (if to < fr then 1 else 0) else inV l
def mrO (l : LLA) (fr to cut : Int) : LLA := if mrE l fr to=0 then (grF (mrF l fr to cut)).map mgRow else []
def imT (l : LLA) (f : Bool) (i : Int) : List (Nat × AV) := [(0,.sl 10 f l),(3,.ptr 3 0),(4,.nils),(5,.int .i64 0),(7,.ptr 7 0),(8,.ptr 8 0),(9,.fn 44 [.ptr 8 0,.ptr 7 0]),(23,.sl 10 f l),(24,.int .i64 l.length),(25,.int .i64 i)]
structure ImP (l : LLA) (i : Int) : Prop where
  flo : 0≤i
  fhi : i≤l.length
def im10 (l : LLA) (f : Bool) (fr to cut : Int) : LInv := ⟨Int,fun i => ⟨imT l f i,[(3,.cells [.int .i64 fr,.int .i64 to,.int .i64 cut]),(7,.cells [.rw 701 10 (mrR (mrF (l.take i.toNat) fr to cut)).length]),(8,.cells [.rw 700 10 (mrG (mrF (l.take i.toNat) fr to cut)).length]),(700,.row 50 10 (mrG (mrF (l.take i.toNat) fr to cut))),(701,.row 61 10 (mrR (mrF (l.take i.toNat) fr to cut)))]⟩,ImP l,fun i => (l.length - i).toNat,none⟩
theorem ky_su {k k2 t t2 f f2 a a2 b b2 c c2 co co2 ar ar2 : Int} {nm nm2 : ByteArray} {rd rd2 : LLA} : suC k nm t k2 nm2 t2=0↔itKy (itA k nm t f a b c rd co ar)=itKy (itA k2 nm2 t2 f2 a2 b2 c2 rd2 co2 ar2) := by
  rw [← lexI_eq]
  simp only [itKy,itA,lex_cons,lex_nm]
  rw [show lexI ([] : List Int) []=0 from rfl,orI_z]
  exact Iff.rfl
theorem mrF_step {l : LLA} {fr to cut : Int} {i : Nat} (h : i < l.length) : mrF (l.take (i + 1)) fr to cut=mrF (l.take i) fr to cut ++ if cntd fr to cut (l.getD i []) then [l.getD i []] else [] := by
  unfold mrF
  rw [List.take_add_one,List.filter_append,List.getElem?_eq_getElem h,getD_lt h]
  cases hp : cntd fr to cut l[i] <;> simp [hp]
theorem mrF_f {l : LLA} {fr to cut : Int} {i : Nat} (h : i < l.length) (hc : cntd fr to cut (l.getD i [])=false) : mrF (l.take (i + 1)) fr to cut=mrF (l.take i) fr to cut := by
  rw [mrF_step h,hc]; simp
theorem mrF_t {l : LLA} {fr to cut : Int} {i : Nat} (h : i < l.length) (hc : cntd fr to cut (l.getD i [])=true) : mrF (l.take (i + 1)) fr to cut=mrF (l.take i) fr to cut ++ [l.getD i []] := by
  rw [mrF_step h,hc]; simp
theorem mr_new {F : LLA} {x : List AV} (h : mrG F=[]) : mrG (F ++ [x])=[x]∧mrR (F ++ [x])=mrR F := by
  unfold mrG mrR at *
  rw [gsF_snoc]; unfold gs1; rw [h]; exact ⟨rfl,rfl⟩
theorem mr_dif {F g : LLA} {x y : List AV} (h : mrG F=y :: g) (hk : itKy y≠itKy x) : mrG (F ++ [x])=[x]∧mrR (F ++ [x])=ouL (mrG F) (mrR F) := by
  unfold mrG mrR at *
  rw [gsF_snoc]; unfold gs1; rw [h]; simp only; rw [if_neg hk]; exact ⟨rfl,by simp [ouL]⟩
theorem mr_up {F g : LLA} {x y : List AV} (h : mrG F=y :: g) (hk : itKy y=itKy x) (hc : itCo y < itCo x) : mrG (F ++ [x])=[x]∧mrR (F ++ [x])=mrR F := by
  unfold mrG mrR at *
  rw [gsF_snoc]; unfold gs1; rw [h]; simp only; rw [if_pos hk,if_pos hc]; exact ⟨rfl,rfl⟩
theorem mr_add {F g : LLA} {x y : List AV} (h : mrG F=y :: g) (hk : itKy y=itKy x) (hc : ¬ itCo y < itCo x) : mrG (F ++ [x])=mrG F ++ [x]∧mrR (F ++ [x])=mrR F := by
  unfold mrG mrR at *
  rw [gsF_snoc]; unfold gs1; rw [h]; simp only; rw [if_pos hk,if_neg hc]; exact ⟨rfl,rfl⟩
theorem mr_end (F : LLA) : (grF F).map mgRow=ouL (mrG F) (mrR F) := by
  unfold grF mrG mrR
  generalize gsF F=s
  obtain ⟨o,g⟩ := s
  cases g <;> simp [grS,ouL]
theorem mr_fl {l : LLA} {fr to cut : Int} (h : OkL l) (i : Nat) : FlP (mrG (mrF (l.take i) fr to cut)) (mrR (mrF (l.take i) fr to cut)) (mrG (mrF (l.take i) fr to cut)).length (mrR (mrF (l.take i) fr to cut)).length := by
  have h9 : l.length≤150 := (inV_ok h.fv).1
  have hF : (mrF (l.take i) fr to cut).length≤l.length := Nat.le_trans (List.length_filter_le _ _) (by simp; omega)
  have hs : ∀ x ∈ mrF (l.take i) fr to cut,x ∈ l := fun x hx => List.mem_of_mem_take (List.mem_filter.1 hx).1
  obtain ⟨g1,g2,g3,_⟩ := gs_sub (mrF (l.take i) fr to cut)
  refine ⟨rfl,rfl,fun hn => h.mgp (fun x hx => hs x (g1 x hx)) ?_ hn,?_⟩
  · unfold mrG; omega
  · unfold mrR; rw [List.length_map]; omega
def imJ (l : LLA) (f : Bool) (fr to cut : Int) (id : Nat) (st : St) : Option LInv := cond (Nat.beq id 10) (some (im10 l f fr to cut)) none
def imerge_s (inV : LLA→Int) (suC : Int→ByteArray→Int→Int→ByteArray→Int→Int) (ouL : LLA→LLA→LLA) (mrE : LLA→Int→Int→Int) (mrO : LLA→Int→Int→Int→LLA) : Sp
  | [.sl 10 f l,.agg [.int .i64 fr,.int .i64 to,.int .i64 cut]] => some (ItsP l,.tup [.sl 10 false (mrO l fr to cut),.int .i64 (mrE l fr to)])
  | _ => none
set_option maxRecDepth 100000 in
def imerge_T (inV : LLA→Int) (suC : Int→ByteArray→Int→Int→ByteArray→Int→Int) (ouL : LLA→LLA→LLA) (mrE : LLA→Int→Int→Int) (mrO : LLA→Int→Int→Int→LLA) (itC : List AV→List AV→Int) (itE : Int→ByteArray→Int→Int→Int→Int→Int→LLA→Int→Int→Int) (cmpI : Int→Int→Int) (orL : List (List AV)→Int) (cmpS : ByteArray→ByteArray→Int) (gK : LLA→Int) (gN : LLA→ByteArray) (gT : LLA→Int) (gQ : LLA→Nat→Int) (gR : LLA→LLA) (gC : LLA→LLA) : Prop :=
  ∀ (l : List (List AV)) (f : Bool) (fr to cut:Int),ItsP l→True→((-9223372036854775808:Int)≤fr∧fr≤(9223372036854775807:Int))∧((-9223372036854775808:Int)≤to∧to≤(9223372036854775807:Int))∧((-9223372036854775808:Int)≤cut∧cut≤(9223372036854775807:Int))∧True→ItsP l∧bif decide ¬inV l=(0:Int) then mrO l fr to cut=[]∧inV l=mrE l fr to∧True else bif decide (to < fr) then mrO l fr to
 cut=[]∧(1:Int)=mrE l fr to∧True else (∃ x,ImP l x∧(((bif f then f=true else True)∧l=l)∧(0:Nat)=0∧True∧(0:Int)=0∧(0:Nat)=0∧(0:Nat)=0∧((0:Nat)=0∧(0:Nat)=0∧True)∧((bif f then f=true else True)∧l=l)∧(↑l.length:Int)=(↑l.length:Int)∧(0:Int)=x∧True)∧(fr=fr∧to=to∧cut=cut∧True)∧((0:Nat)=List.length (mrR (mrF (List.take (Int.toNat x) l) fr to cut))∧True)∧((0:Nat)=List.length (mrG (mrF (List.take (Int.toNat
 x) l) fr to cut))∧True)∧[]=mrG (mrF (List.take (Int.toNat x) l) fr to cut)∧[]=mrR (mrF (List.take (Int.toNat x) l) fr to cut)∧True)∧∀ (x:Int),ImP l x→bif decide (x < (↑l.length:Int)) then bif decide ((0:Int)≤x∧x < (↑l.length:Int)) then ∃ n s n_1 n_2 n_3 n_4 n_5 xs n_6 n_7,List.take [AV.int .i64 n,.str s,.int .i64 n_1,.int .i64 n_2,.int .i64 n_3,.int .i64 n_4,.int .i64 n_5,.sl (2:Nat) false
 xs,.int .i64 n_6,.int .i64 n_7].length (l.getD x.toNat [])=[AV.int .i64 n,.str s,.int .i64 n_1,.int .i64 n_2,.int .i64 n_3,.int .i64 n_4,.int .i64 n_5,.sl (2:Nat) false xs,.int .i64 n_6,.int .i64 n_7]∧bif decide (cut < n_7) then bif decide (rng .i64 (x + (1:Int))) then ∃ y,ImP l y∧(im10 l f fr to cut).m y < (im10 l f fr to cut).m x∧(((bif f then f=true else
 True)∧l=l)∧(0:Nat)=0∧True∧(0:Int)=0∧(0:Nat)=0∧(0:Nat)=0∧((0:Nat)=0∧(0:Nat)=0∧True)∧((bif f then f=true else True)∧l=l)∧(↑l.length:Int)=(↑l.length:Int)∧x + (1:Int)=y∧True)∧(fr=fr∧to=to∧cut=cut∧True)∧(List.length (mrR (mrF (List.take x.toNat l) fr to cut))=List.length (mrR (mrF (List.take (Int.toNat y) l) fr to cut))∧True)∧(List.length (mrG (mrF (List.take x.toNat l) fr to cut))=List.length (mrG (mrF
 (List.take (Int.toNat y) l) fr to cut))∧True)∧mrG (mrF (List.take x.toNat l) fr to cut)=mrG (mrF (List.take (Int.toNat y) l) fr to cut)∧mrR (mrF (List.take x.toNat l) fr to cut)=mrR (mrF (List.take (Int.toNat y) l) fr to cut)∧True else False else bif decide (n_1 < fr) then bif decide (rng .i64 (x + (1:Int))) then ∃ y,ImP l y∧(im10 l f fr to cut).m y < (im10 l f fr to cut).m x∧(((bif f then f=true
 else True)∧l=l)∧(0:Nat)=0∧True∧(0:Int)=0∧(0:Nat)=0∧(0:Nat)=0∧((0:Nat)=0∧(0:Nat)=0∧True)∧((bif f then f=true else True)∧l=l)∧(↑l.length:Int)=(↑l.length:Int)∧x + (1:Int)=y∧True)∧(fr=fr∧to=to∧cut=cut∧True)∧(List.length (mrR (mrF (List.take x.toNat l) fr to cut))=List.length (mrR (mrF (List.take (Int.toNat y) l) fr to cut))∧True)∧(List.length (mrG (mrF (List.take x.toNat l) fr to cut))=List.length (mrG
 (mrF (List.take (Int.toNat y) l) fr to cut))∧True)∧mrG (mrF (List.take x.toNat l) fr to cut)=mrG (mrF (List.take (Int.toNat y) l) fr to cut)∧mrR (mrF (List.take x.toNat l) fr to cut)=mrR (mrF (List.take (Int.toNat y) l) fr to cut)∧True else False else bif decide (to < n_1) then bif decide (rng .i64 (x + (1:Int))) then ∃ y,ImP l y∧(im10 l f fr to cut).m y < (im10 l f fr to cut).m x∧(((bif f then
 f=true else True)∧l=l)∧(0:Nat)=0∧True∧(0:Int)=0∧(0:Nat)=0∧(0:Nat)=0∧((0:Nat)=0∧(0:Nat)=0∧True)∧((bif f then f=true else True)∧l=l)∧(↑l.length:Int)=(↑l.length:Int)∧x + (1:Int)=y∧True)∧(fr=fr∧to=to∧cut=cut∧True)∧(List.length (mrR (mrF (List.take x.toNat l) fr to cut))=List.length (mrR (mrF (List.take (Int.toNat y) l) fr to cut))∧True)∧(List.length (mrG (mrF (List.take x.toNat l) fr to
 cut))=List.length (mrG (mrF (List.take (Int.toNat y) l) fr to cut))∧True)∧mrG (mrF (List.take x.toNat l) fr to cut)=mrG (mrF (List.take (Int.toNat y) l) fr to cut)∧mrR (mrF (List.take x.toNat l) fr to cut)=mrR (mrF (List.take (Int.toNat y) l) fr to cut)∧True else False else bif decide ((0:Int) < (↑(List.length (mrG (mrF (List.take x.toNat l) fr to cut))):Int)) then bif decide ((0:Int) ≤
 (0:Int)∧(0:Int) < (↑(List.length (mrG (mrF (List.take x.toNat l) fr to cut))):Int)) then bif decide (List.length (mrG (mrF (List.take x.toNat l) fr to cut))=List.length (mrG (mrF (List.take x.toNat l) fr to cut))∧(0:Nat) < List.length (mrG (mrF (List.take x.toNat l) fr to cut))) then ∃ n_8 s_1 n_9 n_10 n_11 n_12 n_13 xs_1,List.take [AV.int .i64 n_8,.str s_1,.int .i64 n_9,.int .i64 n_10,.int .i64
 n_11,.int .i64 n_12,.int .i64 n_13,.sl (2:Nat) false xs_1].length (List.drop (0:Nat) (List.getD (mrG (mrF (List.take x.toNat l) fr to cut)) (0:Nat) []))=[AV.int .i64 n_8,.str s_1,.int .i64 n_9,.int .i64 n_10,.int .i64 n_11,.int .i64 n_12,.int .i64 n_13,.sl (2:Nat) false xs_1]∧True∧bif decide ¬suC n_8 s_1 n_9 n s n_1=(0:Int) then FlP (mrG (mrF (List.take x.toNat l) fr to cut)) (mrR (mrF (List.take
 x.toNat l) fr to cut)) (List.length (mrG (mrF (List.take x.toNat l) fr to cut))) (List.length (mrR (mrF (List.take x.toNat l) fr to cut)))∧bif decide (rng .i64 (x + (1:Int))) then ∃ y,ImP l y∧(im10 l f fr to cut).m y < (im10 l f fr to cut).m x∧(((bif f then f=true else True)∧l=l)∧(0:Nat)=0∧True∧(0:Int)=0∧(0:Nat)=0∧(0:Nat)=0∧((0:Nat)=0∧(0:Nat)=0∧True)∧((bif f then f=true else
 True)∧l=l)∧(↑l.length:Int)=(↑l.length:Int)∧x + (1:Int)=y∧True)∧(fr=fr∧to=to∧cut=cut∧True)∧(List.length (ouL (mrG (mrF (List.take x.toNat l) fr to cut)) (mrR (mrF (List.take x.toNat l) fr to cut)))=List.length (mrR (mrF (List.take (Int.toNat y) l) fr to cut))∧True)∧(([] ++ [[AV.int .i64 n,.str s,.int .i64 n_1,.int .i64 n_2,.int .i64 n_3,.int .i64 n_4,.int .i64 n_5,.sl (2:Nat) false xs,.int .i64
 n_6,.int .i64 n_7]]).length=List.length (mrG (mrF (List.take (Int.toNat y) l) fr to cut))∧True)∧[] ++ [[AV.int .i64 n,.str s,.int .i64 n_1,.int .i64 n_2,.int .i64 n_3,.int .i64 n_4,.int .i64 n_5,.sl (2:Nat) false xs,.int .i64 n_6,.int .i64 n_7]]=mrG (mrF (List.take (Int.toNat y) l) fr to cut)∧ouL (mrG (mrF (List.take x.toNat l) fr to cut)) (mrR (mrF (List.take x.toNat l) fr to cut))=mrR (mrF
 (List.take (Int.toNat y) l) fr to cut)∧True else False else bif decide ((0:Int) < (↑(List.length (mrG (mrF (List.take x.toNat l) fr to cut))):Int)) then bif decide ((0:Int)≤(0:Int)∧(0:Int) < (↑(List.length (mrG (mrF (List.take x.toNat l) fr to cut))):Int)) then bif decide (List.length (mrG (mrF (List.take x.toNat l) fr to cut))=List.length (mrG (mrF (List.take x.toNat l) fr to cut))∧(0:Nat) <
 List.length (mrG (mrF (List.take x.toNat l) fr to cut))) then ∃ n_14,List.take [AV.int .i64 n_14].length (List.drop (8:Nat) (List.getD (mrG (mrF (List.take x.toNat l) fr to cut)) (0:Nat) []))=[AV.int .i64 n_14]∧bif decide (n_14 < n_6) then bif decide (rng .i64 (x + (1:Int))) then ∃ y,ImP l y∧(im10 l f fr to cut).m y < (im10 l f fr to cut).m x∧(((bif f then f=true else
 True)∧l=l)∧(0:Nat)=0∧True∧(0:Int)=0∧(0:Nat)=0∧(0:Nat)=0∧((0:Nat)=0∧(0:Nat)=0∧True)∧((bif f then f=true else True)∧l=l)∧(↑l.length:Int)=(↑l.length:Int)∧x + (1:Int)=y∧True)∧(fr=fr∧to=to∧cut=cut∧True)∧(List.length (mrR (mrF (List.take x.toNat l) fr to cut))=List.length (mrR (mrF (List.take (Int.toNat y) l) fr to cut))∧True)∧(([] ++ [[AV.int .i64 n,.str s,.int .i64 n_1,.int .i64 n_2,.int .i64 n_3,.int
 .i64 n_4,.int .i64 n_5,.sl (2:Nat) false xs,.int .i64 n_6,.int .i64 n_7]]).length=List.length (mrG (mrF (List.take (Int.toNat y) l) fr to cut))∧True)∧[] ++ [[AV.int .i64 n,.str s,.int .i64 n_1,.int .i64 n_2,.int .i64 n_3,.int .i64 n_4,.int .i64 n_5,.sl (2:Nat) false xs,.int .i64 n_6,.int .i64 n_7]]=mrG (mrF (List.take (Int.toNat y) l) fr to cut)∧mrR (mrF (List.take x.toNat l) fr to cut)=mrR (mrF
 (List.take (Int.toNat y) l) fr to cut)∧True else False else bif decide (List.length (mrG (mrF (List.take x.toNat l) fr to cut))=List.length (mrG (mrF (List.take x.toNat l) fr to cut))∧List.length (mrG (mrF (List.take x.toNat l) fr to cut)) + [[AV.int .i64 n,.str s,.int .i64 n_1,.int .i64 n_2,.int .i64 n_3,.int .i64 n_4,.int .i64 n_5,.sl (2:Nat) false xs,.int .i64 n_6,.int .i64 n_7]].length ≤
 (9223372036854775807:Nat)∧(List.length (mrG (mrF (List.take x.toNat l) fr to cut)) + [[AV.int .i64 n,.str s,.int .i64 n_1,.int .i64 n_2,.int .i64 n_3,.int .i64 n_4,.int .i64 n_5,.sl (2:Nat) false xs,.int .i64 n_6,.int .i64 n_7]].length) * (104:Nat)≤(140737488355328:Nat)) then bif decide (rng .i64 (x + (1:Int))) then ∃ y,ImP l y∧(im10 l f fr to cut).m y < (im10 l f fr to cut).m x∧(((bif f then
 f=true else True)∧l=l)∧(0:Nat)=0∧True∧(0:Int)=0∧(0:Nat)=0∧(0:Nat)=0∧((0:Nat)=0∧(0:Nat)=0∧True)∧((bif f then f=true else True)∧l=l)∧(↑l.length:Int)=(↑l.length:Int)∧x + (1:Int)=y∧True)∧(fr=fr∧to=to∧cut=cut∧True)∧(List.length (mrR (mrF (List.take x.toNat l) fr to cut))=List.length (mrR (mrF (List.take (Int.toNat y) l) fr to cut))∧True)∧((mrG (mrF (List.take x.toNat l) fr to cut) ++ [[AV.int .i64
 n,.str s,.int .i64 n_1,.int .i64 n_2,.int .i64 n_3,.int .i64 n_4,.int .i64 n_5,.sl (2:Nat) false xs,.int .i64 n_6,.int .i64 n_7]]).length=List.length (mrG (mrF (List.take (Int.toNat y) l) fr to cut))∧True)∧mrG (mrF (List.take x.toNat l) fr to cut) ++ [[AV.int .i64 n,.str s,.int .i64 n_1,.int .i64 n_2,.int .i64 n_3,.int .i64 n_4,.int .i64 n_5,.sl (2:Nat) false xs,.int .i64 n_6,.int .i64 n_7]]=mrG
 (mrF (List.take (Int.toNat y) l) fr to cut)∧mrR (mrF (List.take x.toNat l) fr to cut)=mrR (mrF (List.take (Int.toNat y) l) fr to cut)∧True else False else False else False else False else bif decide (List.length (mrG (mrF (List.take x.toNat l) fr to cut))=List.length (mrG (mrF (List.take x.toNat l) fr to cut))∧List.length (mrG (mrF (List.take x.toNat l) fr to cut)) + [[AV.int .i64 n,.str s,.int
 .i64 n_1,.int .i64 n_2,.int .i64 n_3,.int .i64 n_4,.int .i64 n_5,.sl (2:Nat) false xs,.int .i64 n_6,.int .i64 n_7]].length≤(9223372036854775807:Nat)∧(List.length (mrG (mrF (List.take x.toNat l) fr to cut)) + [[AV.int .i64 n,.str s,.int .i64 n_1,.int .i64 n_2,.int .i64 n_3,.int .i64 n_4,.int .i64 n_5,.sl (2:Nat) false xs,.int .i64 n_6,.int .i64 n_7]].length) * (104:Nat)≤(140737488355328:Nat))
 then bif decide (rng .i64 (x + (1:Int))) then ∃ y,ImP l y∧(im10 l f fr to cut).m y < (im10 l f fr to cut).m x∧(((bif f then f=true else True)∧l=l)∧(0:Nat)=0∧True∧(0:Int)=0∧(0:Nat)=0∧(0:Nat)=0∧((0:Nat)=0∧(0:Nat)=0∧True)∧((bif f then f=true else True)∧l=l)∧(↑l.length:Int)=(↑l.length:Int)∧x + (1:Int)=y∧True)∧(fr=fr∧to=to∧cut=cut∧True)∧(List.length (mrR (mrF (List.take x.toNat l) fr to
 cut))=List.length (mrR (mrF (List.take (Int.toNat y) l) fr to cut))∧True)∧((mrG (mrF (List.take x.toNat l) fr to cut) ++ [[AV.int .i64 n,.str s,.int .i64 n_1,.int .i64 n_2,.int .i64 n_3,.int .i64 n_4,.int .i64 n_5,.sl (2:Nat) false xs,.int .i64 n_6,.int .i64 n_7]]).length=List.length (mrG (mrF (List.take (Int.toNat y) l) fr to cut))∧True)∧mrG (mrF (List.take x.toNat l) fr to cut) ++ [[AV.int .i64
 n,.str s,.int .i64 n_1,.int .i64 n_2,.int .i64 n_3,.int .i64 n_4,.int .i64 n_5,.sl (2:Nat) false xs,.int .i64 n_6,.int .i64 n_7]]=mrG (mrF (List.take (Int.toNat y) l) fr to cut)∧mrR (mrF (List.take x.toNat l) fr to cut)=mrR (mrF (List.take (Int.toNat y) l) fr to cut)∧True else False else False else False else False else bif decide ((0:Int) < (↑(List.length (mrG (mrF (List.take x.toNat l) fr to
 cut))):Int)) then bif decide ((0:Int)≤(0:Int)∧(0:Int) < (↑(List.length (mrG (mrF (List.take x.toNat l) fr to cut))):Int)) then bif decide (List.length (mrG (mrF (List.take x.toNat l) fr to cut))=List.length (mrG (mrF (List.take x.toNat l) fr to cut))∧(0:Nat) < List.length (mrG (mrF (List.take x.toNat l) fr to cut))) then ∃ n_8,List.take [AV.int .i64 n_8].length (List.drop (8:Nat) (List.getD (mrG
 (mrF (List.take x.toNat l) fr to cut)) (0:Nat) []))=[AV.int .i64 n_8]∧bif decide (n_8 < n_6) then bif decide (rng .i64 (x + (1:Int))) then ∃ y,ImP l y∧(im10 l f fr to cut).m y < (im10 l f fr to cut).m x∧(((bif f then f=true else True)∧l=l)∧(0:Nat)=0∧True∧(0:Int)=0∧(0:Nat)=0∧(0:Nat)=0∧((0:Nat)=0∧(0:Nat)=0∧True)∧((bif f then f=true else True)∧l=l)∧(↑l.length:Int)=(↑l.length:Int)∧x +
 (1:Int)=y∧True)∧(fr=fr∧to=to∧cut=cut∧True)∧(List.length (mrR (mrF (List.take x.toNat l) fr to cut))=List.length (mrR (mrF (List.take (Int.toNat y) l) fr to cut))∧True)∧(([] ++ [[AV.int .i64 n,.str s,.int .i64 n_1,.int .i64 n_2,.int .i64 n_3,.int .i64 n_4,.int .i64 n_5,.sl (2:Nat) false xs,.int .i64 n_6,.int .i64 n_7]]).length=List.length (mrG (mrF (List.take (Int.toNat y) l) fr to cut))∧True)∧[] ++
 [[AV.int .i64 n,.str s,.int .i64 n_1,.int .i64 n_2,.int .i64 n_3,.int .i64 n_4,.int .i64 n_5,.sl (2:Nat) false xs,.int .i64 n_6,.int .i64 n_7]]=mrG (mrF (List.take (Int.toNat y) l) fr to cut)∧mrR (mrF (List.take x.toNat l) fr to cut)=mrR (mrF (List.take (Int.toNat y) l) fr to cut)∧True else False else bif decide (List.length (mrG (mrF (List.take x.toNat l) fr to cut))=List.length (mrG (mrF
 (List.take x.toNat l) fr to cut))∧List.length (mrG (mrF (List.take x.toNat l) fr to cut)) + [[AV.int .i64 n,.str s,.int .i64 n_1,.int .i64 n_2,.int .i64 n_3,.int .i64 n_4,.int .i64 n_5,.sl (2:Nat) false xs,.int .i64 n_6,.int .i64 n_7]].length≤(9223372036854775807:Nat)∧(List.length (mrG (mrF (List.take x.toNat l) fr to cut)) + [[AV.int .i64 n,.str s,.int .i64 n_1,.int .i64 n_2,.int .i64 n_3,.int
 .i64 n_4,.int .i64 n_5,.sl (2:Nat) false xs,.int .i64 n_6,.int .i64 n_7]].length) * (104:Nat)≤(140737488355328:Nat)) then bif decide (rng .i64 (x + (1:Int))) then ∃ y,ImP l y∧(im10 l f fr to cut).m y < (im10 l f fr to cut).m x∧(((bif f then f=true else True)∧l=l)∧(0:Nat)=0∧True∧(0:Int)=0∧(0:Nat)=0∧(0:Nat)=0∧((0:Nat)=0∧(0:Nat)=0∧True)∧((bif f then f=true else
 True)∧l=l)∧(↑l.length:Int)=(↑l.length:Int)∧x + (1:Int)=y∧True)∧(fr=fr∧to=to∧cut=cut∧True)∧(List.length (mrR (mrF (List.take x.toNat l) fr to cut))=List.length (mrR (mrF (List.take (Int.toNat y) l) fr to cut))∧True)∧((mrG (mrF (List.take x.toNat l) fr to cut) ++ [[AV.int .i64 n,.str s,.int .i64 n_1,.int .i64 n_2,.int .i64 n_3,.int .i64 n_4,.int .i64 n_5,.sl (2:Nat) false xs,.int .i64 n_6,.int .i64
 n_7]]).length=List.length (mrG (mrF (List.take (Int.toNat y) l) fr to cut))∧True)∧mrG (mrF (List.take x.toNat l) fr to cut) ++ [[AV.int .i64 n,.str s,.int .i64 n_1,.int .i64 n_2,.int .i64 n_3,.int .i64 n_4,.int .i64 n_5,.sl (2:Nat) false xs,.int .i64 n_6,.int .i64 n_7]]=mrG (mrF (List.take (Int.toNat y) l) fr to cut)∧mrR (mrF (List.take x.toNat l) fr to cut)=mrR (mrF (List.take (Int.toNat y) l) fr
 to cut)∧True else False else False else False else False else bif decide (List.length (mrG (mrF (List.take x.toNat l) fr to cut))=List.length (mrG (mrF (List.take x.toNat l) fr to cut))∧List.length (mrG (mrF (List.take x.toNat l) fr to cut)) + [[AV.int .i64 n,.str s,.int .i64 n_1,.int .i64 n_2,.int .i64 n_3,.int .i64 n_4,.int .i64 n_5,.sl (2:Nat) false xs,.int .i64 n_6,.int .i64 n_7]].length ≤
 (9223372036854775807:Nat)∧(List.length (mrG (mrF (List.take x.toNat l) fr to cut)) + [[AV.int .i64 n,.str s,.int .i64 n_1,.int .i64 n_2,.int .i64 n_3,.int .i64 n_4,.int .i64 n_5,.sl (2:Nat) false xs,.int .i64 n_6,.int .i64 n_7]].length) * (104:Nat)≤(140737488355328:Nat)) then bif decide (rng .i64 (x + (1:Int))) then ∃ y,ImP l y∧(im10 l f fr to cut).m y < (im10 l f fr to cut).m x∧(((bif f then
 f=true else True)∧l=l)∧(0:Nat)=0∧True∧(0:Int)=0∧(0:Nat)=0∧(0:Nat)=0∧((0:Nat)=0∧(0:Nat)=0∧True)∧((bif f then f=true else True)∧l=l)∧(↑l.length:Int)=(↑l.length:Int)∧x + (1:Int)=y∧True)∧(fr=fr∧to=to∧cut=cut∧True)∧(List.length (mrR (mrF (List.take x.toNat l) fr to cut))=List.length (mrR (mrF (List.take (Int.toNat y) l) fr to cut))∧True)∧((mrG (mrF (List.take x.toNat l) fr to cut) ++ [[AV.int .i64
 n,.str s,.int .i64 n_1,.int .i64 n_2,.int .i64 n_3,.int .i64 n_4,.int .i64 n_5,.sl (2:Nat) false xs,.int .i64 n_6,.int .i64 n_7]]).length=List.length (mrG (mrF (List.take (Int.toNat y) l) fr to cut))∧True)∧mrG (mrF (List.take x.toNat l) fr to cut) ++ [[AV.int .i64 n,.str s,.int .i64 n_1,.int .i64 n_2,.int .i64 n_3,.int .i64 n_4,.int .i64 n_5,.sl (2:Nat) false xs,.int .i64 n_6,.int .i64 n_7]]=mrG
 (mrF (List.take (Int.toNat y) l) fr to cut)∧mrR (mrF (List.take x.toNat l) fr to cut)=mrR (mrF (List.take (Int.toNat y) l) fr to cut)∧True else False else False else False else FlP (mrG (mrF (List.take x.toNat l) fr to cut)) (mrR (mrF (List.take x.toNat l) fr to cut)) (List.length (mrG (mrF (List.take x.toNat l) fr to cut))) (List.length (mrR (mrF (List.take x.toNat l) fr to cut)))∧bif decide
 (List.length (ouL (mrG (mrF (List.take x.toNat l) fr to cut)) (mrR (mrF (List.take x.toNat l) fr to cut)))=List.length (ouL (mrG (mrF (List.take x.toNat l) fr to cut)) (mrR (mrF (List.take x.toNat l) fr to cut)))) then (True∧ouL (mrG (mrF (List.take x.toNat l) fr to cut)) (mrR (mrF (List.take x.toNat l) fr to cut))=mrO l fr to cut)∧(0:Int)=mrE l fr to∧True else False
set_option maxRecDepth 100000 in
theorem imerge_P : imerge_T inV suC ouL mrE mrO itC itE cmpI orL cmpS gK gN gT gQ gR gC := by
  unfold imerge_T
  intro l f fr to cut hp _ _
  have bf : cond f (f=true) True := by cases f <;> trivial
  refine ⟨hp,csx (fun q => ?_) (fun q => ?_)⟩
  · have e : mrE l fr to=inV l := by unfold mrE; rw [if_neg q]
    exact ⟨by unfold mrO; rw [e,if_neg q],e.symm,trivial⟩
  have q := Decidable.not_not.1 q
  refine csx (fun q2 => ?_) (fun q2 => ?_)
  · have e : mrE l fr to=1 := by unfold mrE; rw [if_pos q,if_pos q2]
    exact ⟨by unfold mrO; rw [e]; rfl,e.symm,trivial⟩
  have e0 : mrE l fr to=0 := by unfold mrE; rw [if_pos q,if_neg q2]
  have ok : OkL l := ⟨hp,q⟩
  have h9 := (inV_ok q).1
  refine ⟨⟨0,⟨by decide,by omega⟩,⟨⟨bf,rfl⟩,rfl,trivial,rfl,rfl,rfl,⟨rfl,rfl,trivial⟩,⟨bf,rfl⟩,rfl,rfl,trivial⟩,⟨rfl,rfl,rfl,trivial⟩,⟨rfl,trivial⟩,⟨rfl,trivial⟩,rfl,rfl,trivial⟩,?_⟩
  rintro i ⟨i0,i1⟩
  refine csx (fun hi => cd1 (by omega) ?_) (fun hi => ?_)
  · have hil : i.toNat < l.length := by omega
    have hm : l.getD i.toNat [] ∈ l := by rw [getD_lt hil]; exact List.getElem_mem _
    obtain ⟨k,nm,t,f2,a,b,c,rd,co,ar,h1,h2,h3,h4⟩ := ok.row hm
    have fin : ∀ (G R : LLA),mrG (mrF (l.take (i.toNat + 1)) fr to cut)=G→mrR (mrF (l.take (i.toNat + 1)) fr to cut)=R→cond (decide (rng .i64 (i + 1))) (∃ y : Int,ImP l y∧(im10 l f fr to cut).m y < (im10 l f fr to cut).m i∧((cond f (f=true) True∧l=l)∧(0 : Nat)=0∧True∧(0 : Int)=0∧(0 : Nat)=0∧(0 : Nat)=0∧((0 : Nat)=0∧(0 : Nat)=0∧True)∧(cond f (f=true) True∧l=l)∧(l.length : Int)=l.length∧i + 1=y∧True)∧(fr=fr∧to=to∧cut=cut∧True)∧(R.length=(mrR (mrF (l.take y.toNat) fr to cut)).length∧True)∧(G.length=(mrG (mrF (l.take y.toNat) fr to cut)).length∧True)∧G=mrG (mrF (l.take y.toNat) fr to cut)∧R=mrR (mrF (l.take y.toNat) fr to cut)∧True) False := fun G R e1 e2 =>
      cdI (by omega) ⟨i + 1,⟨by omega,by omega⟩,by simp only [im10]; omega,⟨⟨bf,rfl⟩,rfl,trivial,rfl,rfl,rfl,⟨rfl,rfl,trivial⟩,⟨bf,rfl⟩,rfl,rfl,trivial⟩,⟨rfl,rfl,rfl,trivial⟩,by
        rw [show (i + 1).toNat=i.toNat + 1 by omega,e1,e2]; exact ⟨⟨rfl,trivial⟩,⟨rfl,trivial⟩,rfl,rfl,trivial⟩⟩
    refine ⟨k,nm,t,f2,a,b,c,rd,co,ar,by rw [h1]; rfl,?_⟩
    have hc : cntd fr to cut (l.getD i.toNat [])=(decide (ar≤cut) && (decide (fr≤t) && decide (t≤to))) := by rw [h1]; rfl
    have hF : (cut < ar∨t < fr∨to < t)→mrF (l.take (i.toNat + 1)) fr to cut=mrF (l.take i.toNat) fr to cut := fun z => mrF_f hil (by
      rw [hc]; simp only [Bool.and_eq_false_iff,decide_eq_false_iff_not]; omega)
    refine csx (fun z => fin _ _ (by rw [hF (.inl z)]) (by rw [hF (.inl z)])) (fun z1 => csx (fun z => fin _ _ (by rw [hF (.inr (.inl z))]) (by rw [hF (.inr (.inl z))])) (fun z2 => csx (fun z => fin _ _ (by rw [hF (.inr (.inr z))]) (by rw [hF (.inr (.inr z))])) (fun z3 => ?_)))
    have hT : mrF (l.take (i.toNat + 1)) fr to cut=mrF (l.take i.toNat) fr to cut ++ [itA k nm t f2 a b c rd co ar] := by
      rw [mrF_t hil (by rw [hc]; simp only [Bool.and_eq_true,decide_eq_true_eq]; omega),h1]
    rw [hT] at fin
    clear hF hT hc h1 hm
    have hfl := @mr_fl l fr to cut ok i.toNat
    have hFl : (mrF (l.take i.toNat) fr to cut).length≤l.length := Nat.le_trans (List.length_filter_le _ _) (by simp; omega)
    have hFs : ∀ x ∈ mrF (l.take i.toNat) fr to cut,x ∈ l := fun x hx => List.mem_of_mem_take (List.mem_filter.1 hx).1
    generalize mrF (l.take i.toNat) fr to cut=F at *
    obtain ⟨g1,g2,_,_⟩ := gs_sub F
    have g1 : ∀ x ∈ mrG F,x ∈ F := g1
    have g2 : (mrG F).length≤F.length := g2
    have new := @mr_new F
    have dif := @mr_dif F
    have up := @mr_up F
    have add := @mr_add F
    generalize mrG F=G at *
    cases G with
    | nil =>
      refine csx (fun w => absurd w (by simp)) (fun _ => csx (fun w => absurd w (by simp)) (fun _ => cd1 ⟨rfl,by simp,by simp⟩ (fin _ _ (new rfl).1 (new rfl).2)))
    | cons y g =>
      obtain ⟨k2,nm2,t2,f3,a2,b2,c2,rd2,co2,ar2,rfl,_,_,_⟩ := ok.row (hFs _ (g1 y (by simp)))
      have hg : (itA k2 nm2 t2 f3 a2 b2 c2 rd2 co2 ar2 :: g).length≤150 := by omega
      have hgp : (0 : Int) < ((itA k2 nm2 t2 f3 a2 b2 c2 rd2 co2 ar2 :: g).length : Nat) := by simp only [List.length_cons]; omega
      have hgn : 0 < (itA k2 nm2 t2 f3 a2 b2 c2 rd2 co2 ar2 :: g).length := by simp
      refine cd1 hgp (cd1 ⟨by decide,hgp⟩ (cd1 ⟨rfl,hgn⟩ ⟨k2,nm2,t2,f3,a2,b2,c2,rd2,rfl,trivial,csx (fun w => ?_) (fun w => ?_)⟩))
      · have hk : itKy (itA k2 nm2 t2 f3 a2 b2 c2 rd2 co2 ar2)≠itKy (itA k nm t f2 a b c rd co ar) := fun e => w (ky_su.2 e)
        exact ⟨hfl,fin _ _ (dif rfl hk).1 (dif rfl hk).2⟩
      · have hk : itKy (itA k2 nm2 t2 f3 a2 b2 c2 rd2 co2 ar2)=itKy (itA k nm t f2 a b c rd co ar) := ky_su.1 (Decidable.not_not.1 w)
        refine cd1 hgp (cd1 ⟨by decide,hgp⟩ (cd1 ⟨rfl,hgn⟩ ⟨co2,rfl,csx (fun v => ?_) (fun v => ?_)⟩))
        · exact fin _ _ (up rfl hk v).1 (up rfl hk v).2
        · exact cd1 ⟨rfl,by simp only [List.length_cons,List.length_nil] at hg ⊢; omega,by simp only [List.length_cons,List.length_nil] at hg ⊢; omega⟩ (fin _ _ (add rfl hk v).1 (add rfl hk v).2)
  · refine ⟨mr_fl ok _,cd1 rfl ⟨⟨trivial,?_⟩,e0.symm,trivial⟩⟩
    unfold mrO
    rw [if_pos e0,mr_end,List.take_of_length_le (by omega)]
def imerge_S (inV : LLA→Int) (suC : Int→ByteArray→Int→Int→ByteArray→Int→Int) (ouL : LLA→LLA→LLA) (mrE : LLA→Int→Int→Int) (mrO : LLA→Int→Int→Int→LLA) (itC : List AV→List AV→Int) (itE : Int→ByteArray→Int→Int→Int→Int→Int→LLA→Int→Int→Int) (cmpI : Int→Int→Int) (orL : List (List AV)→Int) (cmpS : ByteArray→ByteArray→Int) (gK : LLA→Int) (gN : LLA→ByteArray) (gT : LLA→Int) (gQ : LLA→Nat→Int) (gR : LLA→LLA) (gC : LLA→LLA) : Prop := ∀ (l : List (List AV)) (f : Bool) (fr to cut : Int),ItsP l→fnK Tryd.prog { glob := glb,spec := lk [(39,(ivalid_s inV itC itE)),(46,(subj_s cmpI orL cmpS suC))],specH := lk [(44,(iflush_s gK gN gT gQ gR gC ouL))],shape := [28,57,74],slz := [(28,[2]),(57,[2])],nowf := true } { nt := 85,drop := drp [(1,12288),(2,16384),(3,65536),(4,1966080),(8,4194304),(11,402653184),(12,562949416550400),(13,4610560118520545280),(14,9223372036854775808),(15,75520970237766904315904),(17,2266735911777429702574080),(18,2417851639229258349412352),(19,4835703278458516698824704),(20,19342813113834066795298816)],emp := fun id => cond (Nat.beq id 9) [(1000700,701,61,10),(1000800,700,50,10)] (cond (Nat.beq id 17) [(1000800,700,50,10),(1000800,700,50,10)] []) } (imJ l f fr to cut) 6 Tryd.f25 [.sl 10 f l,.agg [.int .i64 fr,.int .i64 to,.int .i64 cut]] (.tup [.sl 10 false (mrO l fr to cut),.int .i64 (mrE l fr to)])
set_option maxRecDepth 100000 in
theorem imerge_e (inV : LLA→Int) (suC : Int→ByteArray→Int→Int→ByteArray→Int→Int) (ouL : LLA→LLA→LLA) (mrE : LLA→Int→Int→Int) (mrO : LLA→Int→Int→Int→LLA) (itC : List AV→List AV→Int) (itE : Int→ByteArray→Int→Int→Int→Int→Int→LLA→Int→Int→Int) (cmpI : Int→Int→Int) (orL : List (List AV)→Int) (cmpS : ByteArray→ByteArray→Int) (gK : LLA→Int) (gN : LLA→ByteArray) (gT : LLA→Int) (gQ : LLA→Nat→Int) (gR : LLA→LLA) (gC : LLA→LLA) : imerge_T inV suC ouL mrE mrO itC itE cmpI orL cmpS gK gN gT gQ gR gC=imerge_S inV suC ouL mrE mrO itC itE cmpI orL cmpS gK gN gT gQ gR gC := by kernel_rfl
theorem imerge_v : imerge_S inV suC ouL mrE mrO itC itE cmpI orL cmpS gK gN gT gQ gR gC := @Eq.mp (imerge_T inV suC ouL mrE mrO itC itE cmpI orL cmpS gK gN gT gQ gR gC) (imerge_S inV suC ouL mrE mrO itC itE cmpI orL cmpS gK gN gT gQ gR gC) (imerge_e inV suC ouL mrE mrO itC itE cmpI orL cmpS gK gN gT gQ gR gC) (imerge_P)
theorem imerge_ok : SOK Tryd.prog glb 25 (imerge_s inV suC ouL mrE mrO) := by
  refine ⟨fok Tryd.func25 (by kernel_rfl) (by kernel_rfl),?_⟩
  intro xs pre r h hp
  unfold imerge_s at h
  split at h
  · simp only [Option.some.injEq,Prod.mk.injEq] at h
    obtain ⟨h1,h2⟩ := h
    subst h1 h2
    exact fnK_sound tyNil (by exact specOK rfl rfl ⟨(ivalid_ok),(subj_ok glb),trivial⟩ ⟨(iflush_ok glb),trivial⟩) (by kernel_rfl) Tryd.func25 rfl (imerge_v  _ _ _ _ _ hp)
  · cases h
end Go.Proofs.YtgnnafneglannaaDoor
namespace Go.Proofs.YtgnnafneglannaaDoor
open Go
set_option linter.unusedVariables false
set_option linter.unusedSimpArgs false
def intsEq (xs ys : List (List AV)) : Bool := decide (xs.length=ys.length∧∀ j,j < xs.length→cellI (xs.getD j [])=cellI (ys.getD j []))
theorem intsB_at {xs : List (List AV)} (h : IntsB xs) {i : Nat} (hi : i < xs.length) : List.take 1 (xs.getD i [])=[.int .i64 (cellI (xs.getD i []))] := by
  have e : xs.getD i []=xs[i] := by rw [List.getD_eq_getElem?_getD,List.getElem?_eq_getElem hi]; rfl
  rw [e]
  obtain ⟨n,hn,_⟩ := h.fi _ (List.getElem_mem hi)
  rw [hn]; rfl
structure IntsP (xs ys : List (List AV)) (i : Int) : Prop where
  flo : 0≤i
  fhi : i≤xs.length
  fe : ∀ j : Nat,(j : Int) < i→cellI (xs.getD j [])=cellI (ys.getD j [])
def intsL (f g : Bool) (xs ys : List (List AV)) : LInv := ⟨Int,fun i => ⟨[(0,.sl 1 f xs),(1,.sl 1 g ys),(5,.int .i64 i)],[]⟩,IntsP xs ys,fun i => (xs.length - i).toNat,none⟩
structure Ln (xs : List (List AV)) : Prop where
  fl : xs.length≤9223372036854775807
def kints_s : Sp
  | [.sl 1 f xs,.sl 1 g ys] => some ((IntsB xs∧IntsB ys)∧Ln xs∧Ln ys,.bool (intsEq xs ys))
  | _ => none
set_option maxRecDepth 100000 in
def kints_T : Prop :=
  ∀ (gl : Glob) (f g : Bool) (xs ys : List (List AV)),(IntsB xs∧IntsB ys)∧Ln xs∧Ln ys→True→True→bif decide ¬(↑xs.length:Int)=(↑ys.length:Int) then false=intsEq xs ys else (∃ x,IntsP xs ys x∧(((bif f then f=true else True)∧xs=xs)∧((bif g then g=true else True)∧ys=ys)∧(0:Int)=x∧True)∧True)∧∀ (x:Int),IntsP xs ys x→bif decide (x < (↑xs.length:Int)) then bif decide ((0:Int)≤x∧x < (↑xs.length:Int)) then
 ∃ n,List.take [AV.int .i64 n].length (xs.getD x.toNat [])=[AV.int .i64 n]∧bif decide ((0:Int)≤x∧x < (↑ys.length:Int)) then ∃ n_1,List.take [AV.int .i64 n_1].length (ys.getD x.toNat [])=[AV.int .i64 n_1]∧bif decide ¬n=n_1 then false=intsEq xs ys else bif decide (rng .i64 (x + (1:Int))) then ∃ y,IntsP xs ys y∧(intsL f g xs ys).m y < (intsL f g xs ys).m x∧(((bif f then f=true else True)∧xs=xs)∧((bif
 g then g=true else True)∧ys=ys)∧x + (1:Int)=y∧True)∧True else False else False else False else true=intsEq xs ys
set_option maxRecDepth 100000 in
theorem kints_P : kints_T := by
  unfold kints_T
  intro gl f g xs ys ⟨⟨hx,hy⟩,lx,ly⟩
  intros
  have l1 := lx.fl
  have l2 := ly.fl
  have bf : cond f (f=true) True := by cases f <;> trivial
  have bg : cond g (g=true) True := by cases g <;> trivial
  refine cs (fun h => ?_) (fun h => ⟨⟨0,⟨by decide,by omega,fun j h => by omega⟩,⟨⟨bf,rfl⟩,⟨bg,rfl⟩,rfl,trivial⟩,trivial⟩,?_⟩)
  · exact (decide_eq_false fun q => by omega).symm
  rintro i ⟨h0,h1,hn⟩
  refine cs (fun hl => cd1 (by omega) ⟨_,intsB_at hx (by omega),cd1 (by omega) ⟨_,intsB_at hy (by omega),cs (fun q => ?_) (fun q => ?_)⟩⟩) (fun hl => ?_)
  · exact (decide_eq_false fun z => q (z.2 i.toNat (by omega))).symm
  · refine cdI (by omega) ⟨i + 1,⟨by omega,by omega,fun j hj => ?_⟩,by simp only [intsL]; omega,⟨⟨bf,rfl⟩,⟨bg,rfl⟩,rfl,trivial⟩,trivial⟩
    rcases Nat.lt_or_ge j i.toNat with k | k
    · exact hn j (by omega)
    · rw [show j=i.toNat by omega]; exact Decidable.not_not.1 q
  · exact (decide_eq_true ⟨by omega,fun j hj => hn j (by omega)⟩).symm
def kints_S : Prop := ∀ (gl : Glob) (f g : Bool) (xs ys : List (List AV)),(IntsB xs∧IntsB ys)∧Ln xs∧Ln ys→fnK Tryd.prog { glob := gl,spec := lk [],specH := lk [],shape := [20,24],nowf := true } { nt := 26,drop := drp [(1,960),(4,14336),(5,98304),(6,33423360)] } (invs [(4,intsL f g xs ys)]) 6 Tryd.f43 [.sl 1 f xs,.sl 1 g ys] (.bool (intsEq xs ys))
set_option maxRecDepth 100000 in
theorem kints_e : kints_T=kints_S := by kernel_rfl
theorem kints_v : kints_S := @Eq.mp (kints_T) (kints_S) (kints_e) (kints_P)
theorem kints_ok (gl : Glob) : SOK Tryd.prog gl 43 kints_s := by
  refine ⟨fok Tryd.func43 (by kernel_rfl) (by kernel_rfl),?_⟩
  intro xs pre r h hp
  unfold kints_s at h
  split at h
  · simp only [Option.some.injEq,Prod.mk.injEq] at h
    obtain ⟨h1,h2⟩ := h
    subst h1 h2
    exact fnK_sound tyNil (by exact specOK rfl rfl trivial trivial) (by kernel_rfl) Tryd.func43 rfl (kints_v gl _ _ _ _ hp)
  · cases h
structure InP (xs : List (List AV)) (n i : Int) : Prop where
  flo : 0≤i
  fhi : i≤xs.length
  fe : ∀ j : Nat,(j : Int) < i→¬ cellI (xs.getD j [])=n
end Go.Proofs.YtgnnafneglannaaDoor
namespace Go.Proofs.YtgnnafneglannaaDoor
open Go
set_option linter.unusedVariables false
set_option linter.unusedSimpArgs false
def nm0 : ByteArray := ⟨#[48,49,50,51,52]⟩
def rpa : List AV := rpR 1 nm0 100 0 0 0 0 [[.int .i64 1,.int .i64 10132],[.int .i64 2,.int .i64 2800]]
def rpb : List AV := rpR 1 nm0 100 0 0 0 0 [[.int .i64 2,.int .i64 2810]]
def aw1 : LLA := [itA 1 nm0 100 0 0 0 0 [[.int .i64 1,.int .i64 10132],[.int .i64 2,.int .i64 2800]] 0 110,itA 1 nm0 100 0 0 0 0 [[.int .i64 2,.int .i64 2810]] 0 110]
def awc : List AV := itA 1 nm0 100 0 0 0 0 [[.int .i64 2,.int .i64 2805]] 1 120
def aw2 : LLA := aw1 ++ [awc]
theorem aw_tE : tkE [] [rpa,rpb,rpa] 0 110=0 := by kernel_rfl
theorem aw_tN : tkN [] [rpa,rpb,rpa] 0 110=2 := by kernel_rfl
theorem aw_tO : tkO [] [rpa,rpb,rpa] 0 110=aw1 := by kernel_rfl
theorem aw_m1 : mrO aw1 0 200 200=[[.int .i64 1,.str nm0,.int .i64 100,.int .i64 0,.int .i64 0,.int .i64 0,.int .i64 0,.sl 2 false [[.int .i64 1,.int .i64 10132]],.int .i64 2,.sl 1 false [[.int .i64 2]]]] := by kernel_rfl
theorem aw_e1 : mrE aw1 0 200=0 := by kernel_rfl
theorem aw_aE : adE aw1 awc=0 := by kernel_rfl
theorem aw_aO : adO aw1 awc=aw2 := by kernel_rfl
theorem aw_m2 : mrO aw2 0 200 200=[[.int .i64 1,.str nm0,.int .i64 100,.int .i64 0,.int .i64 0,.int .i64 0,.int .i64 0,.sl 2 false [[.int .i64 2,.int .i64 2805]],.int .i64 1,.sl 1 false []]] := by kernel_rfl
theorem aw_e2 : mrE aw2 0 200=0 := by kernel_rfl
theorem rpa_g : RpG rpa := ⟨_,_,_,_,_,_,_,_,rfl,⟨fun i hi => by
  have : i=0∨i=1 := by simp at hi; omega
  rcases this with rfl | rfl <;> exact ⟨_,_,rfl,by decide,by decide⟩,by decide⟩,by decide⟩
theorem rpb_g : RpG rpb := ⟨_,_,_,_,_,_,_,_,rfl,⟨fun i hi => by
  have : i=0 := by simp at hi; omega
  subst this
  exact ⟨_,_,rfl,by decide,by decide⟩,by decide⟩,by decide⟩
theorem aw_tk : TkP [] [rpa,rpb,rpa] := by
  have g : GdL [] := ⟨by simp,by decide⟩
  refine ⟨g.p,fun _ => g,⟨fun i hi => ?_,by decide⟩⟩
  have : i=0∨i=1∨i=2 := by simp at hi; omega
  rcases this with rfl | rfl | rfl
  · exact rpa_g
  · exact rpb_g
  · exact rpa_g
structure AwP (rs : LLA) (co ar : Int) : Prop where
  fr : rs=[rpa,rpb,rpa]
  fc : co=0
  fa : ar=110
def itakeN_s (aw1 : LLA) : Sp
  | [.nils,.sl 8 e rs,.int .i64 co,.int .i64 ar] => some (AwP rs co ar,.tup [.sl 10 false aw1,.int .i64 2,.int .i64 0])
  | _ => none
theorem itakeN_ok : SOK Tryd.prog glb 18 (itakeN_s aw1) := by
  obtain ⟨hf,h⟩ := itake_ok
  refine ⟨hf,fun xs pre r e hp => ?_⟩
  unfold itakeN_s at e
  split at e
  · rename_i b rs co ar
    simp only [Option.some.injEq,Prod.mk.injEq] at e
    obtain ⟨rfl,rfl⟩ := e
    obtain ⟨rfl,rfl,rfl⟩ := hp
    have bb : cond b (b=true) True := by cases b <;> trivial
    have hc := h [.sl 10 false [],.sl 8 b [rpa,rpb,rpa],.int .i64 0,.int .i64 110] _ _ rfl aw_tk
    rw [aw_tO,aw_tN,aw_tE] at hc
    exact fun w S vs hg ha hv => hc w S vs hg ha (leL_sound [.nils,.sl 8 b [rpa,rpb,rpa],.int .i64 0,.int .i64 110] _ noNm _ ⟨rfl,⟨bb,rfl⟩,rfl,rfl,trivial⟩ hv)
  · cases e
theorem rpc_g : RpG (rpR 1 nm0 100 0 0 0 0 [[.int .i64 2,.int .i64 2805]]) := ⟨_,_,_,_,_,_,_,_,rfl,⟨fun i hi => by
  have : i=0 := by simp at hi; omega
  subst this
  exact ⟨_,_,rfl,by decide,by decide⟩,by decide⟩,by decide⟩
theorem aw_g1 : GdL aw1 := ⟨fun r hr => by
  simp only [aw1,List.mem_cons,List.not_mem_nil,or_false] at hr
  rcases hr with rfl | rfl
  · exact ItG.of rpa_g 0 110
  · exact ItG.of rpb_g 0 110,by decide⟩
theorem aw_g2 : GdL aw2 := ⟨fun r hr => by
  rcases List.mem_append.1 hr with hr | hr
  · exact aw_g1.fg r hr
  · rw [List.mem_singleton.1 hr]; exact ItG.of rpc_g 1 120,by decide⟩
def iawake_s (aw1 : LLA) (mrE : LLA→Int→Int→Int) (mrO : LLA→Int→Int→Int→LLA) (adE : LLA→List AV→Int) (adO : LLA→List AV→LLA) : Sp
  | [] => some (True,.bool true)
  | _ => none
set_option maxRecDepth 100000 in
def iawake_T (aw1 : LLA) (mrE : LLA→Int→Int→Int) (mrO : LLA→Int→Int→Int→LLA) (adE : LLA→List AV→Int) (adO : LLA→List AV→LLA) (inV : LLA→Int) (suC : Int→ByteArray→Int→Int→ByteArray→Int→Int) (ouL : LLA→LLA→LLA) (puE : LLA→List AV→Int) (puN : LLA→List AV→Int) (addI : LLA→List AV→LLA) : Prop :=
  AwP [[AV.int .i64 (1:Int),.str { data := #[(48 : UInt8),(49 : UInt8),(50 : UInt8),(51 : UInt8),(52 : UInt8)] },.int .i64 (100:Int),.int .i64 (0:Int),.int .i64 (0:Int),.int .i64 (0:Int),.int .i64 (0:Int),.sl (2:Nat) false [[AV.int .i64 (1:Int),.int .i64 (10132:Int)],[AV.int .i64 (2:Int),.int .i64 (2800:Int)]]],[AV.int .i64 (1:Int),.str { data := #[(48 : UInt8),(49 : UInt8),(50 : UInt8),(51 :
 UInt8),(52 : UInt8)] },.int .i64 (100:Int),.int .i64 (0:Int),.int .i64 (0:Int),.int .i64 (0:Int),.int .i64 (0:Int),.sl (2:Nat) false [[AV.int .i64 (2:Int),.int .i64 (2810:Int)]]],[AV.int .i64 (1:Int),.str { data := #[(48 : UInt8),(49 : UInt8),(50 : UInt8),(51 : UInt8),(52 : UInt8)] },.int .i64 (100:Int),.int .i64 (0:Int),.int .i64 (0:Int),.int .i64 (0:Int),.int .i64 (0:Int),.sl (2:Nat) false
 [[AV.int .i64 (1:Int),.int .i64 (10132:Int)],[AV.int .i64 (2:Int),.int .i64 (2800:Int)]]]] (0:Int) (110:Int)∧ItsP aw1∧AdP aw1 [[AV.int .i64 (2:Int),.int .i64 (2805:Int)]]∧ItsP (adO aw1 (itA (1:Int) { data := #[(48 : UInt8),(49 : UInt8),(50 : UInt8),(51 : UInt8),(52 : UInt8)] } (100:Int) (0:Int) (0:Int) (0:Int) (0:Int) [[AV.int .i64 (2:Int),.int .i64 (2805:Int)]] (1:Int) (120:Int)))∧bif decide (mrE
 aw1 (0:Int) (200:Int)=0) then bif decide (adE aw1 (itA (1:Int) { data := #[(48 : UInt8),(49 : UInt8),(50 : UInt8),(51 : UInt8),(52 : UInt8)] } (100:Int) (0:Int) (0:Int) (0:Int) (0:Int) [[AV.int .i64 (2:Int),.int .i64 (2805:Int)]] (1:Int) (120:Int))=(0:Int)) then bif decide (mrE (adO aw1 (itA (1:Int) { data := #[(48 : UInt8),(49 : UInt8),(50 : UInt8),(51 : UInt8),(52 : UInt8)] } (100:Int) (0:Int)
 (0:Int) (0:Int) (0:Int) [[AV.int .i64 (2:Int),.int .i64 (2805:Int)]] (1:Int) (120:Int))) (0:Int) (200:Int)=0) then bif decide ((↑(List.length (mrO aw1 (0:Int) (200:Int) (200:Int))):Int)=(1:Int)) then bif decide ((0:Int)≤(0:Int)∧(0:Int) < (↑(List.length (mrO aw1 (0:Int) (200:Int) (200:Int))):Int)) then ∃ xs,List.take [AV.sl (1:Nat) false xs].length (List.drop (9:Nat) (List.getD (mrO aw1 (0:Int)
 (200:Int) (200:Int)) (0:Nat) []))=[AV.sl (1:Nat) false xs]∧((IntsB xs∧IntsB [[AV.int .i64 (2:Int)]])∧Ln xs∧Ln [[AV.int .i64 (2:Int)]])∧bif intsEq xs [[AV.int .i64 (2:Int)]] then bif decide ((0:Int)≤(0:Int)∧(0:Int) < (↑(List.length (mrO aw1 (0:Int) (200:Int) (200:Int))):Int)) then ∃ xs,List.take [AV.sl (2:Nat) false xs].length (List.drop (7:Nat) (List.drop (0:Nat) (List.getD (mrO aw1 (0:Int)
 (200:Int) (200:Int)) (0:Nat) [])))=[AV.sl (2:Nat) false xs]∧bif decide ((↑xs.length:Int)=(1:Int)) then bif decide ((↑(List.length (mrO (adO aw1 (itA (1:Int) { data := #[(48 : UInt8),(49 : UInt8),(50 : UInt8),(51 : UInt8),(52 : UInt8)] } (100:Int) (0:Int) (0:Int) (0:Int) (0:Int) [[AV.int .i64 (2:Int),.int .i64 (2805:Int)]] (1:Int) (120:Int))) (0:Int) (200:Int) (200:Int))):Int)=(1:Int)) then bif
 decide ((0:Int)≤(0:Int)∧(0:Int) < (↑(List.length (mrO (adO aw1 (itA (1:Int) { data := #[(48 : UInt8),(49 : UInt8),(50 : UInt8),(51 : UInt8),(52 : UInt8)] } (100:Int) (0:Int) (0:Int) (0:Int) (0:Int) [[AV.int .i64 (2:Int),.int .i64 (2805:Int)]] (1:Int) (120:Int))) (0:Int) (200:Int) (200:Int))):Int)) then ∃ n,List.take [AV.int .i64 n].length (List.drop (8:Nat) (List.getD (mrO (adO aw1 (itA (1:Int) {
 data := #[(48 : UInt8),(49 : UInt8),(50 : UInt8),(51 : UInt8),(52 : UInt8)] } (100:Int) (0:Int) (0:Int) (0:Int) (0:Int) [[AV.int .i64 (2:Int),.int .i64 (2805:Int)]] (1:Int) (120:Int))) (0:Int) (200:Int) (200:Int)) (0:Nat) []))=[AV.int .i64 n]∧bif decide (n=(1:Int)) then bif decide ((0:Int)≤(0:Int)∧(0:Int) < (↑(List.length (mrO (adO aw1 (itA (1:Int) { data := #[(48 : UInt8),(49 : UInt8),(50 :
 UInt8),(51 : UInt8),(52 : UInt8)] } (100:Int) (0:Int) (0:Int) (0:Int) (0:Int) [[AV.int .i64 (2:Int),.int .i64 (2805:Int)]] (1:Int) (120:Int))) (0:Int) (200:Int) (200:Int))):Int)) then ∃ xs,List.take [AV.sl (2:Nat) false xs].length (List.drop (7:Nat) (List.drop (0:Nat) (List.getD (mrO (adO aw1 (itA (1:Int) { data := #[(48 : UInt8),(49 : UInt8),(50 : UInt8),(51 : UInt8),(52 : UInt8)] } (100:Int)
 (0:Int) (0:Int) (0:Int) (0:Int) [[AV.int .i64 (2:Int),.int .i64 (2805:Int)]] (1:Int) (120:Int))) (0:Int) (200:Int) (200:Int)) (0:Nat) [])))=[AV.sl (2:Nat) false xs]∧bif decide ((0:Int)≤(0:Int)∧(0:Int) < (↑xs.length:Int)) then ∃ n,List.take [AV.int .i64 n].length (List.drop (1:Nat) (xs.getD (0:Nat) []))=[AV.int .i64 n]∧decide (n=(2805:Int))=true else False else False else false=true else False
 else false=true else false=true else False else false=true else False else false=true else false=true else false=true else false=true
set_option maxRecDepth 100000 in
theorem iawake_P : iawake_T aw1 mrE mrO adE adO inV suC ouL puE puN addI := by
  unfold iawake_T
  have hO : adO aw1 (itA 1 ⟨#[48,49,50,51,52]⟩ 100 0 0 0 0 [[.int .i64 2,.int .i64 2805]] 1 120)=aw2 := aw_aO
  have hE : adE aw1 (itA 1 ⟨#[48,49,50,51,52]⟩ 100 0 0 0 0 [[.int .i64 2,.int .i64 2805]] 1 120)=0 := aw_aE
  have hi : intsEq [[.int .i64 2]] [[.int .i64 2]]=true := by kernel_rfl
  have hb : IntsB [[.int .i64 2]] := ints_of [2] (by decide)
  have hl : Ln [[.int .i64 2]] := ⟨by decide⟩
  refine ⟨⟨rfl,rfl,rfl⟩,aw_g1.p,⟨aw_g1.p,fun _ => aw_g1,⟨fun i hi => ?_,by decide⟩,by decide⟩,by rw [hO]; exact aw_g2.p,?_⟩
  · have : i=0 := by simp at hi; omega
    subst this
    exact ⟨_,_,rfl,by decide,by decide⟩
  rw [hO,hE,aw_e1,aw_e2,aw_m1,aw_m2]
  refine cd1 rfl (cd1 rfl (cd1 rfl (cd1 rfl (cd1 (by decide) ⟨_,rfl,⟨⟨hb,hb⟩,hl,hl⟩,?_⟩))))
  rw [hi,cond_true]
  refine cd1 (by decide) ⟨_,rfl,?_⟩
  refine cd1 rfl ?_
  refine cd1 rfl ?_
  refine cd1 (by decide) ⟨_,rfl,?_⟩
  refine cd1 rfl ?_
  refine cd1 (by decide) ⟨_,rfl,?_⟩
  refine cd1 (by decide) ⟨_,rfl,?_⟩
  rfl
def iawake_S (aw1 : LLA) (mrE : LLA→Int→Int→Int) (mrO : LLA→Int→Int→Int→LLA) (adE : LLA→List AV→Int) (adO : LLA→List AV→LLA) (inV : LLA→Int) (suC : Int→ByteArray→Int→Int→ByteArray→Int→Int) (ouL : LLA→LLA→LLA) (puE : LLA→List AV→Int) (puN : LLA→List AV→Int) (addI : LLA→List AV→LLA) : Prop := fnK Tryd.prog { glob := glb,spec := lk [(18,(itakeN_s aw1)),(25,(imerge_s inV suC ouL mrE mrO)),(22,(iadd_s inV puE puN addI adE adO)),(43,kints_s)],specH := lk [],shape := [77,86,99,107,110],slz := [(77,[1]),(86,[2]),(107,[2])],nowf := true } { nt := 113,drop := drp [(1,61440),(2,458752),(3,3670016),(4,2143289344),(5,135291469824),(6,17454747090944),(7,1108307720798208),(8,10384593717069655255935092751597568)],frz := fun id => cond (Nat.beq id 4) [1000014,1000017] (cond (Nat.beq id 6) [1000020] []) } (fun _ _ => none) 6 Tryd.f21 [] (.bool true)
set_option maxRecDepth 100000 in
theorem iawake_e (aw1 : LLA) (mrE : LLA→Int→Int→Int) (mrO : LLA→Int→Int→Int→LLA) (adE : LLA→List AV→Int) (adO : LLA→List AV→LLA) (inV : LLA→Int) (suC : Int→ByteArray→Int→Int→ByteArray→Int→Int) (ouL : LLA→LLA→LLA) (puE : LLA→List AV→Int) (puN : LLA→List AV→Int) (addI : LLA→List AV→LLA) : iawake_T aw1 mrE mrO adE adO inV suC ouL puE puN addI=iawake_S aw1 mrE mrO adE adO inV suC ouL puE puN addI := by kernel_rfl
theorem iawake_v : iawake_S aw1 mrE mrO adE adO inV suC ouL puE puN addI := @Eq.mp (iawake_T aw1 mrE mrO adE adO inV suC ouL puE puN addI) (iawake_S aw1 mrE mrO adE adO inV suC ouL puE puN addI) (iawake_e aw1 mrE mrO adE adO inV suC ouL puE puN addI) (iawake_P)
theorem iawake_ok : SOK Tryd.prog glb 21 (iawake_s aw1 mrE mrO adE adO) := by
  refine ⟨fok Tryd.func21 (by kernel_rfl) (by kernel_rfl),?_⟩
  intro xs pre r h hp
  unfold iawake_s at h
  split at h
  · simp only [Option.some.injEq,Prod.mk.injEq] at h
    obtain ⟨h1,h2⟩ := h
    subst h1 h2
    exact fnK_sound tyNil (by exact specOK rfl rfl ⟨(itakeN_ok),(imerge_ok),(iadd_ok),(kints_ok glb),trivial⟩ trivial) (by kernel_rfl) Tryd.func21 rfl (iawake_v  )
  · cases h
end Go.Proofs.YtgnnafneglannaaDoor
namespace Go.Proofs.YtgnnafneglannaaDoor
open Go
set_option linter.unusedVariables false
set_option linter.unusedSimpArgs false
structure WinQ (m fr to cut j : Int) : Prop where
  ff : m - 150≤fr∧fr≤m
  ft : m - 5≤to∧to≤m + 150
  fc : m - 70≤cut∧cut≤m + 310
  fj : 0≤j
end Go.Proofs.YtgnnafneglannaaDoor
namespace Go.Proofs.YtgnnafneglannaaDoor
open Go
set_option linter.unusedVariables false
set_option linter.unusedSimpArgs false
def rsame_s (rdC : LLA→LLA→Int) (cmpI : Int→Int→Int) (cmpS : ByteArray→ByteArray→Int) : Sp
  | [.agg [.int .i64 k,.str n,.int .i64 t,.int .i64 f,.int .i64 a,.int .i64 b,.int .i64 c,.sl 2 h rd],.agg [.int .i64 k2,.str n2,.int .i64 t2,.int .i64 f2,.int .i64 a2,.int .i64 b2,.int .i64 c2,.sl 2 h2 rd2]] => some (RdsP rd∧RdsP rd2,.bool (decide (orI (cmpI k k2) (orI (cmpS n n2) (orI (cmpI t t2) (orI (cmpI f f2) (orI (cmpI a a2) (orI (cmpI b b2) (orI (cmpI c c2) (rdC rd rd2)))))))=0)))
  | _ => none
set_option maxRecDepth 100000 in
def rsame_T (rdC : LLA→LLA→Int) (cmpI : Int→Int→Int) (cmpS : ByteArray→ByteArray→Int) : Prop :=
  ∀ (gl : Glob) (k t f a b c k2 t2 f2 a2 b2 c2 : Int) (n n2 : ByteArray) (rd rd2 : List (List AV)) (h h2 : Bool),RdsP rd∧RdsP rd2→((-9223372036854775808 : Int)≤k∧k ≤
  (9223372036854775807 : Int))∧n.size.le (9223372036854775807 : Nat)∧((-9223372036854775808 : Int)≤t∧t≤(9223372036854775807 : Int))∧((-9223372036854775808 : Int)≤f∧f
 ≤(9223372036854775807 : Int))∧((-9223372036854775808 : Int)≤a∧a≤(9223372036854775807 : Int))∧((-9223372036854775808 : Int)≤b∧b≤(9223372036854775807 : Int)) ∧
  ((-9223372036854775808 : Int)≤c∧c≤(9223372036854775807 : Int))∧True∧True→((-9223372036854775808 : Int)≤k2∧k2≤(9223372036854775807 : Int))∧n2.size.le
  (9223372036854775807 : Nat)∧((-9223372036854775808 : Int)≤t2∧t2≤(9223372036854775807 : Int))∧((-9223372036854775808 : Int)≤f2∧f2≤(9223372036854775807 : Int)) ∧
  ((-9223372036854775808 : Int)≤a2∧a2≤(9223372036854775807 : Int))∧((-9223372036854775808 : Int)≤b2∧b2≤(9223372036854775807 : Int))∧((-9223372036854775808 : Int)≤c2
 ∧c2≤(9223372036854775807 : Int))∧True∧True→(RdsP rd∧RdsP rd2)∧decide (orI (cmpI k k2) (orI (cmpS n n2) (orI (cmpI t t2) (orI (cmpI f f2) (orI (cmpI a a2) (orI (cmpI b
  b2) (orI (cmpI c c2) (rdC rd rd2)))))))=(0 : Int))=decide (orI (cmpI k k2) (orI (cmpS n n2) (orI (cmpI t t2) (orI (cmpI f f2) (orI (cmpI a a2) (orI (cmpI b b2) (orI (cmpI c c2)
  (rdC rd rd2)))))))=(0 : Int))
set_option maxRecDepth 100000 in
theorem rsame_P : rsame_T rdC cmpI cmpS := by
  unfold rsame_T
  intro gl k t f a b c k2 t2 f2 a2 b2 c2 n n2 rd rd2 h h2 hp _ _
  exact ⟨hp,rfl⟩
def rsame_S (rdC : LLA→LLA→Int) (cmpI : Int→Int→Int) (cmpS : ByteArray→ByteArray→Int) : Prop := ∀ (gl : Glob) (k t f a b c k2 t2 f2 a2 b2 c2 : Int) (n n2 : ByteArray) (rd rd2 : List (List AV)) (h h2 : Bool),RdsP rd∧RdsP rd2→fnK Tryd.prog { glob := gl,spec := lk [(57,(rcmp_s rdC cmpI cmpS))],specH := lk [],nowf := true } { nt := 9,drop := drp [(1,480)] } (fun _ _ => none) 6 Tryd.f48 [.agg [.int .i64 k,.str n,.int .i64 t,.int .i64 f,.int .i64 a,.int .i64 b,.int .i64 c,.sl 2 h rd],.agg [.int .i64 k2,.str n2,.int .i64 t2,.int .i64 f2,.int .i64 a2,.int .i64 b2,.int .i64 c2,.sl 2 h2 rd2]] (.bool (decide (orI (cmpI k k2) (orI (cmpS n n2) (orI (cmpI t t2) (orI (cmpI f f2) (orI (cmpI a a2) (orI (cmpI b b2) (orI (cmpI c c2) (rdC rd rd2)))))))=0)))
set_option maxRecDepth 100000 in
theorem rsame_e (rdC : LLA→LLA→Int) (cmpI : Int→Int→Int) (cmpS : ByteArray→ByteArray→Int) : rsame_T rdC cmpI cmpS=rsame_S rdC cmpI cmpS := by kernel_rfl
theorem rsame_v : rsame_S rdC cmpI cmpS := @Eq.mp (rsame_T rdC cmpI cmpS) (rsame_S rdC cmpI cmpS) (rsame_e rdC cmpI cmpS) (rsame_P)
theorem rsame_ok (gl : Glob) : SOK Tryd.prog gl 48 (rsame_s rdC cmpI cmpS) := by
  refine ⟨fok Tryd.func48 (by kernel_rfl) (by kernel_rfl),?_⟩
  intro xs pre r h hp
  unfold rsame_s at h
  split at h
  · simp only [Option.some.injEq,Prod.mk.injEq] at h
    obtain ⟨h1,h2⟩ := h
    subst h1 h2
    exact fnK_sound tyNil (by exact specOK rfl rfl ⟨(rcmp_ok gl),trivial⟩ trivial) (by kernel_rfl) Tryd.func48 rfl (rsame_v gl _ _ _ _ _ _ _ _ _ _ _ _ _ _ _ _ _ _ hp)
  · cases h
theorem or_same (k t f a b c : Int) (n : ByteArray) (rd : LLA) : orI (cmpI k k) (orI (cmpS n n) (orI (cmpI t t) (orI (cmpI f f) (orI (cmpI a a) (orI (cmpI b b) (orI (cmpI c c) (rdC rd rd)))))))=0 := by
  have hc : ∀ z : Int,cmpI z z=0 := fun z => by unfold cmpI; simp
  have hs : cmpS n n=0 := by rw [← lex_nm0]; exact lexI_rfl _
  have hr : rdC rd rd=0 := lexI_rfl _
  rw [hc,hc,hc,hc,hc,hc,hs,hr]
  rfl
structure MgS (r : List AV) : Prop where
  fr : ∃ (k : Int) (nm : ByteArray) (t f a b c : Int) (rd : LLA) (vs : Int) (cs : LLA),r=[.int .i64 k,.str nm,.int .i64 t,.int .i64 f,.int .i64 a,.int .i64 b,.int .i64 c,.sl 2 false rd,.int .i64 vs,.sl 1 false cs]∧RdsP rd∧IntsB cs∧cs.length≤9223372036854775807
structure MgL (l : LLA) : Prop where
  fr : ∀ i,i < l.length→MgS (l.getD i [])
  fl : l.length≤9223372036854775807
structure SmO (a : LLA) (i : Int) : Prop where
  flo : 0≤i
  fhi : i≤a.length
def so4 (a b : LLA) (g h : Bool) : LInv := ⟨Int,fun i => ⟨[(0,.sl 10 g a),(1,.sl 10 h b),(5,.int .i64 i)],[]⟩,SmO a,fun i => (a.length - i).toNat,none⟩
structure SmN (cs : LLA) (q : Int) : Prop where
  flo : 0≤q
  fhi : q≤cs.length
def so10 (a b : LLA) (g h : Bool) (i : Int) (u v : List AV) (cs : LLA) : LInv := ⟨Int,fun q => ⟨[(0,.sl 10 g a),(1,.sl 10 h b),(5,.int .i64 i),(6,.ptr 6 0),(7,.ptr 7 0),(8,.int .i64 q)],[(6,.cells u),(7,.cells v)]⟩,SmN cs,fun q => (cs.length - q).toNat,none⟩
def soJ (a b : LLA) (g h : Bool) (id : Nat) (st : St) : Option LInv := cond (Nat.beq id 4) (some (so4 a b g h)) (cond (Nat.beq id 10) (match lk st.tmps 5,lk st.heap 6,lk st.heap 7 with
  | some (.int _ i),some (.cells [u0,u1,u2,u3,u4,u5,u6,u7,u8,.sl 1 _ cs]),some (.cells v) => some (so10 a b g h i [u0,u1,u2,u3,u4,u5,u6,u7,u8,.sl 1 false cs] v cs)
  | _,_,_ => none) none)
def rsmm_s (rdC : LLA→LLA→Int) (cmpI : Int→Int→Int) (cmpS : ByteArray→ByteArray→Int) : Sp
  | [.sl 10 g a,.sl 10 h b] => some (MgL a∧b=a,.bool true)
  | _ => none
set_option maxRecDepth 100000 in
def rsmm_T (rdC : LLA→LLA→Int) (cmpI : Int→Int→Int) (cmpS : ByteArray→ByteArray→Int) : Prop :=
  ∀ (gl : Glob) (a b : List (List AV)) (g h : Bool),MgL a∧b=a→True→True→bif decide ¬(↑a.length : Int)=(↑b.length : Int) then false=true else (∃ x,SmO a x∧(((bif g
  then g=true else True)∧a=a)∧((bif h then h=true else True)∧b=b)∧(0 : Int)=x∧True)∧True)∧∀ (x : Int),SmO a x→bif decide (x < (↑a.length : Int)) then bif
  decide ((0 : Int)≤x∧x < (↑a.length : Int)) then ∃ n s n_1 n_2 n_3 n_4 n_5 xs n_6 xs_1,List.take [AV.int IntKind.i64 n,AV.str s,AV.int IntKind.i64 n_1,AV.int IntKind.i64
  n_2,AV.int IntKind.i64 n_3,AV.int IntKind.i64 n_4,AV.int IntKind.i64 n_5,AV.sl (2 : Nat) false xs,AV.int IntKind.i64 n_6,AV.sl (1 : Nat) false xs_1].length (a.getD x.toNat
  [])=[AV.int IntKind.i64 n,AV.str s,AV.int IntKind.i64 n_1,AV.int IntKind.i64 n_2,AV.int IntKind.i64 n_3,AV.int IntKind.i64 n_4,AV.int IntKind.i64 n_5,AV.sl (2 : Nat) false
  xs,AV.int IntKind.i64 n_6,AV.sl (1 : Nat) false xs_1]∧bif decide ((0 : Int)≤x∧x < (↑b.length : Int)) then ∃ n_7 s_1 n_8 n_9 n_10 n_11 n_12 xs_2 n_13 xs_3,List.take [AV.int
  IntKind.i64 n_7,AV.str s_1,AV.int IntKind.i64 n_8,AV.int IntKind.i64 n_9,AV.int IntKind.i64 n_10,AV.int IntKind.i64 n_11,AV.int IntKind.i64 n_12,AV.sl (2 : Nat) false xs_2,
  AV.int IntKind.i64 n_13,AV.sl (1 : Nat) false xs_3].length (b.getD x.toNat [])=[AV.int IntKind.i64 n_7,AV.str s_1,AV.int IntKind.i64 n_8,AV.int IntKind.i64 n_9,AV.int
  IntKind.i64 n_10,AV.int IntKind.i64 n_11,AV.int IntKind.i64 n_12,AV.sl (2 : Nat) false xs_2,AV.int IntKind.i64 n_13,AV.sl (1 : Nat) false xs_3]∧(RdsP xs∧RdsP xs_2)∧bif
  !decide (orI (cmpI n n_7) (orI (cmpS s s_1) (orI (cmpI n_1 n_8) (orI (cmpI n_2 n_9) (orI (cmpI n_3 n_10) (orI (cmpI n_4 n_11) (orI (cmpI n_5 n_12) (rdC xs xs_2)))))))=(0 : Int))
  then false=true else bif decide ¬n_6=n_13 then false=true else bif decide ¬(↑xs_1.length : Int)=(↑xs_3.length : Int) then false=true else (∃ x_1,SmN xs_1 x_1∧(((bif g
  then g=true else True)∧a=a)∧((bif h then h=true else True)∧b=b)∧x=x∧(0 : Nat)=(0 : Nat)∧(0 : Nat)=(0 : Nat)∧(0 : Int)=x_1∧True)∧(n=n∧s=s ∧
  n_1=n_1∧n_2=n_2∧n_3=n_3∧n_4=n_4∧n_5=n_5∧(True∧xs=xs)∧n_6=n_6∧(True∧xs_1=xs_1)∧True)∧(n_7=n_7∧s_1=s_1∧n_8=n_8∧n_9=n_9∧n_10 =
  n_10∧n_11=n_11∧n_12=n_12∧(True∧xs_2=xs_2)∧n_13=n_13∧(True∧xs_3=xs_3)∧True)∧True)∧∀ (x_1 : Int),SmN xs_1 x_1→bif decide (x_1 < (↑xs_1.length : Int))
  then bif decide ((0 : Int)≤x_1∧x_1 < (↑xs_1.length : Int)) then ∃ n_14,List.take [AV.int IntKind.i64 n_14].length (xs_1.getD x_1.toNat [])=[AV.int IntKind.i64 n_14]∧bif
  decide ((0 : Int)≤x_1∧x_1 < (↑xs_3.length : Int)) then ∃ n_15,List.take [AV.int IntKind.i64 n_15].length (xs_3.getD x_1.toNat [])=[AV.int IntKind.i64 n_15]∧bif decide
  ¬n_14=n_15 then false=true else bif decide (rng IntKind.i64 (x_1 + (1 : Int))) then ∃ y,SmN xs_1 y∧(so10 a b g h x [AV.int IntKind.i64 n,AV.str s,AV.int IntKind.i64 n_1,
  AV.int IntKind.i64 n_2,AV.int IntKind.i64 n_3,AV.int IntKind.i64 n_4,AV.int IntKind.i64 n_5,AV.sl (2 : Nat) false xs,AV.int IntKind.i64 n_6,AV.sl (1 : Nat) false xs_1]
  [AV.int IntKind.i64 n_7,AV.str s_1,AV.int IntKind.i64 n_8,AV.int IntKind.i64 n_9,AV.int IntKind.i64 n_10,AV.int IntKind.i64 n_11,AV.int IntKind.i64 n_12,AV.sl (2 : Nat)
  false xs_2,AV.int IntKind.i64 n_13,AV.sl (1 : Nat) false xs_3] xs_1).m y < (so10 a b g h x [AV.int IntKind.i64 n,AV.str s,AV.int IntKind.i64 n_1,AV.int IntKind.i64 n_2,AV.int
  IntKind.i64 n_3,AV.int IntKind.i64 n_4,AV.int IntKind.i64 n_5,AV.sl (2 : Nat) false xs,AV.int IntKind.i64 n_6,AV.sl (1 : Nat) false xs_1] [AV.int IntKind.i64 n_7,AV.str s_1,
  AV.int IntKind.i64 n_8,AV.int IntKind.i64 n_9,AV.int IntKind.i64 n_10,AV.int IntKind.i64 n_11,AV.int IntKind.i64 n_12,AV.sl (2 : Nat) false xs_2,AV.int IntKind.i64 n_13,
  AV.sl (1 : Nat) false xs_3] xs_1).m x_1∧(((bif g then g=true else True)∧a=a)∧((bif h then h=true else True)∧b=b)∧x=x∧(0 : Nat)=(0 : Nat)∧(0 : Nat)=(0 :
  Nat)∧x_1 + (1 : Int)=y∧True)∧(n=n∧s=s∧n_1=n_1∧n_2=n_2∧n_3=n_3∧n_4=n_4∧n_5=n_5∧(True∧xs=xs)∧n_6=n_6∧(True∧xs_1=xs_1)∧True)∧(n_7
 =n_7∧s_1=s_1∧n_8=n_8∧n_9=n_9∧n_10=n_10∧n_11=n_11∧n_12=n_12∧(True∧xs_2=xs_2)∧n_13=n_13∧(True∧xs_3=xs_3)∧True)∧True else False else False
  else False else bif decide (rng IntKind.i64 (x + (1 : Int))) then ∃ y,SmO a y∧(so4 a b g h).m y < (so4 a b g h).m x∧(((bif g then g=true else True)∧a=a)∧((bif h then h
 =true else True)∧b=b)∧x + (1 : Int)=y∧True)∧True else False else False else False else true=true
set_option maxRecDepth 100000 in
theorem rsmm_P : rsmm_T rdC cmpI cmpS := by
  unfold rsmm_T
  intro gl a b g h ⟨hp,e⟩ _ _
  subst e
  have bg : cond g (g=true) True := by cases g <;> trivial
  have bh : cond h (h=true) True := by cases h <;> trivial
  have ln := hp.fl
  refine csx (fun w => absurd rfl w) (fun _ => ⟨⟨0,⟨by decide,by omega⟩,⟨⟨bg,rfl⟩,⟨bh,rfl⟩,rfl,trivial⟩,trivial⟩,?_⟩)
  rintro i ⟨i0,i1⟩
  refine csx (fun hi => cd1 (by omega) ?_) (fun _ => rfl)
  obtain ⟨k,nm,t,f,x,y,c,rd,vs,cs,h1,h2,h3,h4⟩ := (hp.fr i.toNat (by omega)).fr
  refine ⟨k,nm,t,f,x,y,c,rd,vs,cs,by rw [h1]; rfl,cd1 (by omega) ⟨k,nm,t,f,x,y,c,rd,vs,cs,by rw [h1]; rfl,⟨h2,h2⟩,?_⟩⟩
  rw [or_same,decide_eq_true rfl,Bool.not_true,cond_false]
  refine csx (fun w => absurd rfl w) (fun _ => csx (fun w => absurd rfl w) (fun _ => ⟨⟨0,⟨by decide,by omega⟩,?_⟩,?_⟩))
  · (repeat' (first | exact trivial | exact rfl | assumption | apply And.intro))
  rintro q ⟨q0,q1⟩
  refine csx (fun hq => cd1 (by omega) ⟨_,intsB_at h3 (by omega),cd1 (by omega) ⟨_,intsB_at h3 (by omega),csx (fun w => absurd rfl w) (fun _ => cdI (by omega) ⟨q + 1,⟨by omega,by omega⟩,by simp only [so10]; omega,?_⟩)⟩⟩) (fun _ => cdI (by omega) ⟨i + 1,⟨by omega,by omega⟩,by simp only [so4]; omega,⟨⟨bg,rfl⟩,⟨bh,rfl⟩,rfl,trivial⟩,trivial⟩)
  (repeat' (first | exact trivial | exact rfl | assumption | apply And.intro))
def rsmm_S (rdC : LLA→LLA→Int) (cmpI : Int→Int→Int) (cmpS : ByteArray→ByteArray→Int) : Prop := ∀ (gl : Glob) (a b : List (List AV)) (g h : Bool),MgL a∧b=a→fnK Tryd.prog { glob := gl,spec := lk [(48,(rsame_s rdC cmpI cmpS))],specH := lk [],shape := [23,27,61,66],slz := [(23,[2,1]),(27,[2,1])],nowf := true } { nt := 68,drop := drp [(1,7680),(4,114688),(5,786432),(6,267386880),(7,562949684985856),(10,16888498602639360),(11,108086391056891904),(12,147429837401600557056)] } (soJ a b g h) 6 Tryd.f27 [.sl 10 g a,.sl 10 h b] (.bool true)
set_option maxRecDepth 100000 in
theorem rsmm_e (rdC : LLA→LLA→Int) (cmpI : Int→Int→Int) (cmpS : ByteArray→ByteArray→Int) : rsmm_T rdC cmpI cmpS=rsmm_S rdC cmpI cmpS := by kernel_rfl
theorem rsmm_v : rsmm_S rdC cmpI cmpS := @Eq.mp (rsmm_T rdC cmpI cmpS) (rsmm_S rdC cmpI cmpS) (rsmm_e rdC cmpI cmpS) (rsmm_P)
theorem rsmm_ok (gl : Glob) : SOK Tryd.prog gl 27 (rsmm_s rdC cmpI cmpS) := by
  refine ⟨fok Tryd.func27 (by kernel_rfl) (by kernel_rfl),?_⟩
  intro xs pre r h hp
  unfold rsmm_s at h
  split at h
  · simp only [Option.some.injEq,Prod.mk.injEq] at h
    obtain ⟨h1,h2⟩ := h
    subst h1 h2
    exact fnK_sound tyNil (by exact specOK rfl rfl ⟨(rsame_ok gl),trivial⟩ trivial) (by kernel_rfl) Tryd.func27 rfl (rsmm_v gl _ _ _ _ hp)
  · cases h
end Go.Proofs.YtgnnafneglannaaDoor
namespace Go.Proofs.YtgnnafneglannaaDoor
open Go
set_option linter.unusedVariables false
set_option linter.unusedSimpArgs false
theorem bsF_filter (P : List Int→Bool) (q : List Int) (hq : P q=true) : ∀ F : LLA,bsF (F.filter fun x => P (itKy x)) q=bsF F q :=
  snoc_ind rfl fun l x ih => by
    rw [List.filter_append,bsF_snoc]
    cases hp : P (itKy x) with
    | true =>
      have e : [x].filter (fun x => P (itKy x))=[x] := by simp [hp]
      rw [e,bsF_snoc,ih]
    | false =>
      have e : [x].filter (fun x => P (itKy x))=[] := by simp [hp]
      rw [e,List.append_nil,ih,if_neg (fun z => by rw [z,hq] at hp; cases hp)]
def kT (ks : List Int) : Int := ks.getLast?.getD 0
theorem kT_ky {x : List AV} (h : ItS x) : kT (itKy x)=itTm x := by
  obtain ⟨k,nm,t,f,a,b,c,rd,co,ar,rfl⟩ := h.fr
  show ((k :: (nmK nm.toList ++ [t])).getLast?).getD 0=t
  rw [← List.cons_append,List.getLast?_concat]; rfl
theorem OkL.its {l : LLA} (h : OkL l) : ∀ x ∈ l,ItS x := fun x hx => by
  obtain ⟨k,nm,t,f,a,b,c,rd,co,ar,e,_⟩ := h.row hx
  exact ⟨_,_,_,_,_,_,_,_,_,_,e⟩
theorem mrF_ord {l : LLA} {fr to cut : Int} (h : OkL l) : (mrF l fr to cut).Pairwise OrdR∧∀ x ∈ mrF l fr to cut,0≤itCo x := by
  refine ⟨?_,fun x hx => ?_⟩
  · refine List.Pairwise.filter _ ?_
    have hs := (inV_ok h.fv).2.2
    exact List.Pairwise.imp_of_mem (fun {a b} ha hb hab => itC_ord (h.its a ha) (h.its b hb) hab) hs
  · obtain ⟨k,nm,t,f,a,b,c,rd,co,ar,rfl,_,_,hco⟩ := h.row (List.mem_filter.1 hx).1
    exact hco
end Go.Proofs.YtgnnafneglannaaDoor
namespace Go.Proofs.YtgnnafneglannaaDoor
open Go
set_option linter.unusedVariables false
set_option linter.unusedSimpArgs false
theorem lasI_rng {G : LLA} (h : MgP G) (c : Int) : rng .i64 (lasI (cvs (rdsF G) c)) := by
  unfold lasI
  cases e : (cvs (rdsF G) c).getLast? with
  | none => exact ⟨by decide,by decide⟩
  | some v =>
    have hv := List.mem_of_getLast? e
    unfold cvs at hv
    obtain ⟨r,hr,rfl⟩ := List.mem_map.1 hv
    have hr := (List.mem_filter.1 hr).1
    unfold rdsF at hr
    rw [List.mem_flatten] at hr
    obtain ⟨l,hl,hr⟩ := hr
    obtain ⟨x,hx,rfl⟩ := List.mem_map.1 hl
    obtain ⟨i,hi,rfl⟩ := List.mem_iff_getElem.1 hx
    obtain ⟨k,nm,t,f,a,b,c,rd,co,ar,h1,h2⟩ := h.fr i hi
    rw [getD_lt hi] at h1
    rw [h1] at hr
    have hr : r ∈ rd := hr
    obtain ⟨j,hj,rfl⟩ := List.mem_iff_getElem.1 hr
    obtain ⟨e,v,h3,_,h4⟩ := h2.fr j hj
    rw [getD_lt hj] at h3
    rw [h3]
    exact h4
theorem rdN_mem {G : LLA} : ∀ (n : Nat) (r : List AV),r ∈ rdN G n→∃ k : Nat,k < n∧r=[.int .i64 (k : Int),.int .i64 (lasI (cvs (rdsF G) k))]
  | 0,r,h => by simp [rdN] at h
  | n + 1,r,h => by
    simp only [rdN] at h
    rcases List.mem_append.1 h with h | h
    · obtain ⟨k,hk,e⟩ := rdN_mem n r h
      exact ⟨k,by omega,e⟩
    · split at h
      · simp at h
      · split at h
        · simp at h
        · exact ⟨n,by omega,by simpa using h⟩
theorem gR_rds {G : LLA} (h : MgP G) : RdsP (gR G) := ⟨fun i hi => by
  rw [getD_lt hi]
  obtain ⟨k,hk,e⟩ := rdN_mem 12 _ (List.getElem_mem hi)
  exact ⟨_,_,e,by show _∧_; omega,lasI_rng h _⟩,by have := rdN_len G 12; unfold gR; omega⟩
theorem ctN_mem {G : LLA} : ∀ (n : Nat) (r : List AV),r ∈ ctN G n→∃ k : Nat,k < n∧r=[.int .i64 (k : Int)]
  | 0,r,h => by simp [ctN] at h
  | n + 1,r,h => by
    simp only [ctN] at h
    rcases List.mem_append.1 h with h | h
    · obtain ⟨k,hk,e⟩ := ctN_mem n r h
      exact ⟨k,by omega,e⟩
    · split at h
      · exact ⟨n,by omega,by simpa using h⟩
      · simp at h
theorem gC_len (G : LLA) : (gC G).length≤12 := ctN_len G 12
theorem mgRow_ok {G : LLA} (h : MgP G) (hi : IntsB (gC G)) : MgS (mgRow G) := ⟨_,_,_,_,_,_,_,_,_,_,rfl,gR_rds h,hi,by have := gC_len G; omega⟩
theorem mgRow_s {G : LLA} (h : MgP G) : MgS (mgRow G) := mgRow_ok h ⟨fun x hx => by
  obtain ⟨k,hk,e⟩ := ctN_mem 12 x hx
  exact ⟨_,e,by show _∧_; omega⟩⟩
theorem gr_sub (F : LLA) : ∀ g ∈ grF F,∀ x ∈ g,x ∈ F := by
  refine snoc_ind (P := fun F => ∀ g ∈ grF F,∀ x ∈ g,x ∈ F) (fun g hg => by simp [grF,gsF,grS] at hg) (fun l x ih => ?_) F
  intro g hg z hz
  unfold grF at ih hg
  rw [gsF_snoc] at hg
  generalize gsF l=s at *
  obtain ⟨o,q⟩ := s
  cases q with
  | nil =>
    have hg : g ∈ o ++ [[x]] := hg
    rcases List.mem_append.1 hg with h | h
    · exact List.mem_append_left _ (ih g h z hz)
    · rw [List.mem_singleton.1 h] at hz; rw [List.mem_singleton.1 hz]; simp
  | cons y q =>
    have io : ∀ g ∈ o,∀ x ∈ g,x ∈ l := fun g hg => ih g (by simp [grS,hg])
    have iq : ∀ x ∈ y :: q,x ∈ l := ih (y :: q) (by simp [grS])
    simp only [gs1] at hg
    split at hg
    · split at hg
      · have hg : g ∈ o ++ [[x]] := hg
        rcases List.mem_append.1 hg with h | h
        · exact List.mem_append_left _ (io g h z hz)
        · rw [List.mem_singleton.1 h] at hz; rw [List.mem_singleton.1 hz]; simp
      · have hg : g ∈ o ++ [y :: q ++ [x]] := hg
        rcases List.mem_append.1 hg with h | h
        · exact List.mem_append_left _ (io g h z hz)
        · rw [List.mem_singleton.1 h] at hz
          rcases List.mem_append.1 hz with hz | hz
          · exact List.mem_append_left _ (iq z hz)
          · exact List.mem_append_right _ hz
    · have hg : g ∈ (o ++ [y :: q]) ++ [[x]] := hg
      rcases List.mem_append.1 hg with h | h
      · rcases List.mem_append.1 h with h | h
        · exact List.mem_append_left _ (io g h z hz)
        · rw [List.mem_singleton.1 h] at hz; exact List.mem_append_left _ (iq z hz)
      · rw [List.mem_singleton.1 h] at hz; rw [List.mem_singleton.1 hz]; simp
theorem mrF_sub {l : LLA} {fr to cut : Int} : (∀ x ∈ mrF l fr to cut,x ∈ l)∧(mrF l fr to cut).length≤l.length := ⟨fun x hx => (List.mem_filter.1 hx).1,List.length_filter_le _ _⟩
theorem gr_mgp {l : LLA} {fr to cut : Int} (h : OkL l) {g : LLA} (hg : g ∈ grF (mrF l fr to cut)) : MgP g := by
  have h9 := (inV_ok h.fv).1
  obtain ⟨a,b⟩ := (grF_ok (mrF_ord h).1 (mrF_ord h).2).fg g hg
  refine h.mgp (fun x hx => mrF_sub.1 x (gr_sub _ g hg x hx)) ?_ a
  rw [b]
  have := (mrF_sub (l := l) (fr := fr) (to := to) (cut := cut)).2
  have := List.length_filter_le (fun y => decide (itKy y=hdK g) && decide (itCo y=bsF (mrF l fr to cut) (hdK g))) (mrF l fr to cut)
  unfold vsF
  omega
theorem grF_len (F : LLA) : (grF F).length≤F.length + 1 := by
  obtain ⟨_,_,h,_⟩ := gs_sub F
  unfold grF grS
  split
  · omega
  · simp; omega
theorem mr_mgl {l : LLA} {fr to cut : Int} (h : OkL l) : MgL ((grF (mrF l fr to cut)).map mgRow) := ⟨fun i hi => by
  rw [getD_lt hi,List.getElem_map]
  exact mgRow_s (gr_mgp h (List.getElem_mem _)),by
  rw [List.length_map]
  have := grF_len (mrF l fr to cut)
  have := (mrF_sub (l := l) (fr := fr) (to := to) (cut := cut)).2
  have := (inV_ok h.fv).1
  omega⟩
theorem mg_ky {g : LLA} (h : MgP g) : itKy (mgRow g)=hdK g∧itTm (mgRow g)=kT (hdK g) := by
  cases g with
  | nil => exact absurd h.f0 (by simp)
  | cons y g =>
    obtain ⟨k,nm,t,f,a,b,c,rd,co,ar,h1,_⟩ := h.fr 0 (by simp)
    have h1 : y=itA k nm t f a b c rd co ar := h1
    subst h1
    refine ⟨rfl,?_⟩
    exact (kT_ky (x := itA k nm t f a b c rd co ar) ⟨_,_,_,_,_,_,_,_,_,_,rfl⟩).symm
def tLe (cut : Int) (r : List AV) : Bool := decide (itTm r≤cut)
def tGt (cut : Int) (r : List AV) : Bool := decide (cut < itTm r)
structure WdP (p q r : LLA) (cut : Int) : Prop where
  fq : q=p.filter (tLe cut)
  fr : r=p.filter (tGt cut)
  fm : MgL p
  fl : p.length≤200
  fk : ∀ n : Nat,0 < n→n < p.length→itKy (p.getD (n - 1) [])≠itKy (p.getD n [])
end Go.Proofs.YtgnnafneglannaaDoor
namespace Go.Proofs.YtgnnafneglannaaDoor
open Go
set_option linter.unusedVariables false
set_option linter.unusedSimpArgs false
theorem srt_sub {α : Type} {lt : α→α→Prop} (irr : ∀ a,¬ lt a a) (tr : ∀ a b c,lt a b→lt b c→lt a c) : ∀ {m l : List α},l.Pairwise lt→m.Pairwise lt→(∀ x ∈ l,x ∈ m)→List.Sublist l m
  | [],[],_,_,_ => List.Sublist.refl _
  | [],a :: l,_,_,h => by have := h a (by simp); simp at this
  | b :: m,[],_,_,_ => List.nil_sublist _
  | b :: m,a :: l,hl,hm,h => by
    have hl2 := List.pairwise_cons.1 hl
    have hm2 := List.pairwise_cons.1 hm
    rcases List.mem_cons.1 (h a (by simp)) with e | e
    · subst e
      refine List.Sublist.cons_cons _ (srt_sub irr tr hl2.2 hm2.2 fun x hx => ?_)
      rcases List.mem_cons.1 (h x (by simp [hx])) with e | e
      · subst e; exact absurd (hl2.1 x hx) (irr x)
      · exact e
    · have hba := hm2.1 a e
      refine List.Sublist.cons _ (srt_sub irr tr hl hm2.2 fun x hx => ?_)
      rcases List.mem_cons.1 (h x hx) with q | q
      · subst q
        rcases List.mem_cons.1 hx with z | z
        · subst z; exact absurd hba (irr _)
        · exact absurd (tr _ _ _ hba (hl2.1 x z)) (irr x)
      · exact q
def bsC (b : LLA) (cut : Int) (q : List Int) (m : Int) : Int := b.foldl (fun m y => if itAr y≤cut∧itKy y=q then max m (itCo y) else m) m
theorem bsC_snoc (b : LLA) (x : List AV) (cut : Int) (q : List Int) (m : Int) : bsC (b ++ [x]) cut q m=if itAr x≤cut∧itKy x=q then max (bsC b cut q m) (itCo x) else bsC b cut q m := by
  unfold bsC; rw [List.foldl_append]; rfl
def arF (b : LLA) (cut : Int) : LLA := b.filter fun y => decide (itAr y≤cut)
theorem arF_snoc (b : LLA) (x : List AV) (cut : Int) : arF (b ++ [x]) cut=arF b cut ++ (if itAr x≤cut then [x] else []) := by
  unfold arF; rw [List.filter_append]
  by_cases h : itAr x≤cut <;> simp [h]
theorem bsC_eq (cut : Int) (q : List Int) (m : Int) (hm : -1≤m) : ∀ b : LLA,bsC b cut q m=max m (bsF (arF b cut) q) := by
  refine snoc_ind ?_ fun l x ih => ?_
  · show m=max m (-1); omega
  · rw [bsC_snoc,arF_snoc,ih]
    by_cases h : itAr x≤cut
    · rw [if_pos h,bsF_snoc]
      by_cases k : itKy x=q
      · rw [if_pos ⟨h,k⟩,if_pos k]; omega
      · rw [if_neg (fun z => k z.2),if_neg k]
    · rw [if_neg (fun z => h z.1),if_neg h,List.append_nil]
def knB (b : LLA) (cut : Int) (x : List AV) : Bool := decide (itAr x≤cut) && decide (itCo x=bsC b cut (itKy x) (itCo x))
def knF (b l : LLA) (cut : Int) : LLA := l.filter (knB b cut)
theorem best_gr {F : LLA} (hF : F.Pairwise OrdR) (hc : ∀ x ∈ F,0≤itCo x) : grF (F.filter fun x => decide (itCo x=bsF F (itKy x)))=grF F := by
  have at' : ∀ x ∈ F,∃ y ∈ F,itKy y=itKy x∧itCo y=bsF F (itKy x) := fun x hx => by
    rcases bsF_at F (itKy x) with ⟨h,_⟩ | ⟨y,hy,hk,h⟩
    · exact absurd rfl (h x hx)
    · rcases h with h | h
      · exact ⟨y,hy,hk,h.symm⟩
      · have := (bsF_ge F (itKy x)).1 x hx rfl
        have := hc x hx
        omega
  have eq : ∀ x ∈ F,bsF (F.filter fun x => decide (itCo x=bsF F (itKy x))) (itKy x)=bsF F (itKy x) := fun x hx => by
    obtain ⟨y,hy,hk,he⟩ := at' x hx
    have hm : y ∈ F.filter fun x => decide (itCo x=bsF F (itKy x)) := List.mem_filter.2 ⟨hy,by rw [hk]; exact decide_eq_true he⟩
    have h1 := (bsF_ge _ _).1 y hm hk
    rcases bsF_at (F.filter fun x => decide (itCo x=bsF F (itKy x))) (itKy x) with ⟨h,_⟩ | ⟨z,hz,hzk,h⟩
    · exact absurd hk (h y hm)
    · have h2 := (bsF_ge F (itKy x)).1 z (List.mem_filter.1 hz).1 hzk
      have h3 := (bsF_ge F (itKy x)).2
      rcases h with h | h <;> omega
  refine gr_ext (grF_ok (hF.filter _) fun x hx => hc x (List.mem_filter.1 hx).1) (grF_ok hF hc) (fun q => ⟨fun ⟨x,hx,e⟩ => ⟨x,(List.mem_filter.1 hx).1,e⟩,fun ⟨x,hx,e⟩ => ?_⟩) fun x hx => ?_
  · obtain ⟨y,hy,hk,he⟩ := at' x hx
    exact ⟨y,List.mem_filter.2 ⟨hy,by rw [hk]; exact decide_eq_true he⟩,by rw [hk,e]⟩
  · have hx := (List.mem_filter.1 hx).1
    unfold vsF
    rw [eq x hx,List.filter_filter]
    refine List.filter_congr fun y _ => ?_
    by_cases k : itKy y=itKy x
    · rw [k]; simp
    · simp [k]
def wnP (fr to : Int) (ks : List Int) : Bool := decide (fr≤kT ks) && decide (kT ks≤to)
theorem cut_gr {b : LLA} {fr to cut : Int} (h : OkL b) : grF (mrF (knF b b cut) fr to cut)=grF (mrF b fr to cut) := by
  have ho := mrF_ord (fr := fr) (to := to) (cut := cut) h
  rw [← best_gr ho.1 ho.2]
  congr 1
  unfold mrF knF
  rw [List.filter_filter,List.filter_filter]
  refine List.filter_congr fun x hx => ?_
  cases hc : cntd fr to cut x with
  | false => simp
  | true =>
    have hc2 : itAr x≤cut∧fr≤itTm x∧itTm x≤to := by
      unfold cntd at hc
      simpa using hc
    have hA : bsF (b.filter (cntd fr to cut)) (itKy x)=bsF (arF b cut) (itKy x) := by
      have e : b.filter (cntd fr to cut)=(arF b cut).filter fun x => wnP fr to (itKy x) := by
        unfold arF
        rw [List.filter_filter]
        refine List.filter_congr fun y hy => ?_
        unfold wnP cntd
        rw [kT_ky (h.its y hy),Bool.and_comm]
      rw [e]
      exact bsF_filter (wnP fr to) _ (by unfold wnP; rw [kT_ky (h.its x hx)]; simp [hc2]) _
    rw [hA]
    obtain ⟨k,nm,t,f,a,b',c,rd,co,ar,e,_,_,h0⟩ := h.row hx
    have h0 : 0≤itCo x := by rw [e]; exact h0
    unfold knB
    rw [bsC_eq cut _ _ (by omega)]
    have := (bsF_ge (arF b cut) (itKy x)).1 x (List.mem_filter.2 ⟨hx,decide_eq_true hc2.1⟩) rfl
    rw [decide_eq_true hc2.1]
    simp only [Bool.true_and,Bool.and_true]
    exact decide_eq_decide.2 ⟨fun z => by omega,fun z => by omega⟩
theorem srt_adj {l : LLA} (h : Srt l) : adjB l=true := by
  unfold adjB
  refine decide_eq_true fun j hj => ?_
  by_cases h0 : j=0
  · exact .inl h0
  · refine .inr ?_
    rw [getD_lt hj,getD_lt (by omega)]
    exact List.pairwise_iff_getElem.1 h (j - 1) j (by omega) hj (by omega)
theorem inV_fil {l : LLA} (P : List AV→Bool) (h : inV l=0) : inV (l.filter P)=0 := by
  obtain ⟨h1,h2,h3⟩ := inV_ok h
  have hl := List.length_filter_le P l
  unfold inV
  rw [if_neg (by omega),if_pos (firE_zero fun j hj => ?_),if_pos (srt_adj (List.Pairwise.filter _ h3))]
  rw [getD_lt hj]
  exact firE_all h2 _ (List.mem_filter.1 (List.getElem_mem hj)).1
theorem ItsP.fil {l : LLA} (P : List AV→Bool) (h : ItsP l) : ItsP (l.filter P) := ⟨fun i hi => by
  rw [getD_lt hi]
  obtain ⟨j,hj,e⟩ := List.mem_iff_getElem.1 (List.mem_filter.1 (List.getElem_mem hi)).1
  have := h.fr j hj
  rw [getD_lt hj,e] at this
  exact this,by have := h.fl; have := List.length_filter_le P l; omega⟩
theorem OkL.fil {l : LLA} (P : List AV→Bool) (h : OkL l) : OkL (l.filter P) := ⟨h.fp.fil P,inV_fil P h.fv⟩
theorem cut_sub {b : LLA} {fr to cut cut2 : Int} (h : OkL b) (hc : cut≤cut2) : List.Sublist (((grF (mrF b fr to cut)).map mgRow).map itKy) (((grF (mrF b fr to cut2)).map mgRow).map itKy) := by
  have e : ∀ cut : Int,((grF (mrF b fr to cut)).map mgRow).map itKy=(grF (mrF b fr to cut)).map hdK := fun cut => by
    rw [List.map_map]
    exact List.map_congr_left fun g hg => (mg_ky (gr_mgp h hg)).1
  rw [e,e]
  have g1 := grF_ok (mrF_ord (fr := fr) (to := to) (cut := cut) h).1 (mrF_ord h).2
  have g2 := grF_ok (mrF_ord (fr := fr) (to := to) (cut := cut2) h).1 (mrF_ord h).2
  refine srt_sub ltK_irr ltK_tr g1.fs g2.fs fun q hq => ?_
  obtain ⟨x,hx,rfl⟩ := g1.mem hq
  refine g2.fm x ?_
  obtain ⟨x1,x2⟩ := List.mem_filter.1 hx
  refine List.mem_filter.2 ⟨x1,?_⟩
  unfold cntd at x2 ⊢
  simp only [Bool.and_eq_true,decide_eq_true_eq] at x2 ⊢
  omega
theorem ky3 {k k2 t t2 : Int} {nm nm2 : ByteArray} {u v : List AV} : itKy (.int .i64 k :: .str nm :: .int .i64 t :: u)=itKy (.int .i64 k2 :: .str nm2 :: .int .i64 t2 :: v)↔k=k2∧nm=nm2∧t=t2 := by
  constructor
  · intro h
    simp only [itKy,List.cons.injEq] at h
    obtain ⟨h1,h2⟩ := h
    obtain ⟨h3,h4⟩ := nmK_inj h2
    simp only [List.cons.injEq,and_true] at h4
    exact ⟨h1,str_inj h3,h4⟩
  · rintro ⟨rfl,rfl,rfl⟩; rfl
theorem knF_pos {b l : LLA} {cut : Int} {x : List AV} (h : knB b cut x=true) : knF b (l ++ [x]) cut=knF b l cut ++ [x] := by
  unfold knF; rw [List.filter_append,List.filter_cons_of_pos h]; rfl
theorem knF_neg {b l : LLA} {cut : Int} {x : List AV} (h : knB b cut x=false) : knF b (l ++ [x]) cut=knF b l cut := by
  unfold knF; rw [List.filter_append,List.filter_cons_of_neg (by rw [h]; simp)]; simp
theorem drop_at {l : LLA} {i : Nat} (h : i < l.length) : l.drop i=l.getD i [] :: l.drop (i + 1) := by
  rw [getD_lt h]; exact List.drop_eq_getElem_cons h
theorem sb_eq {p r : LLA} {n j : Nat} (hn : n < p.length) (hj : j < r.length) (h : List.Sublist ((p.drop n).map itKy) ((r.drop j).map itKy)) (e : itKy (r.getD j [])=itKy (p.getD n [])) : List.Sublist ((p.drop (n + 1)).map itKy) ((r.drop (j + 1)).map itKy) := by
  rw [drop_at hn,drop_at hj,List.map_cons,List.map_cons,e] at h
  exact List.cons_sublist_cons.1 h
theorem sb_ne {p r : LLA} {n j : Nat} (hn : n < p.length) (hj : j < r.length) (h : List.Sublist ((p.drop n).map itKy) ((r.drop j).map itKy)) (e : ¬ itKy (r.getD j [])=itKy (p.getD n [])) : List.Sublist ((p.drop n).map itKy) ((r.drop (j + 1)).map itKy) := by
  rw [drop_at hj,List.map_cons] at h
  rw [drop_at hn,List.map_cons] at h ⊢
  generalize itKy (r.getD j [])=x at *
  generalize itKy (p.getD n [])=y at *
  cases h with
  | cons _ q => exact q
  | cons_cons _ q => exact absurd rfl e
theorem sb_end {p r : LLA} {n j : Nat} (hn : ¬ n < p.length) : List.Sublist ((p.drop n).map itKy) ((r.drop j).map itKy) := by
  rw [List.drop_eq_nil_of_le (by omega)]; exact List.nil_sublist _
theorem sb_fin {p r : LLA} {n j : Nat} (h : List.Sublist ((p.drop n).map itKy) ((r.drop j).map itKy)) (hj : ¬ j < r.length) : p.length≤n := by
  have := h.length_le
  rw [List.length_map,List.length_map,List.length_drop,List.length_drop] at this
  omega
end Go.Proofs.YtgnnafneglannaaDoor
namespace Go.Proofs.YtgnnafneglannaaDoor
open Go
set_option linter.unusedVariables false
set_option linter.unusedSimpArgs false
theorem itm_gd {os : LLA} {n j : Int} (h : ItmQ n os j) (hn : n≤100) : GdL os := ⟨fun r hr => by
  obtain ⟨k,nm,t,f,a,b,c,ys,co,ar,h1,h2,_⟩ := (h.fr r hr).fr
  exact ⟨k,nm,t,f,a,b,c,ys,co,ar,h1,rdv_rds h2.fr,by have := h2.fr.flen; omega⟩,by have := h.fl; omega⟩
end Go.Proofs.YtgnnafneglannaaDoor
namespace Go.Proofs.YtgnnafneglannaaDoor
open Go
set_option linter.unusedVariables false
set_option linter.unusedSimpArgs false
structure CuI (B : LLA) (cut : Int) (i : Int) : Prop where
  flo : 0≤i
  fhi : i≤B.length
structure CuJ (B : LLA) (cut : Int) (q : List Int) (c0 : Int) (x : Int × Int) : Prop where
  flo : 0≤x.1
  fhi : x.1≤B.length
  fb : x.2=bsC (B.take x.1.toNat) cut q c0
structure CuN (p r : LLA) (x : Int × Int) : Prop where
  fj : 0≤x.1∧x.1≤r.length
  fn : 0≤x.2∧x.2≤p.length
  fs : List.Sublist ((p.drop x.2.toNat).map itKy) ((r.drop x.1.toNat).map itKy)
def cu9 (B : LLA) (fr to cut cut2 : Int) : LInv := ⟨Int,fun i => ⟨[(5,.sl 10 false B),(6,.ptr 6 0),(7,.ptr 7 0),(8,.rw 1708 10 (knF B (B.take i.toNat) cut).length),(47,.sl 10 false B),(48,.int .i64 B.length),(49,.int .i64 i)],[(6,.cells [.int .i64 fr,.int .i64 to,.int .i64 cut]),(7,.cells [.int .i64 fr,.int .i64 to,.int .i64 cut2]),(1708,.row 50 10 (knF B (B.take i.toNat) cut))]⟩,CuI B cut,fun i => (B.length - i).toNat,none⟩
def cu14 (B : LLA) (fr to cut cut2 i : Int) (k : Int) (nm : ByteArray) (t f a b c : Int) (rd : LLA) (co ar : Int) : LInv := ⟨Int × Int,fun x => ⟨[(5,.sl 10 false B),(6,.ptr 6 0),(7,.ptr 7 0),(8,.rw 1708 10 (knF B (B.take i.toNat) cut).length),(10,.ptr 10 0),(11,.int .i64 x.2),(47,.sl 10 false B),(48,.int .i64 B.length),(49,.int .i64 i),(60,.sl 10 false B),(61,.int .i64 B.length),(62,.int .i64 x.1)],[(6,.cells [.int .i64 fr,.int .i64 to,.int .i64 cut]),(7,.cells [.int .i64 fr,.int .i64 to,.int .i64 cut2]),(10,.cells (itA k nm t f a b c rd co ar)),(1708,.row 50 10 (knF B (B.take i.toNat) cut))]⟩,CuJ B cut (itKy (itA k nm t f a b c rd co ar)) co,fun x => (B.length - x.1).toNat,none⟩
def cu29 (p r : LLA) : LInv := ⟨Int × Int,fun x => ⟨[(14,.sl 10 false p),(20,.int .i64 x.2),(153,.sl 10 false r),(154,.int .i64 r.length),(155,.int .i64 x.1)],[]⟩,CuN p r,fun x => (r.length - x.1).toNat,none⟩
def cuK (id : Nat) (st : St) : Option LInv := cond (Nat.beq id 29) (match lk st.tmps 14,lk st.tmps 18 with
  | some (.sl _ _ p),some (.sl _ _ r) => some (cu29 p r)
  | _,_ => none) (match lk st.tmps 5,lk st.heap 6,lk st.heap 7 with
  | some (.sl _ _ B),some (.cells [.int _ fr,.int _ to,.int _ cut]),some (.cells [_,_,.int _ cut2]) => cond (Nat.beq id 9) (some (cu9 B fr to cut cut2)) (cond (Nat.beq id 14) (match lk st.tmps 49,lk st.heap 10 with
    | some (.int _ i),some (.cells [.int _ k,.str nm,.int _ t,.int _ f,.int _ a,.int _ b,.int _ c,.sl _ _ rd,.int _ co,.int _ ar]) => some (cu14 B fr to cut cut2 i k nm t f a b c rd co ar)
    | _,_ => none) none)
  | _,_,_ => none)
def lcutoff_s (mrE : LLA→Int→Int→Int) (mrO : LLA→Int→Int→Int→LLA) (ibO : LLA→LLA) : Sp
  | [.sl 1 false xs] => some (IntsA xs,.bool true)
  | _ => none
set_option maxRecDepth 100000 in
def lcutoff_T (mrE : LLA→Int→Int→Int) (mrO : LLA→Int→Int→Int→LLA) (ibO : LLA→LLA) (adE : LLA→List AV→Int) (adO : LLA→List AV→LLA) (inV : LLA→Int) (suC : Int→ByteArray→Int→Int→ByteArray→Int→Int) (ouL : LLA→LLA→LLA) (rdC : LLA→LLA→Int) (cmpI : Int→Int→Int) (cmpS : ByteArray→ByteArray→Int) (aw1 : LLA) : Prop :=
  ∀ (xs : List (List AV)),(∀ (x : List AV),List.Mem x xs→∃ n,x=[AV.int .i64 n]∧rng .i64 n)→True→True∧SrcQ (List.take (2000:Nat) xs) (0:Int)∧∀ (m j:Int),MinQ m j→(SrcQ (List.take (2000:Nat) xs) j∧((0:Int)≤m∧m≤(52595999:Int))∧(0:Int)≤(10:Int)∧(10:Int)≤(100:Int))∧∀ (os : List (List AV)) (j:Int),ItmQ (10:Int) os j→GdL os∧bif decide (rng .i64 (m - (200:Int))) then bif decide (rng .i64 (m +
 (200:Int))) then (SrcQ (List.take (2000:Nat) xs) j∧(-70:Int)≤(310:Int)∧(-1000000000:Int)≤(-70:Int)∧(310:Int)≤(1000000000:Int))∧∀ (v j:Int),((-70:Int)≤v∧v≤(310:Int))∧(0:Int)≤j→bif decide (rng .i64 (m + v)) then SrcQ (List.take (2000:Nat) xs) j∧∀ (v_1 j:Int),NumQ (200:Int) v_1 j→bif decide (rng .i64 (m + v + v_1)) then (∃ x,CuI (ibO os) (m + v) x∧((True∧ibO os=ibO
 os)∧(0:Nat)=0∧(0:Nat)=0∧(0:Nat)=List.length (knF (ibO os) (List.take (Int.toNat x) (ibO os)) (m + v))∧(True∧ibO os=ibO os)∧(↑(List.length (ibO os)):Int)=(↑(List.length (ibO os)):Int)∧(0:Int)=x∧True)∧(m - (200:Int)=m - (200:Int)∧m + (200:Int)=m + (200:Int)∧m + v=m + v∧True)∧(m - (200:Int)=m - (200:Int)∧m + (200:Int)=m + (200:Int)∧m + v + v_1=m + v + v_1∧True)∧[]=knF (ibO os) (List.take (Int.toNat x)
 (ibO os)) (m + v)∧True)∧∀ (x:Int),CuI (ibO os) (m + v) x→bif decide (x < (↑(List.length (ibO os)):Int)) then bif decide ((0:Int)≤x∧x < (↑(List.length (ibO os)):Int)) then ∃ n s n_1 n_2 n_3 n_4 n_5 xs n_6 n_7,List.take [AV.int .i64 n,.str s,.int .i64 n_1,.int .i64 n_2,.int .i64 n_3,.int .i64 n_4,.int .i64 n_5,.sl (2:Nat) false xs,.int .i64 n_6,.int .i64 n_7].length (List.getD (ibO os) x.toNat
 [])=[AV.int .i64 n,.str s,.int .i64 n_1,.int .i64 n_2,.int .i64 n_3,.int .i64 n_4,.int .i64 n_5,.sl (2:Nat) false xs,.int .i64 n_6,.int .i64 n_7]∧bif decide (m + v < n_7) then bif decide (rng .i64 (x + (1:Int))) then ∃ y,CuI (ibO os) (m + v) y∧(cu9 (ibO os) (m - (200:Int)) (m + (200:Int)) (m + v) (m + v + v_1)).m y < (cu9 (ibO os) (m - (200:Int)) (m + (200:Int)) (m + v) (m + v + v_1)).m
 x∧((True∧ibO os=ibO os)∧(0:Nat)=0∧(0:Nat)=0∧List.length (knF (ibO os) (List.take x.toNat (ibO os)) (m + v))=List.length (knF (ibO os) (List.take (Int.toNat y) (ibO os)) (m + v))∧(True∧ibO os=ibO os)∧(↑(List.length (ibO os)):Int)=(↑(List.length (ibO os)):Int)∧x + (1:Int)=y∧True)∧(m - (200:Int)=m - (200:Int)∧m + (200:Int)=m + (200:Int)∧m + v=m + v∧True)∧(m - (200:Int)=m - (200:Int)∧m + (200:Int)=m +
 (200:Int)∧m + v + v_1=m + v + v_1∧True)∧knF (ibO os) (List.take x.toNat (ibO os)) (m + v)=knF (ibO os) (List.take (Int.toNat y) (ibO os)) (m + v)∧True else False else (∃ x_1,CuJ (ibO os) (m + v) (itKy (itA n s n_1 n_2 n_3 n_4 n_5 xs n_6 n_7)) n_6 x_1∧((True∧ibO os=ibO os)∧(0:Nat)=0∧(0:Nat)=0∧List.length (knF (ibO os) (List.take x.toNat (ibO os)) (m + v))=List.length (knF (ibO os) (List.take x.toNat
 (ibO os)) (m + v))∧(0:Nat)=0∧n_6=x_1.snd∧(True∧ibO os=ibO os)∧(↑(List.length (ibO os)):Int)=(↑(List.length (ibO os)):Int)∧x=x∧(True∧ibO os=ibO os)∧(↑(List.length (ibO os)):Int)=(↑(List.length (ibO os)):Int)∧(0:Int)=x_1.fst∧True)∧(m - (200:Int)=m - (200:Int)∧m + (200:Int)=m + (200:Int)∧m + v=m + v∧True)∧(m - (200:Int)=m - (200:Int)∧m + (200:Int)=m + (200:Int)∧m + v + v_1=m + v +
 v_1∧True)∧(n=n∧s=s∧n_1=n_1∧n_2=n_2∧n_3=n_3∧n_4=n_4∧n_5=n_5∧(True∧xs=xs)∧n_6=n_6∧n_7=n_7∧True)∧knF (ibO os) (List.take x.toNat (ibO os)) (m + v)=knF (ibO os) (List.take x.toNat (ibO os)) (m + v)∧True)∧∀ (x_1 : Int × Int),CuJ (ibO os) (m + v) (itKy (itA n s n_1 n_2 n_3 n_4 n_5 xs n_6 n_7)) n_6 x_1→bif decide (x_1.fst < (↑(List.length (ibO os)):Int)) then bif decide ((0:Int)≤x_1.fst∧x_1.fst <
 (↑(List.length (ibO os)):Int)) then ∃ n_8 s_1 n_9 n_10 n_11 n_12 n_13 xs_1 n_14 n_15,List.take [AV.int .i64 n_8,.str s_1,.int .i64 n_9,.int .i64 n_10,.int .i64 n_11,.int .i64 n_12,.int .i64 n_13,.sl (2:Nat) false xs_1,.int .i64 n_14,.int .i64 n_15].length (List.getD (ibO os) x_1.fst.toNat [])=[AV.int .i64 n_8,.str s_1,.int .i64 n_9,.int .i64 n_10,.int .i64 n_11,.int .i64 n_12,.int .i64 n_13,.sl
 (2:Nat) false xs_1,.int .i64 n_14,.int .i64 n_15]∧bif decide (n_15≤m + v) then bif decide (n_8=n) then bif decide (s_1=s) then bif decide (n_9=n_1) then bif decide (rng .i64 (x_1.fst + (1:Int))) then ∃ y,CuJ (ibO os) (m + v) (itKy (itA n s n_1 n_2 n_3 n_4 n_5 xs n_6 n_7)) n_6 y∧(cu14 (ibO os) (m - (200:Int)) (m + (200:Int)) (m + v) (m + v + v_1) x n s n_1 n_2 n_3 n_4 n_5 xs n_6 n_7).m y < (cu14
 (ibO os) (m - (200:Int)) (m + (200:Int)) (m + v) (m + v + v_1) x n s n_1 n_2 n_3 n_4 n_5 xs n_6 n_7).m x_1∧((True∧ibO os=ibO os)∧(0:Nat)=0∧(0:Nat)=0∧List.length (knF (ibO os) (List.take x.toNat (ibO os)) (m + v))=List.length (knF (ibO os) (List.take x.toNat (ibO os)) (m + v))∧(0:Nat)=0∧max x_1.snd n_14=y.snd∧(True∧ibO os=ibO os)∧(↑(List.length (ibO os)):Int)=(↑(List.length (ibO
 os)):Int)∧x=x∧(True∧ibO os=ibO os)∧(↑(List.length (ibO os)):Int)=(↑(List.length (ibO os)):Int)∧x_1.fst + (1:Int)=y.fst∧True)∧(m - (200:Int)=m - (200:Int)∧m + (200:Int)=m + (200:Int)∧m + v=m + v∧True)∧(m - (200:Int)=m - (200:Int)∧m + (200:Int)=m + (200:Int)∧m + v + v_1=m + v + v_1∧True)∧(n=n∧s=s∧n_1=n_1∧n_2=n_2∧n_3=n_3∧n_4=n_4∧n_5=n_5∧(True∧xs=xs)∧n_6=n_6∧n_7=n_7∧True)∧knF (ibO os) (List.take
 x.toNat (ibO os)) (m + v)=knF (ibO os) (List.take x.toNat (ibO os)) (m + v)∧True else False else bif decide (rng .i64 (x_1.fst + (1:Int))) then ∃ y,CuJ (ibO os) (m + v) (itKy (itA n s n_1 n_2 n_3 n_4 n_5 xs n_6 n_7)) n_6 y∧(cu14 (ibO os) (m - (200:Int)) (m + (200:Int)) (m + v) (m + v + v_1) x n s n_1 n_2 n_3 n_4 n_5 xs n_6 n_7).m y < (cu14 (ibO os) (m - (200:Int)) (m + (200:Int)) (m + v) (m + v +
 v_1) x n s n_1 n_2 n_3 n_4 n_5 xs n_6 n_7).m x_1∧((True∧ibO os=ibO os)∧(0:Nat)=0∧(0:Nat)=0∧List.length (knF (ibO os) (List.take x.toNat (ibO os)) (m + v))=List.length (knF (ibO os) (List.take x.toNat (ibO os)) (m + v))∧(0:Nat)=0∧x_1.snd=y.snd∧(True∧ibO os=ibO os)∧(↑(List.length (ibO os)):Int)=(↑(List.length (ibO os)):Int)∧x=x∧(True∧ibO os=ibO os)∧(↑(List.length (ibO os)):Int)=(↑(List.length (ibO
 os)):Int)∧x_1.fst + (1:Int)=y.fst∧True)∧(m - (200:Int)=m - (200:Int)∧m + (200:Int)=m + (200:Int)∧m + v=m + v∧True)∧(m - (200:Int)=m - (200:Int)∧m + (200:Int)=m + (200:Int)∧m + v + v_1=m + v + v_1∧True)∧(n=n∧s=s∧n_1=n_1∧n_2=n_2∧n_3=n_3∧n_4=n_4∧n_5=n_5∧(True∧xs=xs)∧n_6=n_6∧n_7=n_7∧True)∧knF (ibO os) (List.take x.toNat (ibO os)) (m + v)=knF (ibO os) (List.take x.toNat (ibO os)) (m + v)∧True else False
 else bif decide (rng .i64 (x_1.fst + (1:Int))) then ∃ y,CuJ (ibO os) (m + v) (itKy (itA n s n_1 n_2 n_3 n_4 n_5 xs n_6 n_7)) n_6 y∧(cu14 (ibO os) (m - (200:Int)) (m + (200:Int)) (m + v) (m + v + v_1) x n s n_1 n_2 n_3 n_4 n_5 xs n_6 n_7).m y < (cu14 (ibO os) (m - (200:Int)) (m + (200:Int)) (m + v) (m + v + v_1) x n s n_1 n_2 n_3 n_4 n_5 xs n_6 n_7).m x_1∧((True∧ibO os=ibO
 os)∧(0:Nat)=0∧(0:Nat)=0∧List.length (knF (ibO os) (List.take x.toNat (ibO os)) (m + v))=List.length (knF (ibO os) (List.take x.toNat (ibO os)) (m + v))∧(0:Nat)=0∧x_1.snd=y.snd∧(True∧ibO os=ibO os)∧(↑(List.length (ibO os)):Int)=(↑(List.length (ibO os)):Int)∧x=x∧(True∧ibO os=ibO os)∧(↑(List.length (ibO os)):Int)=(↑(List.length (ibO os)):Int)∧x_1.fst + (1:Int)=y.fst∧True)∧(m - (200:Int)=m -
 (200:Int)∧m + (200:Int)=m + (200:Int)∧m + v=m + v∧True)∧(m - (200:Int)=m - (200:Int)∧m + (200:Int)=m + (200:Int)∧m + v + v_1=m + v + v_1∧True)∧(n=n∧s=s∧n_1=n_1∧n_2=n_2∧n_3=n_3∧n_4=n_4∧n_5=n_5∧(True∧xs=xs)∧n_6=n_6∧n_7=n_7∧True)∧knF (ibO os) (List.take x.toNat (ibO os)) (m + v)=knF (ibO os) (List.take x.toNat (ibO os)) (m + v)∧True else False else bif decide (rng .i64 (x_1.fst + (1:Int))) then ∃
 y,CuJ (ibO os) (m + v) (itKy (itA n s n_1 n_2 n_3 n_4 n_5 xs n_6 n_7)) n_6 y∧(cu14 (ibO os) (m - (200:Int)) (m + (200:Int)) (m + v) (m + v + v_1) x n s n_1 n_2 n_3 n_4 n_5 xs n_6 n_7).m y < (cu14 (ibO os) (m - (200:Int)) (m + (200:Int)) (m + v) (m + v + v_1) x n s n_1 n_2 n_3 n_4 n_5 xs n_6 n_7).m x_1∧((True∧ibO os=ibO os)∧(0:Nat)=0∧(0:Nat)=0∧List.length (knF (ibO os) (List.take x.toNat (ibO os))
 (m + v))=List.length (knF (ibO os) (List.take x.toNat (ibO os)) (m + v))∧(0:Nat)=0∧x_1.snd=y.snd∧(True∧ibO os=ibO os)∧(↑(List.length (ibO os)):Int)=(↑(List.length (ibO os)):Int)∧x=x∧(True∧ibO os=ibO os)∧(↑(List.length (ibO os)):Int)=(↑(List.length (ibO os)):Int)∧x_1.fst + (1:Int)=y.fst∧True)∧(m - (200:Int)=m - (200:Int)∧m + (200:Int)=m + (200:Int)∧m + v=m + v∧True)∧(m - (200:Int)=m - (200:Int)∧m +
 (200:Int)=m + (200:Int)∧m + v + v_1=m + v + v_1∧True)∧(n=n∧s=s∧n_1=n_1∧n_2=n_2∧n_3=n_3∧n_4=n_4∧n_5=n_5∧(True∧xs=xs)∧n_6=n_6∧n_7=n_7∧True)∧knF (ibO os) (List.take x.toNat (ibO os)) (m + v)=knF (ibO os) (List.take x.toNat (ibO os)) (m + v)∧True else False else bif decide (rng .i64 (x_1.fst + (1:Int))) then ∃ y,CuJ (ibO os) (m + v) (itKy (itA n s n_1 n_2 n_3 n_4 n_5 xs n_6 n_7)) n_6 y∧(cu14 (ibO os)
 (m - (200:Int)) (m + (200:Int)) (m + v) (m + v + v_1) x n s n_1 n_2 n_3 n_4 n_5 xs n_6 n_7).m y < (cu14 (ibO os) (m - (200:Int)) (m + (200:Int)) (m + v) (m + v + v_1) x n s n_1 n_2 n_3 n_4 n_5 xs n_6 n_7).m x_1∧((True∧ibO os=ibO os)∧(0:Nat)=0∧(0:Nat)=0∧List.length (knF (ibO os) (List.take x.toNat (ibO os)) (m + v))=List.length (knF (ibO os) (List.take x.toNat (ibO os)) (m +
 v))∧(0:Nat)=0∧x_1.snd=y.snd∧(True∧ibO os=ibO os)∧(↑(List.length (ibO os)):Int)=(↑(List.length (ibO os)):Int)∧x=x∧(True∧ibO os=ibO os)∧(↑(List.length (ibO os)):Int)=(↑(List.length (ibO os)):Int)∧x_1.fst + (1:Int)=y.fst∧True)∧(m - (200:Int)=m - (200:Int)∧m + (200:Int)=m + (200:Int)∧m + v=m + v∧True)∧(m - (200:Int)=m - (200:Int)∧m + (200:Int)=m + (200:Int)∧m + v + v_1=m + v +
 v_1∧True)∧(n=n∧s=s∧n_1=n_1∧n_2=n_2∧n_3=n_3∧n_4=n_4∧n_5=n_5∧(True∧xs=xs)∧n_6=n_6∧n_7=n_7∧True)∧knF (ibO os) (List.take x.toNat (ibO os)) (m + v)=knF (ibO os) (List.take x.toNat (ibO os)) (m + v)∧True else False else False else bif decide (n_6=x_1.snd) then bif decide (List.length (knF (ibO os) (List.take x.toNat (ibO os)) (m + v))=List.length (knF (ibO os) (List.take x.toNat (ibO os)) (m +
 v))∧List.length (knF (ibO os) (List.take x.toNat (ibO os)) (m + v)) + [[AV.int .i64 n,.str s,.int .i64 n_1,.int .i64 n_2,.int .i64 n_3,.int .i64 n_4,.int .i64 n_5,.sl (2:Nat) false xs,.int .i64 n_6,.int .i64 n_7]].length≤(9223372036854775807:Nat)∧(List.length (knF (ibO os) (List.take x.toNat (ibO os)) (m + v)) + [[AV.int .i64 n,.str s,.int .i64 n_1,.int .i64 n_2,.int .i64 n_3,.int .i64 n_4,.int
 .i64 n_5,.sl (2:Nat) false xs,.int .i64 n_6,.int .i64 n_7]].length) * (104:Nat)≤(140737488355328:Nat)) then bif decide (rng .i64 (x + (1:Int))) then ∃ y,CuI (ibO os) (m + v) y∧(cu9 (ibO os) (m - (200:Int)) (m + (200:Int)) (m + v) (m + v + v_1)).m y < (cu9 (ibO os) (m - (200:Int)) (m + (200:Int)) (m + v) (m + v + v_1)).m x∧((True∧ibO os=ibO os)∧(0:Nat)=0∧(0:Nat)=0∧(knF (ibO os) (List.take x.toNat
 (ibO os)) (m + v) ++ [[AV.int .i64 n,.str s,.int .i64 n_1,.int .i64 n_2,.int .i64 n_3,.int .i64 n_4,.int .i64 n_5,.sl (2:Nat) false xs,.int .i64 n_6,.int .i64 n_7]]).length=List.length (knF (ibO os) (List.take (Int.toNat y) (ibO os)) (m + v))∧(True∧ibO os=ibO os)∧(↑(List.length (ibO os)):Int)=(↑(List.length (ibO os)):Int)∧x + (1:Int)=y∧True)∧(m - (200:Int)=m - (200:Int)∧m + (200:Int)=m +
 (200:Int)∧m + v=m + v∧True)∧(m - (200:Int)=m - (200:Int)∧m + (200:Int)=m + (200:Int)∧m + v + v_1=m + v + v_1∧True)∧knF (ibO os) (List.take x.toNat (ibO os)) (m + v) ++ [[AV.int .i64 n,.str s,.int .i64 n_1,.int .i64 n_2,.int .i64 n_3,.int .i64 n_4,.int .i64 n_5,.sl (2:Nat) false xs,.int .i64 n_6,.int .i64 n_7]]=knF (ibO os) (List.take (Int.toNat y) (ibO os)) (m + v)∧True else False else False else
 bif decide (rng .i64 (x + (1:Int))) then ∃ y,CuI (ibO os) (m + v) y∧(cu9 (ibO os) (m - (200:Int)) (m + (200:Int)) (m + v) (m + v + v_1)).m y < (cu9 (ibO os) (m - (200:Int)) (m + (200:Int)) (m + v) (m + v + v_1)).m x∧((True∧ibO os=ibO os)∧(0:Nat)=0∧(0:Nat)=0∧List.length (knF (ibO os) (List.take x.toNat (ibO os)) (m + v))=List.length (knF (ibO os) (List.take (Int.toNat y) (ibO os)) (m + v))∧(True∧ibO
 os=ibO os)∧(↑(List.length (ibO os)):Int)=(↑(List.length (ibO os)):Int)∧x + (1:Int)=y∧True)∧(m - (200:Int)=m - (200:Int)∧m + (200:Int)=m + (200:Int)∧m + v=m + v∧True)∧(m - (200:Int)=m - (200:Int)∧m + (200:Int)=m + (200:Int)∧m + v + v_1=m + v + v_1∧True)∧knF (ibO os) (List.take x.toNat (ibO os)) (m + v)=knF (ibO os) (List.take (Int.toNat y) (ibO os)) (m + v)∧True else False else False else ItsP (ibO
 os)∧bif decide (List.length (knF (ibO os) (List.take x.toNat (ibO os)) (m + v))=List.length (knF (ibO os) (List.take x.toNat (ibO os)) (m + v))) then ItsP (knF (ibO os) (List.take x.toNat (ibO os)) (m + v))∧ItsP (ibO os)∧bif decide ¬mrE (ibO os) (m - (200:Int)) (m + (200:Int))=(0:Int) then false=true else bif decide ¬mrE (knF (ibO os) (List.take x.toNat (ibO os)) (m + v)) (m - (200:Int)) (m +
 (200:Int))=(0:Int) then false=true else bif decide ¬mrE (ibO os) (m - (200:Int)) (m + (200:Int))=(0:Int) then false=true else (MgL (mrO (ibO os) (m - (200:Int)) (m + (200:Int)) (m + v))∧mrO (knF (ibO os) (List.take x.toNat (ibO os)) (m + v)) (m - (200:Int)) (m + (200:Int)) (m + v)=mrO (ibO os) (m - (200:Int)) (m + (200:Int)) (m + v))∧bif decide ((↑(List.length (mrO (ibO os) (m - (200:Int)) (m +
 (200:Int)) (m + v + v_1))):Int) < (↑(List.length (mrO (ibO os) (m - (200:Int)) (m + (200:Int)) (m + v))):Int)) then false=true else (∃ x,CuN (mrO (ibO os) (m - (200:Int)) (m + (200:Int)) (m + v)) (mrO (ibO os) (m - (200:Int)) (m + (200:Int)) (m + v + v_1)) x∧((True∧mrO (ibO os) (m - (200:Int)) (m + (200:Int)) (m + v)=mrO (ibO os) (m - (200:Int)) (m + (200:Int)) (m + v))∧(0:Int)=x.snd∧(True∧mrO (ibO
 os) (m - (200:Int)) (m + (200:Int)) (m + v + v_1)=mrO (ibO os) (m - (200:Int)) (m + (200:Int)) (m + v + v_1))∧(↑(List.length (mrO (ibO os) (m - (200:Int)) (m + (200:Int)) (m + v + v_1))):Int)=(↑(List.length (mrO (ibO os) (m - (200:Int)) (m + (200:Int)) (m + v + v_1))):Int)∧(0:Int)=x.fst∧True)∧True)∧∀ (x : Int × Int),CuN (mrO (ibO os) (m - (200:Int)) (m + (200:Int)) (m + v)) (mrO (ibO os) (m -
 (200:Int)) (m + (200:Int)) (m + v + v_1)) x→bif decide (x.fst < (↑(List.length (mrO (ibO os) (m - (200:Int)) (m + (200:Int)) (m + v + v_1))):Int)) then bif decide ((0:Int)≤x.fst∧x.fst < (↑(List.length (mrO (ibO os) (m - (200:Int)) (m + (200:Int)) (m + v + v_1))):Int)) then ∃ n s n_1 n_2 n_3 n_4 n_5 xs n_6 xs_1,List.take [AV.int .i64 n,.str s,.int .i64 n_1,.int .i64 n_2,.int .i64 n_3,.int .i64
 n_4,.int .i64 n_5,.sl (2:Nat) false xs,.int .i64 n_6,.sl (1:Nat) false xs_1].length (List.getD (mrO (ibO os) (m - (200:Int)) (m + (200:Int)) (m + v + v_1)) x.fst.toNat [])=[AV.int .i64 n,.str s,.int .i64 n_1,.int .i64 n_2,.int .i64 n_3,.int .i64 n_4,.int .i64 n_5,.sl (2:Nat) false xs,.int .i64 n_6,.sl (1:Nat) false xs_1]∧bif decide (x.snd < (↑(List.length (mrO (ibO os) (m - (200:Int)) (m +
 (200:Int)) (m + v))):Int)) then bif decide ((0:Int)≤x.snd∧x.snd < (↑(List.length (mrO (ibO os) (m - (200:Int)) (m + (200:Int)) (m + v))):Int)) then ∃ n_7,List.take [AV.int .i64 n_7].length (List.drop (0:Nat) (List.drop (0:Nat) (List.getD (mrO (ibO os) (m - (200:Int)) (m + (200:Int)) (m + v)) x.snd.toNat [])))=[AV.int .i64 n_7]∧bif decide (n=n_7) then bif decide ((0:Int)≤x.snd∧x.snd <
 (↑(List.length (mrO (ibO os) (m - (200:Int)) (m + (200:Int)) (m + v))):Int)) then ∃ s_1,List.take [AV.str s_1].length (List.drop (1:Nat) (List.drop (0:Nat) (List.getD (mrO (ibO os) (m - (200:Int)) (m + (200:Int)) (m + v)) x.snd.toNat [])))=[AV.str s_1]∧bif decide (s=s_1) then bif decide ((0:Int)≤x.snd∧x.snd < (↑(List.length (mrO (ibO os) (m - (200:Int)) (m + (200:Int)) (m + v))):Int)) then ∃
 n,List.take [AV.int .i64 n].length (List.drop (2:Nat) (List.drop (0:Nat) (List.getD (mrO (ibO os) (m - (200:Int)) (m + (200:Int)) (m + v)) x.snd.toNat [])))=[AV.int .i64 n]∧bif decide (n_1=n) then bif decide (rng .i64 (x.snd + (1:Int))) then bif decide (rng .i64 (x.fst + (1:Int))) then ∃ y,CuN (mrO (ibO os) (m - (200:Int)) (m + (200:Int)) (m + v)) (mrO (ibO os) (m - (200:Int)) (m + (200:Int)) (m +
 v + v_1)) y∧(cu29 (mrO (ibO os) (m - (200:Int)) (m + (200:Int)) (m + v)) (mrO (ibO os) (m - (200:Int)) (m + (200:Int)) (m + v + v_1))).m y < (cu29 (mrO (ibO os) (m - (200:Int)) (m + (200:Int)) (m + v)) (mrO (ibO os) (m - (200:Int)) (m + (200:Int)) (m + v + v_1))).m x∧((True∧mrO (ibO os) (m - (200:Int)) (m + (200:Int)) (m + v)=mrO (ibO os) (m - (200:Int)) (m + (200:Int)) (m + v))∧x.snd +
 (1:Int)=y.snd∧(True∧mrO (ibO os) (m - (200:Int)) (m + (200:Int)) (m + v + v_1)=mrO (ibO os) (m - (200:Int)) (m + (200:Int)) (m + v + v_1))∧(↑(List.length (mrO (ibO os) (m - (200:Int)) (m + (200:Int)) (m + v + v_1))):Int)=(↑(List.length (mrO (ibO os) (m - (200:Int)) (m + (200:Int)) (m + v + v_1))):Int)∧x.fst + (1:Int)=y.fst∧True)∧True else False else False else bif decide (rng .i64 (x.fst +
 (1:Int))) then ∃ y,CuN (mrO (ibO os) (m - (200:Int)) (m + (200:Int)) (m + v)) (mrO (ibO os) (m - (200:Int)) (m + (200:Int)) (m + v + v_1)) y∧(cu29 (mrO (ibO os) (m - (200:Int)) (m + (200:Int)) (m + v)) (mrO (ibO os) (m - (200:Int)) (m + (200:Int)) (m + v + v_1))).m y < (cu29 (mrO (ibO os) (m - (200:Int)) (m + (200:Int)) (m + v)) (mrO (ibO os) (m - (200:Int)) (m + (200:Int)) (m + v + v_1))).m
 x∧((True∧mrO (ibO os) (m - (200:Int)) (m + (200:Int)) (m + v)=mrO (ibO os) (m - (200:Int)) (m + (200:Int)) (m + v))∧x.snd=y.snd∧(True∧mrO (ibO os) (m - (200:Int)) (m + (200:Int)) (m + v + v_1)=mrO (ibO os) (m - (200:Int)) (m + (200:Int)) (m + v + v_1))∧(↑(List.length (mrO (ibO os) (m - (200:Int)) (m + (200:Int)) (m + v + v_1))):Int)=(↑(List.length (mrO (ibO os) (m - (200:Int)) (m + (200:Int)) (m +
 v + v_1))):Int)∧x.fst + (1:Int)=y.fst∧True)∧True else False else False else bif decide (rng .i64 (x.fst + (1:Int))) then ∃ y,CuN (mrO (ibO os) (m - (200:Int)) (m + (200:Int)) (m + v)) (mrO (ibO os) (m - (200:Int)) (m + (200:Int)) (m + v + v_1)) y∧(cu29 (mrO (ibO os) (m - (200:Int)) (m + (200:Int)) (m + v)) (mrO (ibO os) (m - (200:Int)) (m + (200:Int)) (m + v + v_1))).m y < (cu29 (mrO (ibO os) (m -
 (200:Int)) (m + (200:Int)) (m + v)) (mrO (ibO os) (m - (200:Int)) (m + (200:Int)) (m + v + v_1))).m x∧((True∧mrO (ibO os) (m - (200:Int)) (m + (200:Int)) (m + v)=mrO (ibO os) (m - (200:Int)) (m + (200:Int)) (m + v))∧x.snd=y.snd∧(True∧mrO (ibO os) (m - (200:Int)) (m + (200:Int)) (m + v + v_1)=mrO (ibO os) (m - (200:Int)) (m + (200:Int)) (m + v + v_1))∧(↑(List.length (mrO (ibO os) (m - (200:Int)) (m
 + (200:Int)) (m + v + v_1))):Int)=(↑(List.length (mrO (ibO os) (m - (200:Int)) (m + (200:Int)) (m + v + v_1))):Int)∧x.fst + (1:Int)=y.fst∧True)∧True else False else False else bif decide (rng .i64 (x.fst + (1:Int))) then ∃ y,CuN (mrO (ibO os) (m - (200:Int)) (m + (200:Int)) (m + v)) (mrO (ibO os) (m - (200:Int)) (m + (200:Int)) (m + v + v_1)) y∧(cu29 (mrO (ibO os) (m - (200:Int)) (m + (200:Int)) (m
 + v)) (mrO (ibO os) (m - (200:Int)) (m + (200:Int)) (m + v + v_1))).m y < (cu29 (mrO (ibO os) (m - (200:Int)) (m + (200:Int)) (m + v)) (mrO (ibO os) (m - (200:Int)) (m + (200:Int)) (m + v + v_1))).m x∧((True∧mrO (ibO os) (m - (200:Int)) (m + (200:Int)) (m + v)=mrO (ibO os) (m - (200:Int)) (m + (200:Int)) (m + v))∧x.snd=y.snd∧(True∧mrO (ibO os) (m - (200:Int)) (m + (200:Int)) (m + v + v_1)=mrO (ibO
 os) (m - (200:Int)) (m + (200:Int)) (m + v + v_1))∧(↑(List.length (mrO (ibO os) (m - (200:Int)) (m + (200:Int)) (m + v + v_1))):Int)=(↑(List.length (mrO (ibO os) (m - (200:Int)) (m + (200:Int)) (m + v + v_1))):Int)∧x.fst + (1:Int)=y.fst∧True)∧True else False else False else bif decide (rng .i64 (x.fst + (1:Int))) then ∃ y,CuN (mrO (ibO os) (m - (200:Int)) (m + (200:Int)) (m + v)) (mrO (ibO os) (m -
 (200:Int)) (m + (200:Int)) (m + v + v_1)) y∧(cu29 (mrO (ibO os) (m - (200:Int)) (m + (200:Int)) (m + v)) (mrO (ibO os) (m - (200:Int)) (m + (200:Int)) (m + v + v_1))).m y < (cu29 (mrO (ibO os) (m - (200:Int)) (m + (200:Int)) (m + v)) (mrO (ibO os) (m - (200:Int)) (m + (200:Int)) (m + v + v_1))).m x∧((True∧mrO (ibO os) (m - (200:Int)) (m + (200:Int)) (m + v)=mrO (ibO os) (m - (200:Int)) (m +
 (200:Int)) (m + v))∧x.snd=y.snd∧(True∧mrO (ibO os) (m - (200:Int)) (m + (200:Int)) (m + v + v_1)=mrO (ibO os) (m - (200:Int)) (m + (200:Int)) (m + v + v_1))∧(↑(List.length (mrO (ibO os) (m - (200:Int)) (m + (200:Int)) (m + v + v_1))):Int)=(↑(List.length (mrO (ibO os) (m - (200:Int)) (m + (200:Int)) (m + v + v_1))):Int)∧x.fst + (1:Int)=y.fst∧True)∧True else False else False else bif decide
 (x.snd=(↑(List.length (mrO (ibO os) (m - (200:Int)) (m + (200:Int)) (m + v))):Int)) then True∧true=true else false=true else False else False else False else False else False
set_option maxRecDepth 100000 in
theorem lcutoff_P : lcutoff_T mrE mrO ibO adE adO inV suC ouL rdC cmpI cmpS aw1 := by
  unfold lcutoff_T
  intro xs hz _
  have hs : SrcI (List.take 2000 xs) := SrcI.take hz
  refine ⟨trivial,⟨hs,by decide⟩,fun m j q1 => ⟨⟨⟨hs,q1.fj⟩,q1.fm,by decide,by decide⟩,fun os j q2 => ⟨itm_gd q2 (by decide),?_⟩⟩⟩
  have hm := q1.fm
  refine cdI (by omega) (cdI (by omega) ⟨⟨⟨hs,q2.fj⟩,by decide,by decide,by decide⟩,fun v j q3 => ?_⟩)
  obtain ⟨⟨v1,v2⟩,hj⟩ := q3
  refine cdI (by omega) ⟨⟨hs,hj⟩,fun v1 j q4 => ?_⟩
  have hv1 := q4.fv (by omega)
  refine cdI (by omega) ?_
  have hib := ibO_ok os (itm_gd q2 (by decide)).fg
  generalize ibO os=B at *
  have ok : OkL B := ⟨hib.fg.p,hib.fv⟩
  have hB := (inV_ok hib.fv).1
  have hft : m - 200≤m + 200 := by omega
  have hcc : m + v≤m + v + v1 := by omega
  generalize m + v + v1=cut2 at *
  generalize m + v=cut at *
  generalize m - 200=fr at *
  generalize m + 200=to at *
  have hkl : ∀ i : Nat,(knF B (B.take i) cut).length≤150 := fun i => by
    have h1 := List.length_filter_le (knB B cut) (B.take i)
    have h2 : (B.take i).length≤B.length := by rw [List.length_take]; omega
    unfold knF; omega
  refine ⟨⟨0,⟨by decide,by omega⟩,by (repeat' (first | exact trivial | exact rfl | assumption | apply And.intro))⟩,?_⟩
  rintro i ⟨i0,i1⟩
  refine csx (fun hi => cd1 (by omega) ?_) (fun hi => ?_)
  · obtain ⟨k,nm,t,f,a,b,c,rd,co,ar,h1,hrd⟩ := ok.fp.fr i.toNat (by omega)
    have hsn : B.take (i + 1).toNat=B.take i.toNat ++ [itA k nm t f a b c rd co ar] := by rw [show (i + 1).toNat=i.toNat + 1 by omega,← h1]; exact take_snoc (by omega)
    refine ⟨k,nm,t,f,a,b,c,rd,co,ar,by rw [h1]; rfl,csx (fun hc => ?_) (fun hc => ?_)⟩
    · have hkn : knF B (B.take (i + 1).toNat) cut=knF B (B.take i.toNat) cut := by
        rw [hsn]
        refine knF_neg ?_
        unfold knB
        rw [decide_eq_false (show ¬ itAr (itA k nm t f a b c rd co ar)≤cut from by show ¬ ar≤cut; omega)]; rfl
      exact cdI (by omega) ⟨i + 1,⟨by omega,by omega⟩,by simp only [cu9]; omega,by rw [hkn]; (repeat' (first | exact trivial | exact rfl | assumption | apply And.intro))⟩
    · refine ⟨⟨(0,co),⟨by simp only; omega,by simp only; omega,rfl⟩,by (repeat' (first | exact trivial | exact rfl | assumption | apply And.intro))⟩,?_⟩
      rintro ⟨j,best⟩ ⟨j0,j1,jb⟩
      simp only at j0 j1 jb
      dsimp only
      refine csx (fun hj => cd1 (by omega) ?_) (fun hj => ?_)
      · obtain ⟨k2,nm2,t2,f2,a2,b2,c2,rd2,co2,ar2,h2,_⟩ := ok.fp.fr j.toNat (by omega)
        have hs1 : bsC (B.take (j + 1).toNat) cut (itKy (itA k nm t f a b c rd co ar)) co=if ar2≤cut∧itKy (itA k2 nm2 t2 f2 a2 b2 c2 rd2 co2 ar2)=itKy (itA k nm t f a b c rd co ar) then max best co2 else best := by
          rw [show (j + 1).toNat=j.toNat + 1 by omega,take_snoc (by omega),bsC_snoc,← jb,h2]; rfl
        have hky : itKy (itA k2 nm2 t2 f2 a2 b2 c2 rd2 co2 ar2)=itKy (itA k nm t f a b c rd co ar)↔k2=k∧nm2=nm∧t2=t := ky3
        have nx : ∀ b9 : Int,b9=bsC (B.take (j + 1).toNat) cut (itKy (itA k nm t f a b c rd co ar)) co→CuJ B cut (itKy (itA k nm t f a b c rd co ar)) co (j + 1,b9) := fun b9 h => ⟨by simp only; omega,by simp only; omega,h⟩
        have ms : ∀ b9 : Int,(cu14 B fr to cut cut2 i k nm t f a b c rd co ar).m (j + 1,b9) < (cu14 B fr to cut cut2 i k nm t f a b c rd co ar).m (j,best) := fun b9 => by simp only [cu14]; omega
        exact ⟨k2,nm2,t2,f2,a2,b2,c2,rd2,co2,ar2,by rw [h2]; rfl,csx (fun e0 => csx (fun e1 => csx (fun e2 => csx (fun e3 => cdI (by omega) ⟨(j + 1,max best co2),nx _ (by rw [hs1,if_pos ⟨e0,hky.2 ⟨e1,e2,e3⟩⟩]),ms _,by (repeat' (first | exact trivial | exact rfl | assumption | apply And.intro))⟩) (fun e => cdI (by omega) ⟨(j + 1,best),nx _ (by rw [hs1,if_neg (fun z => e (hky.1 z.2).2.2)]),ms _,by (repeat' (first | exact trivial | exact rfl | assumption | apply And.intro))⟩)) (fun e => cdI (by omega) ⟨(j + 1,best),nx _ (by rw [hs1,if_neg (fun z => e (hky.1 z.2).2.1)]),ms _,by (repeat' (first | exact trivial | exact rfl | assumption | apply And.intro))⟩)) (fun e => cdI (by omega) ⟨(j + 1,best),nx _ (by rw [hs1,if_neg (fun z => e (hky.1 z.2).1)]),ms _,by (repeat' (first | exact trivial | exact rfl | assumption | apply And.intro))⟩)) (fun e => cdI (by omega) ⟨(j + 1,best),nx _ (by rw [hs1,if_neg (fun z => e z.1)]),ms _,by (repeat' (first | exact trivial | exact rfl | assumption | apply And.intro))⟩)⟩
      · rw [List.take_of_length_le (by omega)] at jb
        have hkb : knB B cut (itA k nm t f a b c rd co ar)=decide (co=best) := by
          unfold knB
          rw [decide_eq_true (show itAr (itA k nm t f a b c rd co ar)≤cut from by show ar≤cut; omega),Bool.true_and,jb]; rfl
        have hkl1 := hkl i.toNat
        refine csx (fun hq => ?_) (fun hq => ?_)
        · have hkn : knF B (B.take (i + 1).toNat) cut=knF B (B.take i.toNat) cut ++ [itA k nm t f a b c rd co ar] := by
            rw [hsn]; exact knF_pos (by rw [hkb]; exact decide_eq_true hq)
          exact cd1 ⟨rfl,by simp only [List.length_singleton]; omega,by simp only [List.length_singleton]; omega⟩ (cdI (by omega) ⟨i + 1,⟨by omega,by omega⟩,by simp only [cu9]; omega,by rw [hkn]; (repeat' (first | exact trivial | exact rfl | assumption | apply And.intro))⟩)
        · have hkn : knF B (B.take (i + 1).toNat) cut=knF B (B.take i.toNat) cut := by
            rw [hsn]; exact knF_neg (by rw [hkb]; exact decide_eq_false hq)
          exact cdI (by omega) ⟨i + 1,⟨by omega,by omega⟩,by simp only [cu9]; omega,by rw [hkn]; (repeat' (first | exact trivial | exact rfl | assumption | apply And.intro))⟩
  · rw [List.take_of_length_le (by omega)]
    have okn : OkL (knF B B cut) := ok.fil _
    have e1 : mrE B fr to=0 := by unfold mrE; rw [if_pos hib.fv,if_neg (by omega)]
    have e2 : mrE (knF B B cut) fr to=0 := by unfold mrE; rw [if_pos okn.fv,if_neg (by omega)]
    have eO : ∀ c : Int,mrO B fr to c=(grF (mrF B fr to c)).map mgRow := fun c => by unfold mrO; rw [if_pos e1]
    have hpq : mrO (knF B B cut) fr to cut=mrO B fr to cut := by
      rw [eO]; unfold mrO; rw [if_pos e2,cut_gr ok]
    have hmp : MgL (mrO B fr to cut) := by rw [eO]; exact mr_mgl ok
    have hmr : MgL (mrO B fr to cut2) := by rw [eO]; exact mr_mgl ok
    have hsub : List.Sublist ((mrO B fr to cut).map itKy) ((mrO B fr to cut2).map itKy) := by rw [eO,eO]; exact cut_sub ok hcc
    have hlp : (mrO B fr to cut2).length≤200 := by
      rw [eO,List.length_map]
      have := grF_len (mrF B fr to cut2)
      have := (mrF_sub (l := B) (fr := fr) (to := to) (cut := cut2)).2
      omega
    rw [hpq,e1,e2]
    generalize mrO B fr to cut=P at *
    generalize mrO B fr to cut2=R at *
    have hll := hsub.length_le
    rw [List.length_map,List.length_map] at hll
    refine ⟨ok.fp,cd1 rfl ⟨okn.fp,ok.fp,csx (fun w => absurd rfl w) (fun _ => csx (fun w => absurd rfl w) (fun _ => csx (fun w => absurd rfl w) (fun _ => ⟨⟨hmp,rfl⟩,csx (fun w => absurd w (by omega)) (fun _ => ⟨⟨(0,0),⟨by simp,by simp,by simpa using hsub⟩,by (repeat' (first | exact trivial | exact rfl | assumption | apply And.intro))⟩,?_⟩)⟩)))⟩⟩
    rintro ⟨j,n⟩ ⟨⟨j0,j1⟩,⟨n0,n1⟩,sb⟩
    simp only at j0 j1 n0 n1 sb
    dsimp only
    refine csx (fun hj => cd1 (by omega) ?_) (fun hj => csx (fun _ => ⟨trivial,rfl⟩) (fun w => absurd ?_ w))
    · obtain ⟨k,nm,t,f,a,b,c,rd,vs,cs,h1,_⟩ := (hmr.fr j.toNat (by omega)).fr
      have ms : ∀ n9 : Int,(cu29 P R).m (j + 1,n9) < (cu29 P R).m (j,n) := fun n9 => by simp only [cu29]; omega
      have nx : ∀ n9 : Int,0≤n9∧n9≤P.length→List.Sublist ((P.drop n9.toNat).map itKy) ((R.drop (j.toNat + 1)).map itKy)→CuN P R (j + 1,n9) := fun n9 hn h => ⟨by simp only; omega,hn,by simp only; rw [show (j + 1).toNat=j.toNat + 1 by omega]; exact h⟩
      refine ⟨k,nm,t,f,a,b,c,rd,vs,cs,by rw [h1]; rfl,csx (fun hn => cd1 (by omega) ?_) (fun hn => cdI (by omega) ⟨(j + 1,n),nx n (by omega) (sb_end (by omega)),ms _,by (repeat' (first | exact trivial | exact rfl | assumption | apply And.intro))⟩)⟩
      obtain ⟨k2,nm2,t2,f2,a2,b2,c2,rd2,vs2,cs2,h2,_⟩ := (hmp.fr n.toNat (by omega)).fr
      have hky : itKy (R.getD j.toNat [])=itKy (P.getD n.toNat [])↔k=k2∧nm=nm2∧t=t2 := by rw [h1,h2]; exact ky3
      have no : ¬ (k=k2∧nm=nm2∧t=t2)→CuN P R (j + 1,n) := fun e => nx n (by omega) (sb_ne (by omega) (by omega) sb (fun z => e (hky.1 z)))
      exact ⟨k2,by rw [h2]; rfl,csx (fun e1 => cd1 (by omega) ⟨nm2,by rw [h2]; rfl,csx (fun e2 => cd1 (by omega) ⟨t2,by rw [h2]; rfl,csx (fun e3 => cdI (by omega) (cdI (by omega) ⟨(j + 1,n + 1),nx (n + 1) (by omega) (by rw [show (n + 1).toNat=n.toNat + 1 by omega]; exact sb_eq (by omega) (by omega) sb (hky.2 ⟨e1,e2,e3⟩)),ms _,by (repeat' (first | exact trivial | exact rfl | assumption | apply And.intro))⟩)) (fun e => cdI (by omega) ⟨(j + 1,n),no (fun z => e z.2.2),ms _,by (repeat' (first | exact trivial | exact rfl | assumption | apply And.intro))⟩)⟩) (fun e => cdI (by omega) ⟨(j + 1,n),no (fun z => e z.2.1),ms _,by (repeat' (first | exact trivial | exact rfl | assumption | apply And.intro))⟩)⟩) (fun e => cdI (by omega) ⟨(j + 1,n),no (fun z => e z.1),ms _,by (repeat' (first | exact trivial | exact rfl | assumption | apply And.intro))⟩)⟩
    · have := sb_fin sb (by omega)
      omega
def lcutoff_S (mrE : LLA→Int→Int→Int) (mrO : LLA→Int→Int→Int→LLA) (ibO : LLA→LLA) (adE : LLA→List AV→Int) (adO : LLA→List AV→LLA) (inV : LLA→Int) (suC : Int→ByteArray→Int→Int→ByteArray→Int→Int) (ouL : LLA→LLA→LLA) (rdC : LLA→LLA→Int) (cmpI : Int→Int→Int) (cmpS : ByteArray→ByteArray→Int) (aw1 : LLA) : Prop := ∀ (xs : List (List AV)),IntsA xs→fnK Tryd.prog { glob := glb,spec := lk [(10,(qinbox_s ibO adE adO)),(25,(imerge_s inV suC ouL mrE mrO)),(27,(rsmm_s rdC cmpI cmpS)),(21,(iawake_s aw1 mrE mrO adE adO))],specH := lk [(8,newsrc_s)],specQ := lk [(9,qminute_s),(11,qitems_s),(16,qrange_s),(13,qn_s)],shape := [52,65,158,172,184,196],slz := [(52,[2]),(65,[2]),(158,[2,1])],nowf := true } { nt := 209,drop := drp [(1,25165824),(2,100663296),(3,2013265920),(4,1097364144128),(5,1099511627776),(6,138538465099776),(10,6755399441055744),(11,135107988821114880),(12,864691128455135232),(15,55340232221128654848),(16,158456324954741698892249694208),(17,4753689750855860255612637020160),(18,5070602400912917605986812821504),(19,70988433612780846483815379501056),(20,2433889152438200450873670154321920),(21,2596148429267413814265248164610048),(22,327114702087694140597421268740866048),(23,20935340933612424998234961199415427072),(24,1339861819751195199887037516762587332608),(25,5708989409694371840479290024299550818458140672),(30,548063113999088594326381812268606132370974703616),(31,401734511064016818066825071626188808214192606935870242553856),(32,2410407066388485413312943138511743903783304490674189252952064),(33,3213876088517980551083924184682325205044405987565585670602752),(34,816324526483567059975316742909310602081279120841658760333099008)],emp := fun id => cond (Nat.beq id 8) [(8,1708,50,10)] [] } (cuK) 6 Tryd.f5 [.sl 1 false xs] (.bool true)
set_option maxRecDepth 100000 in
theorem lcutoff_e (mrE : LLA→Int→Int→Int) (mrO : LLA→Int→Int→Int→LLA) (ibO : LLA→LLA) (adE : LLA→List AV→Int) (adO : LLA→List AV→LLA) (inV : LLA→Int) (suC : Int→ByteArray→Int→Int→ByteArray→Int→Int) (ouL : LLA→LLA→LLA) (rdC : LLA→LLA→Int) (cmpI : Int→Int→Int) (cmpS : ByteArray→ByteArray→Int) (aw1 : LLA) : lcutoff_T mrE mrO ibO adE adO inV suC ouL rdC cmpI cmpS aw1=lcutoff_S mrE mrO ibO adE adO inV suC ouL rdC cmpI cmpS aw1 := by kernel_rfl
theorem lcutoff_v : lcutoff_S mrE mrO ibO adE adO inV suC ouL rdC cmpI cmpS aw1 := @Eq.mp (lcutoff_T mrE mrO ibO adE adO inV suC ouL rdC cmpI cmpS aw1) (lcutoff_S mrE mrO ibO adE adO inV suC ouL rdC cmpI cmpS aw1) (lcutoff_e mrE mrO ibO adE adO inV suC ouL rdC cmpI cmpS aw1) (lcutoff_P)
theorem lcutoff_ok : SOK Tryd.prog glb 5 (lcutoff_s mrE mrO ibO) := by
  refine ⟨fok Tryd.func5 (by kernel_rfl) (by kernel_rfl),?_⟩
  intro xs pre r h hp
  unfold lcutoff_s at h
  split at h
  · simp only [Option.some.injEq,Prod.mk.injEq] at h
    obtain ⟨h1,h2⟩ := h
    subst h1 h2
    exact fnK_sound tyNil (by exact specOK rfl rfl ⟨(qinbox_ok glb),(imerge_ok),(rsmm_ok glb),(iawake_ok),trivial⟩ ⟨(newsrc_ok glb),trivial⟩ (d := qsOf rfl ⟨(qminute_ok glb),(qitems_ok glb),(qrange_ok glb),(qn_ok glb),trivial⟩)) (by kernel_rfl) Tryd.func5 rfl (lcutoff_v  _ hp)
  · cases h
end Go.Proofs.YtgnnafneglannaaDoor
namespace Go.Proofs.YtgnnafneglannaaDoor
open Go
open Go.ChangeShapes Go.WideShapes
open Go.RowKit (Below)
set_option linter.unusedVariables false
set_option linter.unusedSimpArgs false
def pinAll (w : World) : Pin := fun b o => match w.cell? ⟨b,o,none⟩ with | some v => cond v.oneCell' (some v) none | none => none
theorem pinAll_some {w : World} {b o : Nat} {v : Value} (h : w.cell? ⟨b,o,none⟩=some v) (k : v.oneCell'=true) : pinAll w b o=some v := by simp [pinAll,h,k]
theorem agree_all (w : World) : Agree (pinAll w) w := by
  intro b o v h
  unfold pinAll at h
  split at h
  · next u e =>
    cases hk : u.oneCell' with
    | true => rw [hk] at h; simp only [cond_true,Option.some.injEq] at h; subst h; exact ⟨e,hk⟩
    | false => rw [hk] at h; cases h
  · cases h
def tiles (P : Program) : List Field→Nat→Nat→Bool
  | [],o,n => Nat.beq o n
  | f :: fs,o,n => Nat.beq f.offset o && tiles P fs (o + P.cellsOf f.type) n
def supp (P : Program) : Nat→TypeId→Bool
  | 0,_ => false
  | n + 1,t => match P.underlying t with
    | some .bool => true
    | some (.int _) => true
    | some .string => true
    | some (.slice e) => Nat.blt 0 (P.cellsOf e) && supp P n e
    | some (.struct fs) => tiles P fs.toList 0 (P.cellsOf t) && fs.toList.all fun f => supp P n f.type
    | some (.array m e) => Nat.beq (m * P.cellsOf e) (P.cellsOf t) && supp P n e
    | _ => false
def ShF (P : Program) (sh : TypeId→List AV→Prop) : List Field→List AV→Prop
  | [],cs => cs=[]
  | f :: fs,cs => ∃ ys zs,sh f.type ys∧ShF P sh fs zs∧cs=ys ++ zs
def ShE (sh : List AV→Prop) : Nat→List AV→Prop
  | 0,cs => cs=[]
  | n + 1,cs => ∃ ys zs,sh ys∧ShE sh n zs∧cs=ys ++ zs
def Sh (P : Program) : Nat→TypeId→List AV→Prop
  | 0,_,_ => False
  | n + 1,t,cs => match P.underlying t with
    | some .bool => ∃ b,cs=[.bool b]
    | some (.int k) => ∃ z,rng k z∧cs=[.int k z]
    | some .string => ∃ s : ByteArray,s.size≤9223372036854775807∧cs=[.str s]
    | some (.slice e) => ∃ xs : List (List AV),xs.length≤9223372036854775807∧(∀ x ∈ xs,Sh P n e x)∧cs=[.sl (P.cellsOf e) false xs]
    | some (.struct fs) => ShF P (Sh P n) fs.toList cs
    | some (.array m e) => ShE (Sh P n e) m cs
    | _ => False
theorem shF_of {P : Program} {S : Pin} {sh : TypeId→List AV→Prop} {vs : List Value} : ∀ (fs : List Field) (o tot : Nat),tiles P fs o tot=true→vs.length=tot →
    (∀ f ∈ fs,∃ ys,sh f.type ys∧allOne ys=true∧CVl S ys noNm ((vs.drop f.offset).take (P.cellsOf f.type)))→∃ cs,ShF P sh fs cs∧allOne cs=true∧CVl S cs noNm (vs.drop o)
  | [],o,tot,ht,hl,_ => by
    simp only [tiles] at ht
    have := Nat.eq_of_beq_eq_true ht
    exact ⟨[],rfl,rfl,by simp only [CVl]; exact List.drop_eq_nil_of_le (by omega)⟩
  | f :: fs,o,tot,ht,hl,h => by
    simp only [tiles,Bool.and_eq_true] at ht
    obtain ⟨ho,ht⟩ := ht
    have ho := Nat.eq_of_beq_eq_true ho
    obtain ⟨ys,h1,h2,h3⟩ := h f (List.mem_cons_self ..)
    obtain ⟨zs,k1,k2,k3⟩ := shF_of fs _ tot ht hl (fun g hg => h g (List.mem_cons_of_mem _ hg))
    refine ⟨ys ++ zs,⟨ys,zs,h1,k1,rfl⟩,allOne_append h2 k2,?_⟩
    rw [ho] at h3
    have e : vs.drop o=(vs.drop o).take (P.cellsOf f.type) ++ vs.drop (o + P.cellsOf f.type) := by
      rw [← List.drop_drop]; exact (List.take_append_drop _ _).symm
    rw [e]
    exact CVl.append h3 k3
where allOne_append : ∀ {xs ys : List AV},allOne xs=true→allOne ys=true→allOne (xs ++ ys)=true
  | [],ys,_,h => h
  | x :: xs,ys,h,k => by
    simp only [allOne,Bool.and_eq_true,List.cons_append] at h ⊢
    exact ⟨h.1,allOne_append h.2 k⟩
theorem shE_of {S : Pin} {sh : List AV→Prop} {s : Nat} : ∀ (n : Nat) (vs : List Value),vs.length=n * s→(∀ i,i < n→∃ ys,sh ys∧allOne ys=true∧CVl S ys noNm ((vs.drop (i * s)).take s)) →
    ∃ cs,ShE sh n cs∧allOne cs=true∧CVl S cs noNm vs
  | 0,vs,hl,_ => ⟨[],rfl,rfl,by simp only [CVl]; exact List.eq_nil_of_length_eq_zero (by omega)⟩
  | n + 1,vs,hl,h => by
    obtain ⟨ys,h1,h2,h3⟩ := h 0 (by omega)
    have hl' : vs.length=n * s + s := by rw [hl,Nat.succ_mul]
    obtain ⟨zs,k1,k2,k3⟩ := shE_of n (vs.drop s) (by rw [List.length_drop,hl',Nat.add_sub_cancel]) (fun i hi => by
      obtain ⟨q,q1,q2,q3⟩ := h (i + 1) (by omega)
      refine ⟨q,q1,q2,?_⟩
      rw [List.drop_drop,show s + i * s=(i + 1) * s by rw [Nat.succ_mul]; omega]
      exact q3)
    refine ⟨ys ++ zs,⟨ys,zs,h1,k1,rfl⟩,shF_of.allOne_append h2 k2,?_⟩
    rw [Nat.zero_mul,List.drop_zero] at h3
    have e : vs=vs.take s ++ vs.drop s := (List.take_append_drop _ _).symm
    rw [e]
    exact CVl.append h3 k3
theorem list_of {α : Type} {p : Nat→α→Prop} : ∀ (n : Nat),(∀ i,i < n→∃ x,p i x)→∃ xs : List α,xs.length=n∧∀ i x,xs[i]?=some x→p i x
  | 0,_ => ⟨[],rfl,by simp⟩
  | n + 1,h => by
    obtain ⟨xs,h1,h2⟩ := list_of n (fun i hi => h i (by omega))
    obtain ⟨x,hx⟩ := h n (by omega)
    refine ⟨xs ++ [x],by simp [h1],fun i y hy => ?_⟩
    rcases Nat.lt_or_ge i xs.length with hi | hi
    · rw [List.getElem?_append_left hi] at hy; exact h2 i y hy
    · rw [List.getElem?_append_right hi] at hy
      rcases Nat.eq_zero_or_pos (i - xs.length) with h0 | h0
      · rw [h0] at hy
        simp only [List.getElem?_cons_zero,Option.some.injEq] at hy
        rw [← hy,show i=n by omega]; exact hx
      · rw [List.getElem?_eq_none (by simp; omega)] at hy; cases hy
section
variable {H : Type} {enc : TypeId × Value→H} {P : Program} {w : World} {base : Nat} {held : Bool}
theorem rng_wf {k : IntKind} {z : Int} (h : (Lit.int k z).wf=true) : rng k z := by
  rw [rng_iff]
  simp only [Lit.wf,Bool.and_eq_true,decide_eq_true_eq] at h
  exact h
theorem in_of_trod : ∀ (n : Nat) (t : TypeId) (fuel : Nat) (vs : List Value) (x : DataW H × List MemPlace),supp P n t=true→DataW.trod enc P w base (fun _ => true) held fuel t vs=some x →
    ∃ cs,Sh P n t cs∧allOne cs=true∧CVl (pinAll w) cs noNm vs
  | 0,t,_,_,_,hs,_ => by simp [supp] at hs
  | n + 1,t,fuel,vs,x,hs,h => by
    unfold supp at hs
    unfold Sh
    split at hs
    · next ht =>
      obtain ⟨b,rfl,_⟩ := DataW.trod_bool ht h
      exact ⟨[.bool b],⟨b,rfl⟩,rfl,_,_,rfl,rfl,rfl⟩
    · next k ht =>
      obtain ⟨z,rfl,_,hw⟩ := DataW.trod_int ht h
      exact ⟨[.int k z],⟨z,rng_wf hw,rfl⟩,rfl,_,_,rfl,⟨rfl,rng_wf hw⟩,rfl⟩
    · next ht =>
      obtain ⟨s,rfl,_,hw⟩ := DataW.trod_string ht h
      exact ⟨[.str s],⟨s,hw,rfl⟩,rfl,_,_,rfl,⟨rfl,hw⟩,rfl⟩
    · next e ht =>
      simp only [Bool.and_eq_true] at hs
      have hs0 : 0 < P.cellsOf e := by have := hs.1; simp [Nat.blt] at this; omega
      rcases DataW.trod_slice ht h with ⟨rfl,_⟩ | ⟨a,len,cap,elems,rest,m,_,rfl,_,hb,hl,hc,hlen,hel,hsp,hns⟩
      · refine ⟨[.sl (P.cellsOf e) false []],⟨[],by simp,by simp,rfl⟩,rfl,_,_,rfl,⟨none,0,rfl,by simp,by simp,(fun h => by cases h),(fun _ => rfl),(fun a ha => by cases ha)⟩,rfl⟩
      · have each : ∀ i,i < len→∃ x,(Sh P n e x)∧∃ cs',w.cells? base (a.add (i * P.cellsOf e)) (P.cellsOf e)=some cs'∧allOne x=true∧CVl (pinAll w) x noNm cs' := by
          intro i hi
          have h1 := hel i hi
          have hx : elems[i]?=some (elems[i]'(by omega)) := List.getElem?_eq_getElem (by omega)
          rw [hx,Option.bind_eq_some_iff] at h1
          obtain ⟨cs',h2,h3⟩ := h1
          obtain ⟨y,k1,k2,k3⟩ := in_of_trod n e m cs' _ hs.2 h3
          exact ⟨y,k1,cs',h2,k2,k3⟩
        obtain ⟨xs,hx1,hx2⟩ := list_of len each
        have hmem : ∀ x ∈ xs,Sh P n e x := by
          intro x hx
          obtain ⟨i,hi⟩ := List.getElem?_of_mem hx
          exact (hx2 i x hi).1
        refine ⟨[.sl (P.cellsOf e) false xs],⟨xs,by unfold maxLen at hc; omega,hmem,rfl⟩,rfl,_,_,rfl,⟨some a,cap,by rw [hx1],by omega,hc,(fun h => by cases h),(fun h => by cases h),fun a' ha => ?_⟩,rfl⟩
        cases ha
        have key : ∀ (j : Nat) (x : List AV),xs[j]?=some x→∃ cs' : List Value,cs'.length=P.cellsOf e∧CVl (pinAll w) x noNm cs'∧allOne x=true∧∀ i,i < P.cellsOf e→w.cell? ((a.add (j * P.cellsOf e)).add i)=cs'[i]? := by
          intro j x hj
          obtain ⟨_,cs',h2,h3,h4⟩ := hx2 j x hj
          obtain ⟨_,q1,q2⟩ := World.cells?_some h2
          exact ⟨cs',q1,h4,h3,q2⟩
        have spot : cap≠0→a.spot=none := by
          intro h0
          have h1 : ∃ cs',w.cells? base (a.add (0 * P.cellsOf e)) (P.cellsOf e)=some cs' := by
            rcases Nat.eq_zero_or_pos len with hl0 | hl0
            · obtain ⟨hr,hr2⟩ := hsp rfl
              have h1 := hr2 0 (by omega)
              have hx : rest[0]?=some (rest[0]'(by omega)) := List.getElem?_eq_getElem (by omega)
              rw [hx,Option.bind_eq_some_iff] at h1
              obtain ⟨cs',h2,_⟩ := h1
              exact ⟨cs',by rw [← h2,hl0]⟩
            · have h1 := hel 0 hl0
              have hx : elems[0]?=some (elems[0]'(by omega)) := List.getElem?_eq_getElem (by omega)
              rw [hx,Option.bind_eq_some_iff] at h1
              obtain ⟨cs',h2,_⟩ := h1
              exact ⟨cs',h2⟩
          obtain ⟨cs',h2⟩ := h1
          obtain ⟨_,q1,q2⟩ := World.cells?_some h2
          have h3 := q2 0 hs0
          rw [List.getElem?_eq_getElem (by omega)] at h3
          have h4 := World.cell?_spot h3
          simpa [Addr.add] using h4
        refine ⟨spot,CE.mk fun j x hj => ?_⟩
        obtain ⟨cs',k1,k2,k3,k4⟩ := key j x hj
        have hxl : x.length=P.cellsOf e := by rw [← k1]; exact (CVl.len k2).symm
        refine ⟨hxl,CC.mk fun i y hy => ?_⟩
        obtain ⟨u,hu,hcv⟩ := CVl.get k2 hy
        have hi : i < P.cellsOf e := by have := (List.getElem?_eq_some_iff.1 hy).1; omega
        have hj' : j < len := by have := (List.getElem?_eq_some_iff.1 hj).1; omega
        have hsp := spot (by omega)
        obtain ⟨b,o,sp⟩ := a
        simp only at hsp
        subst hsp
        have h5 := k4 i hi
        rw [add_none,add_none,hu] at h5
        exact ⟨u,pinAll_some h5 (allOne_cv k2 k3 u (List.mem_of_getElem? hu)),hcv⟩
    · next fs ht =>
      simp only [Bool.and_eq_true,List.all_eq_true] at hs
      obtain ⟨xs,m,_,_,hl,hxl,hf⟩ := DataW.trod_struct ht h
      obtain ⟨cs,k1,k2,k3⟩ := shF_of (S := pinAll w) (sh := Sh P n) (vs := vs) fs.toList 0 _ hs.1 hl (fun f hfm => by
        obtain ⟨i,hi⟩ := List.getElem?_of_mem hfm
        have h1 := hf i f (by simpa using hi)
        have hi' : i < fs.size := by have := (List.getElem?_eq_some_iff.1 hi).1; simpa using this
        rw [List.getElem?_eq_getElem (by omega : i < xs.length)] at h1
        exact in_of_trod n f.type m _ _ (hs.2 f hfm) h1)
      exact ⟨cs,k1,k2,by simpa using k3⟩
    · next m e ht =>
      simp only [Bool.and_eq_true] at hs
      obtain ⟨xs,q,_,_,hl,hxl,hf⟩ := DataW.trod_array ht h
      have hsz := Nat.eq_of_beq_eq_true hs.1
      exact shE_of (S := pinAll w) (sh := Sh P n e) (s := P.cellsOf e) m vs (by omega) (fun i hi => by
        have h1 := hf i hi
        rw [List.getElem?_eq_getElem (by omega : i < xs.length)] at h1
        exact in_of_trod n e q _ _ hs.2 h1)
    · cases hs
def mkA (P : Program) (t : TypeId) (cs : List AV) : AV := cond (isAg P t) (.agg cs) (match cs with | [x] => x | _ => .dead)
def ShAll (P : Program) : List TypeId→(List AV→Prop)→Prop
  | [],K => K []
  | t :: ts,K => ∀ cs,Sh P 50 t cs→ShAll P ts fun xs => K (mkA P t cs :: xs)
theorem in_one {r : Reach} {b0 n : Nat} {t : TypeId} {v : Value} {fuel : Nat} {x : DataW H × List MemPlace} (hs : supp P n t=true) (hv : Value.okWide P w r b0 t v) (h : DataW.trod enc P w base (fun _ => true) held fuel t v.cells.toList=some x) :
    ∃ cs,Sh P n t cs∧CV (pinAll w) (mkA P t cs) noNm v := by
  obtain ⟨cs,h1,h2,h3⟩ := in_of_trod n t fuel _ x hs h
  refine ⟨cs,h1,?_⟩
  have one : isAg P t=false→v.cells=#[v]→CV (pinAll w) (mkA P t cs) noNm v := by
    intro ha hc
    rw [hc] at h3
    unfold mkA
    rw [ha]
    match cs,h3 with
    | [y],h3 =>
      simp only [CVl] at h3
      obtain ⟨u,us,e,hy,hn⟩ := h3
      simp at e
      rw [e.1]; exact hy
    | [],h3 => simp [CVl] at h3
    | _ :: _ :: _,h3 =>
      simp [CVl] at h3
      obtain ⟨u,us,⟨_,e⟩,_,u',us',e',_⟩ := h3
      rw [e] at e'; cases e'
  have agg : isAg P t=true→∀ us,v=.agg us→CV (pinAll w) (mkA P t cs) noNm v := by
    intro ha us e
    subst e
    unfold mkA
    rw [ha]
    exact ⟨us,rfl,h3⟩
  unfold Value.okWide at hv
  cases n with
  | zero => simp [supp] at hs
  | succ n =>
    unfold supp at hs
    split at hs
    · next ht =>
      rw [ht] at hv
      simp only [Cell.okWide,Cell.ok,ht] at hv
      refine one (by unfold isAg; rw [ht]) ?_
      split at hv <;> first | rfl | (split at hv <;> first | rfl | cases hv) | cases hv
    · next k ht =>
      rw [ht] at hv
      simp only [Cell.okWide,Cell.ok,ht] at hv
      refine one (by unfold isAg; rw [ht]) ?_
      split at hv <;> first | rfl | (split at hv <;> first | rfl | cases hv) | cases hv
    · next ht =>
      rw [ht] at hv
      simp only [Cell.okWide,Cell.ok,ht] at hv
      refine one (by unfold isAg; rw [ht]) ?_
      split at hv <;> first | rfl | (split at hv <;> first | rfl | cases hv) | cases hv
    · next e ht =>
      rw [ht] at hv
      simp only [Cell.okWide,Cell.ok,ht] at hv
      refine one (by unfold isAg; rw [ht]) ?_
      split at hv <;> first | rfl | (split at hv <;> first | rfl | cases hv) | cases hv
    · next fs ht =>
      rw [ht] at hv
      obtain ⟨us,e,_⟩ := hv
      exact agg (by unfold isAg; rw [ht]) us e
    · next m e ht =>
      rw [ht] at hv
      obtain ⟨us,e,_⟩ := hv
      exact agg (by unfold isAg; rw [ht]) us e
    · cases hs
theorem in_all {r : Reach} {b0 : Nat} : ∀ (ts : List TypeId) (vs : List Value) (ds : List (DataW H)) (ps : List MemPlace) (K : List AV→Prop),(ts.all fun t => supp P 50 t)=true→DataW.TrodAll enc P w base (fun _ => true) held ts vs ds ps →
    (∀ (j : Nat) t v,ts[j]?=some t→vs[j]?=some v→Value.okWide P w r b0 t v)→ShAll P ts K→∃ xs,K xs∧CVl (pinAll w) xs noNm vs
  | [],[],[],ps,K,_,h,_,hK => ⟨[],hK,by simp only [CVl]⟩
  | t :: ts,v :: vs,d :: ds,ps,K,hs,h,hv,hK => by
    simp only [List.all_cons,Bool.and_eq_true] at hs
    obtain ⟨p,q,⟨fuel,h1⟩,h2,_⟩ := h
    obtain ⟨cs,k1,k2⟩ := in_one hs.1 (hv 0 t v rfl rfl) h1
    obtain ⟨xs,q1,q2⟩ := in_all ts vs ds q (fun xs => K (mkA P t cs :: xs)) hs.2 h2 (fun j t v ht hv' => hv (j + 1) t v (by simpa using ht) (by simpa using hv')) (hK cs k1)
    exact ⟨_,q1,by simp only [CVl]; exact ⟨v,vs,rfl,k2,q2⟩⟩
  | [],v :: vs,ds,ps,K,_,h,_,_ => by cases ds <;> simp [DataW.TrodAll] at h
  | [],[],d :: ds,ps,K,_,h,_,_ => by simp [DataW.TrodAll] at h
  | t :: ts,[],ds,ps,K,_,h,_,_ => by cases ds <;> simp [DataW.TrodAll] at h
  | t :: ts,v :: vs,[],ps,K,_,h,_,_ => by simp [DataW.TrodAll] at h
theorem law_calls {gl : Glob} {f : FuncId} {r : Reach} {b0 : Nat} {ts : List TypeId} {args : Array Value} {ds : List (DataW H)} {ps : List MemPlace} (hs : (ts.all fun t => supp P 50 t)=true) (hg : GOKg gl (pinAll w))
    (h : ShAll P ts fun xs => PureC P gl f xs (.bool true)) (hA : DataW.TrodAll enc P w base (fun _ => true) held ts args.toList ds ps)
    (hv : ∀ (j : Nat) t v,ts[j]?=some t→args.toList[j]?=some v→Value.okWide P w r b0 t v) :
    Calls P f args w fun e w' => e=.returned (.bool true)∧Below w.heap.size w w' := by
  obtain ⟨xs,h1,h2⟩ := in_all ts _ ds ps _ hs hA hv h
  refine (h1 w (pinAll w) args hg (agree_all w) h2).mono fun e w' h => ?_
  obtain ⟨u,S',h3,h4,_,_,_,h5⟩ := h
  simp only [CV] at h5
  exact ⟨by rw [h3,h5],h4⟩
theorem trodAll_stay (hl : laidOutB P=true) {w' : World} (hb : Below w.heap.size w w') : ∀ (ts : List TypeId) (vs : List Value) (ds : List (DataW H)) (ps : List MemPlace),(ts.all fun t => P.readableRec t && decide (t < P.types.size))=true →
    DataW.TrodAll enc P w 0 (fun _ => true) true ts vs ds ps→DataW.TrodAll enc P w' 0 (fun b => decide (b < w.heap.size)) true ts vs ds ps
  | [],[],[],ps,_,h => h
  | t :: ts,v :: vs,d :: ds,ps,hs,h => by
    simp only [List.all_cons,Bool.and_eq_true,decide_eq_true_eq] at hs
    obtain ⟨p,q,h1,h2,h3⟩ := h
    have hlt : ∀ x ∈ p,x.block < w.heap.size := by obtain ⟨m,hm⟩ := h1; exact DataW.trod_lt m _ _ _ hm
    exact ⟨p,q,Below.trod hl hs.1.1 hs.1.2 h1 hb hlt,trodAll_stay hl hb ts vs ds q hs.2 h2,h3⟩
  | [],v :: vs,ds,ps,_,h => by cases ds <;> simp [DataW.TrodAll] at h
  | [],[],d :: ds,ps,_,h => by simp [DataW.TrodAll] at h
  | t :: ts,[],ds,ps,_,h => by cases ds <;> simp [DataW.TrodAll] at h
  | t :: ts,v :: vs,[],ps,_,h => by simp [DataW.TrodAll] at h
def suppG (P : Program) : Nat→TypeId→Bool
  | 0,_ => false
  | n + 1,t => match P.underlying t with
    | some .bool => true
    | some (.int _) => true
    | some .string => true
    | some (.struct fs) => tiles P fs.toList 0 (P.cellsOf t) && fs.toList.all fun f => suppG P n f.type
    | some (.array m e) => Nat.beq (m * P.cellsOf e) (P.cellsOf t) && suppG P n e
    | _ => false
mutual
def flatD : DataW H→List AV
  | .lit (.bool b) => [.bool b]
  | .lit (.int k z) => [.int k z]
  | .lit (.string l) => [.str ⟨l.toArray⟩]
  | .agg ds => flatDs ds
  | _ => [.dead]
def flatDs : List (DataW H)→List AV
  | [] => []
  | d :: ds => flatD d ++ flatDs ds
end
theorem flatF {S : Pin} {vs : List Value} : ∀ (fs : List Field) (ds : List (DataW H)) (o tot : Nat),tiles P fs o tot=true→vs.length=tot→ds.length=fs.length →
    (∀ (i : Nat) (f : Field) (d : DataW H),fs[i]?=some f→ds[i]?=some d→CVl S (flatD d) noNm ((vs.drop f.offset).take (P.cellsOf f.type)))→CVl S (flatDs ds) noNm (vs.drop o)
  | [],[],o,tot,ht,hl,_,_ => by
    simp only [tiles] at ht
    have := Nat.eq_of_beq_eq_true ht
    simp only [flatDs,CVl]; exact List.drop_eq_nil_of_le (by omega)
  | f :: fs,d :: ds,o,tot,ht,hl,hd,h => by
    simp only [tiles,Bool.and_eq_true] at ht
    obtain ⟨ho,ht⟩ := ht
    have ho := Nat.eq_of_beq_eq_true ho
    have h1 := h 0 f d rfl rfl
    have h2 := flatF fs ds _ tot ht hl (by simpa using hd) (fun i g d' hg hd' => h (i + 1) g d' (by simpa using hg) (by simpa using hd'))
    rw [ho] at h1
    have e : vs.drop o=(vs.drop o).take (P.cellsOf f.type) ++ vs.drop (o + P.cellsOf f.type) := by
      rw [← List.drop_drop]; exact (List.take_append_drop _ _).symm
    rw [e]
    simp only [flatDs]
    exact CVl.append h1 h2
  | [],_ :: _,_,_,_,_,hd,_ => by simp at hd
  | _ :: _,[],_,_,_,_,hd,_ => by simp at hd
theorem flatE {S : Pin} {s : Nat} : ∀ (ds : List (DataW H)) (vs : List Value),vs.length=ds.length * s→(∀ (i : Nat) (d : DataW H),ds[i]?=some d→CVl S (flatD d) noNm ((vs.drop (i * s)).take s))→CVl S (flatDs ds) noNm vs
  | [],vs,hl,_ => by simp only [flatDs,CVl]; exact List.eq_nil_of_length_eq_zero (by simpa using hl)
  | d :: ds,vs,hl,h => by
    have h1 := h 0 d rfl
    have hl' : vs.length=ds.length * s + s := by rw [hl,List.length_cons,Nat.succ_mul]
    have h2 := flatE (S := S) (s := s) ds (vs.drop s) (by rw [List.length_drop]; omega) (fun i d' hd => by
      have := h (i + 1) d' (by simpa using hd)
      rw [List.drop_drop,show s + i * s=(i + 1) * s by rw [Nat.succ_mul]; omega]
      exact this)
    rw [Nat.zero_mul,List.drop_zero] at h1
    have e : vs=vs.take s ++ vs.drop s := (List.take_append_drop _ _).symm
    rw [e]
    simp only [flatDs]
    exact CVl.append h1 h2
theorem flat_of_trod {S : Pin} {spare : Nat→Bool} : ∀ (n : Nat) (t : TypeId) (fuel : Nat) (vs : List Value) (x : DataW H × List MemPlace),suppG P n t=true→DataW.trod enc P w base spare held fuel t vs=some x→CVl S (flatD x.1) noNm vs
  | 0,t,_,_,_,hs,_ => by simp [suppG] at hs
  | n + 1,t,fuel,vs,x,hs,h => by
    unfold suppG at hs
    split at hs
    · next ht =>
      obtain ⟨b,rfl,rfl⟩ := DataW.trod_bool ht h
      exact ⟨_,_,rfl,rfl,rfl⟩
    · next k ht =>
      obtain ⟨z,rfl,rfl,hw⟩ := DataW.trod_int ht h
      exact ⟨_,_,rfl,⟨rfl,rng_wf hw⟩,rfl⟩
    · next ht =>
      obtain ⟨s,rfl,rfl,hw⟩ := DataW.trod_string ht h
      exact ⟨_,_,rfl,⟨by simp,by simpa using hw⟩,rfl⟩
    · next fs ht =>
      simp only [Bool.and_eq_true,List.all_eq_true] at hs
      obtain ⟨xs,m,_,rfl,hl,hxl,hf⟩ := DataW.trod_struct ht h
      have := flatF (S := S) (vs := vs) fs.toList (xs.map (·.1)) 0 _ hs.1 hl (by simpa using hxl) (fun i f d hi hd => by
        have h1 := hf i f (by simpa using hi)
        rw [List.getElem?_map] at hd
        cases hx : xs[i]? with
        | none => rw [hx] at hd; cases hd
        | some y =>
          rw [hx] at hd h1
          simp only [Option.map_some,Option.some.injEq] at hd
          subst hd
          exact flat_of_trod n f.type m _ _ (hs.2 f (List.mem_of_getElem? hi)) h1)
      simpa [flatD] using this
    · next m e ht =>
      simp only [Bool.and_eq_true] at hs
      obtain ⟨xs,q,_,rfl,hl,hxl,hf⟩ := DataW.trod_array ht h
      have hsz := Nat.eq_of_beq_eq_true hs.1
      have := flatE (S := S) (s := P.cellsOf e) (xs.map (·.1)) vs (by simp only [List.length_map]; rw [hxl]; omega) (fun i d hd => by
        rw [List.getElem?_map] at hd
        cases hx : xs[i]? with
        | none => rw [hx] at hd; cases hd
        | some y =>
          have hi : i < m := by have := (List.getElem?_eq_some_iff.1 hx).1; omega
          have h1 := hf i hi
          rw [hx] at hd h1
          simp only [Option.map_some,Option.some.injEq] at hd
          subst hd
          exact flat_of_trod n e q _ _ hs.2 h1)
      simpa [flatD] using this
    · cases hs
end
theorem intsA_of {xs : List (List AV)} (h : ∀ x ∈ xs,∃ z,rng .i64 z∧x=[.int .i64 z]) : IntsA xs := fun x hx => by
  obtain ⟨z,h1,h2⟩ := h x hx
  exact ⟨z,h2,h1⟩
theorem glob_cells {W : World} {g : Nat} {cs : Array Value} {az : List AV} (hc : ∀ i,W.cell? ⟨g,i,none⟩=cs[i]?) (h : CVl (pinAll W) az noNm cs.toList) (h1 : allOne az=true) : CC (pinAll W) az g 0 := by
  refine CC.mk fun j x hx => ?_
  obtain ⟨u,hu,hcv⟩ := CVl.get h hx
  have h2 := hc j
  rw [show cs[j]?=some u by simpa using hu] at h2
  rw [Nat.zero_add]
  exact ⟨u,pinAll_some h2 (allOne_cv h h1 u (List.mem_of_getElem? hu)),hcv⟩
end Go.Proofs.YtgnnafneglannaaDoor
