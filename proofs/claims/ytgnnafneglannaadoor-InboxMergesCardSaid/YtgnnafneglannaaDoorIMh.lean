import Derived.Test.YtgnnafneglannaaDoorIMf
import Derived.Test.YtgnnafneglannaaDoorIMg
import Derived.Test.YtgnnafneglannaaDoorIMd
import Derived.Test.YtgnnafneglannaaDoorIMe
import Derived.ProofKit
import Derived.OpenShut
import Derived.ShutString
import Derived.ChangeOld
import Derived.Carry
import Derived.Deep.Slices
import Derived.WideShapes
import Derived.LaidMore
namespace Go.Proofs.YtgnnafneglannaaDoor
open Go
set_option linter.unusedVariables false
set_option linter.unusedSimpArgs false
def nm0:ByteArray:=⟨#[48,49,50,51,52]⟩
def rpa:List AV:=rpR 1 nm0 100 0 0 0 0 [[.int .i64 1,.int .i64 10132],[.int .i64 2,.int .i64 2800]]
def rpb:List AV:=rpR 1 nm0 100 0 0 0 0 [[.int .i64 2,.int .i64 2810]]
def aw1:LLA:=[itA 1 nm0 100 0 0 0 0 [[.int .i64 1,.int .i64 10132],[.int .i64 2,.int .i64 2800]] 0 110,itA 1 nm0 100 0 0 0 0 [[.int .i64 2,.int .i64 2810]] 0 110]
def awc:List AV:=itA 1 nm0 100 0 0 0 0 [[.int .i64 2,.int .i64 2805]] 1 120
def aw2:LLA:=aw1++[awc]
theorem aw_tE:tkE [] [rpa,rpb,rpa] 0 110=0:=by kernel_rfl
theorem aw_tN:tkN [] [rpa,rpb,rpa] 0 110=2:=by kernel_rfl
theorem aw_tO:tkO [] [rpa,rpb,rpa] 0 110=aw1:=by kernel_rfl
theorem aw_m1:mrO aw1 0 200 200=[[.int .i64 1,.str nm0,.int .i64 100,.int .i64 0,.int .i64 0,.int .i64 0,.int .i64 0,.sl 2 false [[.int .i64 1,.int .i64 10132]],.int .i64 2,.sl 1 false [[.int .i64 2]]]]:=by kernel_rfl
theorem aw_e1:mrE aw1 0 200=0:=by kernel_rfl
theorem aw_aE:adE aw1 awc=0:=by kernel_rfl
theorem aw_aO:adO aw1 awc=aw2:=by kernel_rfl
theorem aw_m2:mrO aw2 0 200 200=[[.int .i64 1,.str nm0,.int .i64 100,.int .i64 0,.int .i64 0,.int .i64 0,.int .i64 0,.sl 2 false [[.int .i64 2,.int .i64 2805]],.int .i64 1,.sl 1 false []]]:=by kernel_rfl
theorem aw_e2:mrE aw2 0 200=0:=by kernel_rfl
theorem rpa_g:RpG rpa:=⟨_,_,_,_,_,_,_,_,rfl,⟨fun i hi=>by
  have:i=0∨i=1:=by simp at hi; omega
  rcases this with rfl | rfl <;> exact ⟨_,_,rfl,by decide,by decide⟩,by decide⟩,by decide⟩
theorem rpb_g:RpG rpb:=⟨_,_,_,_,_,_,_,_,rfl,⟨fun i hi=>by
  have:i=0:=by simp at hi; omega
  subst this
  exact ⟨_,_,rfl,by decide,by decide⟩,by decide⟩,by decide⟩
theorem aw_tk:TkP [] [rpa,rpb,rpa]:=by
  have g:GdL []:=⟨by simp,by decide⟩
  refine ⟨g.p,fun _=>g,⟨fun i hi=>?_,by decide⟩⟩
  have:i=0∨i=1∨i=2:=by simp at hi; omega
  rcases this with rfl | rfl | rfl
  · exact rpa_g
  · exact rpb_g
  · exact rpa_g
structure AwP (rs:LLA) (co ar:Int):Prop where
  fr:rs=[rpa,rpb,rpa]
  fc:co=0
  fa:ar=110
def itakeN_s (aw1:LLA):Sp
  | [.nils,.sl 8 e rs,.int .i64 co,.int .i64 ar]=>some (AwP rs co ar,.tup [.sl 10 false aw1,.int .i64 2,.int .i64 0])
  | _=>none
theorem itakeN_ok:SOK Tryd.prog glb 18 (itakeN_s aw1):=by
  obtain ⟨hf,h⟩:=itake_ok
  refine ⟨hf,fun xs pre r e hp=>?_⟩
  unfold itakeN_s at e
  split at e
  · rename_i b rs co ar
    simp only [Option.some.injEq,Prod.mk.injEq] at e
    obtain ⟨rfl,rfl⟩:=e
    obtain ⟨rfl,rfl,rfl⟩:=hp
    have bb:cond b (b=true) True:=by cases b <;> trivial
    have hc:=h [.sl 10 false [],.sl 8 b [rpa,rpb,rpa],.int .i64 0,.int .i64 110] _ _ rfl aw_tk
    rw [aw_tO,aw_tN,aw_tE] at hc
    exact fun w S vs hg ha hv=>hc w S vs hg ha (leL_sound [.nils,.sl 8 b [rpa,rpb,rpa],.int .i64 0,.int .i64 110] _ noNm _ ⟨rfl,⟨bb,rfl⟩,rfl,rfl,trivial⟩ hv)
  · cases e
theorem rpc_g:RpG (rpR 1 nm0 100 0 0 0 0 [[.int .i64 2,.int .i64 2805]]):=⟨_,_,_,_,_,_,_,_,rfl,⟨fun i hi=>by
  have:i=0:=by simp at hi; omega
  subst this
  exact ⟨_,_,rfl,by decide,by decide⟩,by decide⟩,by decide⟩
theorem aw_g1:GdL aw1:=⟨fun r hr=>by
  simp only [aw1,List.mem_cons,List.not_mem_nil,or_false] at hr
  rcases hr with rfl | rfl
  · exact ItG.of rpa_g 0 110
  · exact ItG.of rpb_g 0 110,by decide⟩
theorem aw_g2:GdL aw2:=⟨fun r hr=>by
  rcases List.mem_append.1 hr with hr | hr
  · exact aw_g1.fg r hr
  · rw [List.mem_singleton.1 hr]; exact ItG.of rpc_g 1 120,by decide⟩
def iawake_s (aw1:LLA) (mrE:LLA→Int→Int→Int) (mrO:LLA→Int→Int→Int→LLA) (adE:LLA→List AV→Int) (adO:LLA→List AV→LLA):Sp
  | []=>some (True,.bool true)
  | _=>none
set_option maxRecDepth 100000 in
def iawake_T (aw1:LLA) (mrE:LLA→Int→Int→Int) (mrO:LLA→Int→Int→Int→LLA) (adE:LLA→List AV→Int) (adO:LLA→List AV→LLA) (inV:LLA→Int) (suC:Int→ByteArray→Int→Int→ByteArray→Int→Int) (ouL:LLA→LLA→LLA) (puE:LLA→List AV→Int) (puN:LLA→List AV→Int) (addI:LLA→List AV→LLA):Prop :=
  AwP [[AV.int .i64 (1:Int),.str { data:=#[(48:UInt8),(49:UInt8),(50:UInt8),(51:UInt8),(52:UInt8)] },.int .i64 (100:Int),.int .i64 (0:Int),.int .i64 (0:Int),.int .i64 (0:Int),.int .i64 (0:Int),.sl (2:Nat) false [[AV.int .i64 (1:Int),.int .i64 (10132:Int)],[AV.int .i64 (2:Int),.int .i64 (2800:Int)]]],[AV.int .i64 (1:Int),.str { data:=#[(48:UInt8),(49:UInt8),(50:UInt8),(51 :
 UInt8),(52:UInt8)] },.int .i64 (100:Int),.int .i64 (0:Int),.int .i64 (0:Int),.int .i64 (0:Int),.int .i64 (0:Int),.sl (2:Nat) false [[AV.int .i64 (2:Int),.int .i64 (2810:Int)]]],[AV.int .i64 (1:Int),.str { data:=#[(48:UInt8),(49:UInt8),(50:UInt8),(51:UInt8),(52:UInt8)] },.int .i64 (100:Int),.int .i64 (0:Int),.int .i64 (0:Int),.int .i64 (0:Int),.int .i64 (0:Int),.sl (2:Nat) false
 [[AV.int .i64 (1:Int),.int .i64 (10132:Int)],[AV.int .i64 (2:Int),.int .i64 (2800:Int)]]]] (0:Int) (110:Int)∧ItsP aw1∧AdP aw1 [[AV.int .i64 (2:Int),.int .i64 (2805:Int)]]∧ItsP (adO aw1 (itA (1:Int) { data:=#[(48:UInt8),(49:UInt8),(50:UInt8),(51:UInt8),(52:UInt8)] } (100:Int) (0:Int) (0:Int) (0:Int) (0:Int) [[AV.int .i64 (2:Int),.int .i64 (2805:Int)]] (1:Int) (120:Int)))∧bif decide (mrE
 aw1 (0:Int) (200:Int)=0) then bif decide (adE aw1 (itA (1:Int) { data:=#[(48:UInt8),(49:UInt8),(50:UInt8),(51:UInt8),(52:UInt8)] } (100:Int) (0:Int) (0:Int) (0:Int) (0:Int) [[AV.int .i64 (2:Int),.int .i64 (2805:Int)]] (1:Int) (120:Int))=(0:Int)) then bif decide (mrE (adO aw1 (itA (1:Int) { data:=#[(48:UInt8),(49:UInt8),(50:UInt8),(51:UInt8),(52:UInt8)] } (100:Int) (0:Int)
 (0:Int) (0:Int) (0:Int) [[AV.int .i64 (2:Int),.int .i64 (2805:Int)]] (1:Int) (120:Int))) (0:Int) (200:Int)=0) then bif decide ((↑(List.length (mrO aw1 (0:Int) (200:Int) (200:Int))):Int)=(1:Int)) then bif decide ((0:Int)≤(0:Int)∧(0:Int) < (↑(List.length (mrO aw1 (0:Int) (200:Int) (200:Int))):Int)) then ∃ xs,List.take [AV.sl (1:Nat) false xs].length (List.drop (9:Nat) (List.getD (mrO aw1 (0:Int)
 (200:Int) (200:Int)) (0:Nat) []))=[AV.sl (1:Nat) false xs]∧((IntsB xs∧IntsB [[AV.int .i64 (2:Int)]])∧Ln xs∧Ln [[AV.int .i64 (2:Int)]])∧bif intsEq xs [[AV.int .i64 (2:Int)]] then bif decide ((0:Int)≤(0:Int)∧(0:Int) < (↑(List.length (mrO aw1 (0:Int) (200:Int) (200:Int))):Int)) then ∃ xs,List.take [AV.sl (2:Nat) false xs].length (List.drop (7:Nat) (List.drop (0:Nat) (List.getD (mrO aw1 (0:Int)
 (200:Int) (200:Int)) (0:Nat) [])))=[AV.sl (2:Nat) false xs]∧bif decide ((↑xs.length:Int)=(1:Int)) then bif decide ((↑(List.length (mrO (adO aw1 (itA (1:Int) { data:=#[(48:UInt8),(49:UInt8),(50:UInt8),(51:UInt8),(52:UInt8)] } (100:Int) (0:Int) (0:Int) (0:Int) (0:Int) [[AV.int .i64 (2:Int),.int .i64 (2805:Int)]] (1:Int) (120:Int))) (0:Int) (200:Int) (200:Int))):Int)=(1:Int)) then bif
 decide ((0:Int)≤(0:Int)∧(0:Int) < (↑(List.length (mrO (adO aw1 (itA (1:Int) { data:=#[(48:UInt8),(49:UInt8),(50:UInt8),(51:UInt8),(52:UInt8)] } (100:Int) (0:Int) (0:Int) (0:Int) (0:Int) [[AV.int .i64 (2:Int),.int .i64 (2805:Int)]] (1:Int) (120:Int))) (0:Int) (200:Int) (200:Int))):Int)) then ∃ n,List.take [AV.int .i64 n].length (List.drop (8:Nat) (List.getD (mrO (adO aw1 (itA (1:Int) {
 data:=#[(48:UInt8),(49:UInt8),(50:UInt8),(51:UInt8),(52:UInt8)] } (100:Int) (0:Int) (0:Int) (0:Int) (0:Int) [[AV.int .i64 (2:Int),.int .i64 (2805:Int)]] (1:Int) (120:Int))) (0:Int) (200:Int) (200:Int)) (0:Nat) []))=[AV.int .i64 n]∧bif decide (n=(1:Int)) then bif decide ((0:Int)≤(0:Int)∧(0:Int) < (↑(List.length (mrO (adO aw1 (itA (1:Int) { data:=#[(48:UInt8),(49:UInt8),(50 :
 UInt8),(51:UInt8),(52:UInt8)] } (100:Int) (0:Int) (0:Int) (0:Int) (0:Int) [[AV.int .i64 (2:Int),.int .i64 (2805:Int)]] (1:Int) (120:Int))) (0:Int) (200:Int) (200:Int))):Int)) then ∃ xs,List.take [AV.sl (2:Nat) false xs].length (List.drop (7:Nat) (List.drop (0:Nat) (List.getD (mrO (adO aw1 (itA (1:Int) { data:=#[(48:UInt8),(49:UInt8),(50:UInt8),(51:UInt8),(52:UInt8)] } (100:Int)
 (0:Int) (0:Int) (0:Int) (0:Int) [[AV.int .i64 (2:Int),.int .i64 (2805:Int)]] (1:Int) (120:Int))) (0:Int) (200:Int) (200:Int)) (0:Nat) [])))=[AV.sl (2:Nat) false xs]∧bif decide ((0:Int)≤(0:Int)∧(0:Int) < (↑xs.length:Int)) then ∃ n,List.take [AV.int .i64 n].length (List.drop (1:Nat) (xs.getD (0:Nat) []))=[AV.int .i64 n]∧decide (n=(2805:Int))=true else False else False else false=true else False
 else false=true else false=true else False else false=true else False else false=true else false=true else false=true else false=true
set_option maxRecDepth 100000 in
theorem iawake_P:iawake_T aw1 mrE mrO adE adO inV suC ouL puE puN addI:=by
  unfold iawake_T
  have hO:adO aw1 (itA 1 ⟨#[48,49,50,51,52]⟩ 100 0 0 0 0 [[.int .i64 2,.int .i64 2805]] 1 120)=aw2:=aw_aO
  have hE:adE aw1 (itA 1 ⟨#[48,49,50,51,52]⟩ 100 0 0 0 0 [[.int .i64 2,.int .i64 2805]] 1 120)=0:=aw_aE
  have hi:intsEq [[.int .i64 2]] [[.int .i64 2]]=true:=by kernel_rfl
  have hb:IntsB [[.int .i64 2]]:=ints_of [2] (by decide)
  have hl:Ln [[.int .i64 2]]:=⟨by decide⟩
  refine ⟨⟨rfl,rfl,rfl⟩,aw_g1.p,⟨aw_g1.p,fun _=>aw_g1,⟨fun i hi=>?_,by decide⟩,by decide⟩,by rw [hO]; exact aw_g2.p,?_⟩
  · have:i=0:=by simp at hi; omega
    subst this
    exact ⟨_,_,rfl,by decide,by decide⟩
  rw [hO,hE,aw_e1,aw_e2,aw_m1,aw_m2]
  refine cd1 rfl (cd1 rfl (cd1 rfl (cd1 rfl (cd1 (by decide) ⟨_,rfl,⟨⟨hb,hb⟩,hl,hl⟩,?_⟩))))
  rw [hi,cond_true]
  refine cd1 (by decide) ⟨_,rfl,?_⟩
  refine cd1 rfl ?_
  refine cd1 rfl ?_
  refine cd1 (by decide) ⟨_,rfl,?_⟩
  refine cd1 rfl ?_
  refine cd1 (by decide) ⟨_,rfl,?_⟩
  refine cd1 (by decide) ⟨_,rfl,?_⟩
  rfl
def iawake_S (aw1:LLA) (mrE:LLA→Int→Int→Int) (mrO:LLA→Int→Int→Int→LLA) (adE:LLA→List AV→Int) (adO:LLA→List AV→LLA) (inV:LLA→Int) (suC:Int→ByteArray→Int→Int→ByteArray→Int→Int) (ouL:LLA→LLA→LLA) (puE:LLA→List AV→Int) (puN:LLA→List AV→Int) (addI:LLA→List AV→LLA):Prop:=fnK Tryd.prog { glob:=glb,spec:=lk [(18,(itakeN_s aw1)),(25,(imerge_s inV suC ouL mrE mrO)),(22,(iadd_s inV puE puN addI adE adO)),(43,kints_s)],specH:=lk [],shape:=[77,86,99,107,110],slz:=[(77,[1]),(86,[2]),(107,[2])],nowf:=true } { nt:=113,drop:=drp [(1,61440),(2,458752),(3,3670016),(4,2143289344),(5,135291469824),(6,17454747090944),(7,1108307720798208),(8,10384593717069655255935092751597568)],frz:=fun id=>cond (Nat.beq id 4) [1000014,1000017] (cond (Nat.beq id 6) [1000020] []) } (fun _ _=>none) 6 Tryd.f21 [] (.bool true)
set_option maxRecDepth 100000 in
theorem iawake_e (aw1:LLA) (mrE:LLA→Int→Int→Int) (mrO:LLA→Int→Int→Int→LLA) (adE:LLA→List AV→Int) (adO:LLA→List AV→LLA) (inV:LLA→Int) (suC:Int→ByteArray→Int→Int→ByteArray→Int→Int) (ouL:LLA→LLA→LLA) (puE:LLA→List AV→Int) (puN:LLA→List AV→Int) (addI:LLA→List AV→LLA):iawake_T aw1 mrE mrO adE adO inV suC ouL puE puN addI=iawake_S aw1 mrE mrO adE adO inV suC ouL puE puN addI:=by kernel_rfl
theorem iawake_v:iawake_S aw1 mrE mrO adE adO inV suC ouL puE puN addI:=@Eq.mp (iawake_T aw1 mrE mrO adE adO inV suC ouL puE puN addI) (iawake_S aw1 mrE mrO adE adO inV suC ouL puE puN addI) (iawake_e aw1 mrE mrO adE adO inV suC ouL puE puN addI) (iawake_P)
theorem iawake_ok:SOK Tryd.prog glb 21 (iawake_s aw1 mrE mrO adE adO):=by
  refine ⟨fok Tryd.func21 (by kernel_rfl) (by kernel_rfl),?_⟩
  intro xs pre r h hp
  unfold iawake_s at h
  split at h
  · simp only [Option.some.injEq,Prod.mk.injEq] at h
    obtain ⟨h1,h2⟩:=h
    subst h1 h2
    exact fnK_sound tyNil (by exact specOK rfl rfl ⟨(itakeN_ok),(imerge_ok),(iadd_ok),(kints_ok glb),trivial⟩ trivial) (by kernel_rfl) Tryd.func21 rfl (iawake_v  )
  · cases h
end Go.Proofs.YtgnnafneglannaaDoor
namespace Go.Proofs.YtgnnafneglannaaDoor
open Go
set_option linter.unusedVariables false
set_option linter.unusedSimpArgs false
structure WinQ (m fr to cut j:Int):Prop where
  ff:m - 150≤fr∧fr≤m
  ft:m - 5≤to∧to≤m+150
  fc:m - 70≤cut∧cut≤m+310
  fj:0≤j
end Go.Proofs.YtgnnafneglannaaDoor
namespace Go.Proofs.YtgnnafneglannaaDoor
open Go
set_option linter.unusedVariables false
set_option linter.unusedSimpArgs false
structure MgS (r:List AV):Prop where
  fr:∃ (k:Int) (nm:ByteArray) (t f a b c:Int) (rd:LLA) (vs:Int) (cs:LLA),r=[.int .i64 k,.str nm,.int .i64 t,.int .i64 f,.int .i64 a,.int .i64 b,.int .i64 c,.sl 2 false rd,.int .i64 vs,.sl 1 false cs]∧RdsP rd∧IntsB cs∧cs.length≤9223372036854775807
structure MgL (l:LLA):Prop where
  fr:∀ i,i < l.length→MgS (l.getD i [])
  fl:l.length≤9223372036854775807
structure SmO (a:LLA) (i:Int):Prop where
  flo:0≤i
  fhi:i≤a.length
structure SmN (cs:LLA) (q:Int):Prop where
  flo:0≤q
  fhi:q≤cs.length
end Go.Proofs.YtgnnafneglannaaDoor
namespace Go.Proofs.YtgnnafneglannaaDoor
open Go
set_option linter.unusedVariables false
set_option linter.unusedSimpArgs false
def kT (ks:List Int):Int:=ks.getLast?.getD 0
theorem kT_ky {x:List AV} (h:ItS x):kT (itKy x)=itTm x:=by
  obtain ⟨k,nm,t,f,a,b,c,rd,co,ar,rfl⟩:=h.fr
  show ((k::(nmK nm.toList++[t])).getLast?).getD 0=t
  rw [← List.cons_append,List.getLast?_concat]; rfl
theorem OkL.its {l:LLA} (h:OkL l):∀ x ∈ l,ItS x:=fun x hx=>by
  obtain ⟨k,nm,t,f,a,b,c,rd,co,ar,e,_⟩:=h.row hx
  exact ⟨_,_,_,_,_,_,_,_,_,_,e⟩
theorem mrF_ord {l:LLA} {fr to cut:Int} (h:OkL l):(mrF l fr to cut).Pairwise OrdR∧∀ x ∈ mrF l fr to cut,0≤itCo x:=by
  refine ⟨?_,fun x hx=>?_⟩
  · refine List.Pairwise.filter _ ?_
    have hs:=(inV_ok h.fv).2.2
    exact List.Pairwise.imp_of_mem (fun {a b} ha hb hab=>itC_ord (h.its a ha) (h.its b hb) hab) hs
  · obtain ⟨k,nm,t,f,a,b,c,rd,co,ar,rfl,_,_,hco⟩:=h.row (List.mem_filter.1 hx).1
    exact hco
end Go.Proofs.YtgnnafneglannaaDoor
namespace Go.Proofs.YtgnnafneglannaaDoor
open Go
set_option linter.unusedVariables false
set_option linter.unusedSimpArgs false
theorem lasI_rng {G:LLA} (h:MgP G) (c:Int):rng .i64 (lasI (cvs (rdsF G) c)):=by
  unfold lasI
  cases e:(cvs (rdsF G) c).getLast? with
  | none=>exact ⟨by decide,by decide⟩
  | some v =>
    have hv:=List.mem_of_getLast? e
    unfold cvs at hv
    obtain ⟨r,hr,rfl⟩:=List.mem_map.1 hv
    have hr:=(List.mem_filter.1 hr).1
    unfold rdsF at hr
    rw [List.mem_flatten] at hr
    obtain ⟨l,hl,hr⟩:=hr
    obtain ⟨x,hx,rfl⟩:=List.mem_map.1 hl
    obtain ⟨i,hi,rfl⟩:=List.mem_iff_getElem.1 hx
    obtain ⟨k,nm,t,f,a,b,c,rd,co,ar,h1,h2⟩:=h.fr i hi
    rw [getD_lt hi] at h1
    rw [h1] at hr
    have hr:r ∈ rd:=hr
    obtain ⟨j,hj,rfl⟩:=List.mem_iff_getElem.1 hr
    obtain ⟨e,v,h3,_,h4⟩:=h2.fr j hj
    rw [getD_lt hj] at h3
    rw [h3]
    exact h4
theorem rdN_mem {G:LLA}:∀ (n:Nat) (r:List AV),r ∈ rdN G n→∃ k:Nat,k < n∧r=[.int .i64 (k:Int),.int .i64 (lasI (cvs (rdsF G) k))]
  | 0,r,h=>by simp [rdN] at h
  | n+1,r,h=>by
    simp only [rdN] at h
    rcases List.mem_append.1 h with h | h
    · obtain ⟨k,hk,e⟩:=rdN_mem n r h
      exact ⟨k,by omega,e⟩
    · split at h
      · simp at h
      · split at h
        · simp at h
        · exact ⟨n,by omega,by simpa using h⟩
theorem gR_rds {G:LLA} (h:MgP G):RdsP (gR G):=⟨fun i hi=>by
  rw [getD_lt hi]
  obtain ⟨k,hk,e⟩:=rdN_mem 12 _ (List.getElem_mem hi)
  exact ⟨_,_,e,by show _∧_; omega,lasI_rng h _⟩,by have:=rdN_len G 12; unfold gR; omega⟩
theorem ctN_mem {G:LLA}:∀ (n:Nat) (r:List AV),r ∈ ctN G n→∃ k:Nat,k < n∧r=[.int .i64 (k:Int)]
  | 0,r,h=>by simp [ctN] at h
  | n+1,r,h=>by
    simp only [ctN] at h
    rcases List.mem_append.1 h with h | h
    · obtain ⟨k,hk,e⟩:=ctN_mem n r h
      exact ⟨k,by omega,e⟩
    · split at h
      · exact ⟨n,by omega,by simpa using h⟩
      · simp at h
theorem gC_len (G:LLA):(gC G).length≤12:=ctN_len G 12
theorem mgRow_ok {G:LLA} (h:MgP G) (hi:IntsB (gC G)):MgS (mgRow G):=⟨_,_,_,_,_,_,_,_,_,_,rfl,gR_rds h,hi,by have:=gC_len G; omega⟩
theorem mgRow_s {G:LLA} (h:MgP G):MgS (mgRow G):=mgRow_ok h ⟨fun x hx=>by
  obtain ⟨k,hk,e⟩:=ctN_mem 12 x hx
  exact ⟨_,e,by show _∧_; omega⟩⟩
theorem gr_sub (F:LLA):∀ g ∈ grF F,∀ x ∈ g,x ∈ F:=by
  refine snoc_ind (P:=fun F=>∀ g ∈ grF F,∀ x ∈ g,x ∈ F) (fun g hg=>by simp [grF,gsF,grS] at hg) (fun l x ih=>?_) F
  intro g hg z hz
  unfold grF at ih hg
  rw [gsF_snoc] at hg
  generalize gsF l=s at *
  obtain ⟨o,q⟩:=s
  cases q with
  | nil =>
    have hg:g ∈ o++[[x]]:=hg
    rcases List.mem_append.1 hg with h | h
    · exact List.mem_append_left _ (ih g h z hz)
    · rw [List.mem_singleton.1 h] at hz; rw [List.mem_singleton.1 hz]; simp
  | cons y q =>
    have io:∀ g ∈ o,∀ x ∈ g,x ∈ l:=fun g hg=>ih g (by simp [grS,hg])
    have iq:∀ x ∈ y::q,x ∈ l:=ih (y::q) (by simp [grS])
    simp only [gs1] at hg
    split at hg
    · split at hg
      · have hg:g ∈ o++[[x]]:=hg
        rcases List.mem_append.1 hg with h | h
        · exact List.mem_append_left _ (io g h z hz)
        · rw [List.mem_singleton.1 h] at hz; rw [List.mem_singleton.1 hz]; simp
      · have hg:g ∈ o++[y::q++[x]]:=hg
        rcases List.mem_append.1 hg with h | h
        · exact List.mem_append_left _ (io g h z hz)
        · rw [List.mem_singleton.1 h] at hz
          rcases List.mem_append.1 hz with hz | hz
          · exact List.mem_append_left _ (iq z hz)
          · exact List.mem_append_right _ hz
    · have hg:g ∈ (o++[y::q])++[[x]]:=hg
      rcases List.mem_append.1 hg with h | h
      · rcases List.mem_append.1 h with h | h
        · exact List.mem_append_left _ (io g h z hz)
        · rw [List.mem_singleton.1 h] at hz; exact List.mem_append_left _ (iq z hz)
      · rw [List.mem_singleton.1 h] at hz; rw [List.mem_singleton.1 hz]; simp
theorem mrF_sub {l:LLA} {fr to cut:Int}:(∀ x ∈ mrF l fr to cut,x ∈ l)∧(mrF l fr to cut).length≤l.length:=⟨fun x hx=>(List.mem_filter.1 hx).1,List.length_filter_le _ _⟩
theorem gr_mgp {l:LLA} {fr to cut:Int} (h:OkL l) {g:LLA} (hg:g ∈ grF (mrF l fr to cut)):MgP g:=by
  have h9:=(inV_ok h.fv).1
  obtain ⟨a,b⟩:=(grF_ok (mrF_ord h).1 (mrF_ord h).2).fg g hg
  refine h.mgp (fun x hx=>mrF_sub.1 x (gr_sub _ g hg x hx)) ?_ a
  rw [b]
  have:=(mrF_sub (l:=l) (fr:=fr) (to:=to) (cut:=cut)).2
  have:=List.length_filter_le (fun y=>decide (itKy y=hdK g)&&decide (itCo y=bsF (mrF l fr to cut) (hdK g))) (mrF l fr to cut)
  unfold vsF
  omega
theorem grF_len (F:LLA):(grF F).length≤F.length+1:=by
  obtain ⟨_,_,h,_⟩:=gs_sub F
  unfold grF grS
  split
  · omega
  · simp; omega
theorem mr_mgl {l:LLA} {fr to cut:Int} (h:OkL l):MgL ((grF (mrF l fr to cut)).map mgRow):=⟨fun i hi=>by
  rw [getD_lt hi,List.getElem_map]
  exact mgRow_s (gr_mgp h (List.getElem_mem _)),by
  rw [List.length_map]
  have:=grF_len (mrF l fr to cut)
  have:=(mrF_sub (l:=l) (fr:=fr) (to:=to) (cut:=cut)).2
  have:=(inV_ok h.fv).1
  omega⟩
theorem mg_ky {g:LLA} (h:MgP g):itKy (mgRow g)=hdK g∧itTm (mgRow g)=kT (hdK g):=by
  cases g with
  | nil=>exact absurd h.f0 (by simp)
  | cons y g =>
    obtain ⟨k,nm,t,f,a,b,c,rd,co,ar,h1,_⟩:=h.fr 0 (by simp)
    have h1:y=itA k nm t f a b c rd co ar:=h1
    subst h1
    refine ⟨rfl,?_⟩
    exact (kT_ky (x:=itA k nm t f a b c rd co ar) ⟨_,_,_,_,_,_,_,_,_,_,rfl⟩).symm
def tLe (cut:Int) (r:List AV):Bool:=decide (itTm r≤cut)
def tGt (cut:Int) (r:List AV):Bool:=decide (cut < itTm r)
structure WdP (p q r:LLA) (cut:Int):Prop where
  fq:q=p.filter (tLe cut)
  fr:r=p.filter (tGt cut)
  fm:MgL p
  fl:p.length≤200
  fk:∀ n:Nat,0 < n→n < p.length→itKy (p.getD (n - 1) [])≠itKy (p.getD n [])
end Go.Proofs.YtgnnafneglannaaDoor
namespace Go.Proofs.YtgnnafneglannaaDoor
open Go
set_option linter.unusedVariables false
set_option linter.unusedSimpArgs false
structure KoP (xs:List (List AV)) (k:Nat):Prop where
  fk:k=xs.length
  fi:IntsB xs
  fl:Ln xs
def inO (xs:List (List AV)) (n:Int):LInv:=⟨Int,fun i=>⟨[(0,.rw 0 1 xs.length),(1,.int .i64 n),(5,.int .i64 i)],[(0,.row 3 1 xs)]⟩,InP xs n,fun i=>(xs.length - i).toNat,none⟩
def kinO_s:SpH
  | [.rw 0 1 k,.int .i64 n],[.row 3 1 xs]=>some (KoP xs k,.bool (inI xs n),[.row 3 1 xs])
  | _,_=>none
set_option maxRecDepth 100000 in
def kinO_T:Prop :=
  ∀ (gl:Glob) (xs:List (List AV)) (n:Int) (k:Nat),KoP xs k→True→IR9 n→(∃ x,InP xs n x∧(k=xs.length∧n=n∧(0:Int)=x∧True)∧xs=xs∧True)∧∀ (x:Int),InP xs n x→bif decide (x < (↑xs.length:Int)) then bif decide (0≤x∧x < (↑xs.length:Int)) then bif decide (xs.length=xs.length∧x.toNat < xs.length) then ∃ n_1,List.take [AV.int .i64 n_1].length
 (List.drop (0:Nat) (xs.getD x.toNat []))=[AV.int .i64 n_1]∧bif decide (n_1=n) then true=inI xs n∧xs=xs∧True else bif decide (rng .i64 (x+(1:Int))) then ∃ y,InP xs n y∧(inO xs n).m y < (inO xs n).m x∧(xs.length=xs.length∧n=n∧x+(1:Int)=y∧True)∧xs=xs∧True else False else False else False else false=inI xs n∧xs=xs∧True
set_option maxRecDepth 100000 in
theorem kinO_P:kinO_T:=by
  unfold kinO_T
  intro gl xs n k ⟨hk,hx,lx⟩
  intros
  subst hk
  have l1:=lx.fl
  refine ⟨⟨0,⟨by decide,by omega,fun j h=>by omega⟩,by (repeat' (first | exact trivial | exact rfl | assumption | apply And.intro))⟩,?_⟩
  rintro i ⟨h0,h1,hn⟩
  refine csx (fun hl=>cd1 (by omega) (cd1 ⟨rfl,by omega⟩ ⟨_,intsB_at hx (by omega),csx (fun q=>?_) (fun q=>?_)⟩)) (fun hl=>?_)
  · refine ⟨(List.any_eq_true.2 ⟨xs.getD i.toNat [],?_,decide_eq_true q⟩).symm,by (repeat' (first | exact trivial | exact rfl | assumption | apply And.intro))⟩
    rw [List.getD_eq_getElem?_getD,List.getElem?_eq_getElem (by omega)]; exact List.getElem_mem _
  · refine cdI (by omega) ⟨i+1,⟨by omega,by omega,fun j hj=>?_⟩,by simp only [inO]; omega,by (repeat' (first | exact trivial | exact rfl | assumption | apply And.intro))⟩
    rcases Nat.lt_or_ge j i.toNat with k | k
    · exact hn j (by omega)
    · rw [show j=i.toNat by omega]; exact q
  · refine ⟨?_,by (repeat' (first | exact trivial | exact rfl | assumption | apply And.intro))⟩
    unfold inI
    cases e:xs.any fun r=>decide (cellI r=n) with
    | false=>rfl
    | true =>
      obtain ⟨x,hx',hm⟩:=List.any_eq_true.1 e
      obtain ⟨k,hk,rfl⟩:=List.mem_iff_getElem.1 hx'
      have:=hn k (by omega)
      rw [List.getD_eq_getElem?_getD,List.getElem?_eq_getElem hk] at this
      exact absurd (of_decide_eq_true hm) this
def kinO_S:Prop:=∀ (gl:Glob) (xs:List (List AV)) (n:Int) (k:Nat),KoP xs k→fnH Tryd.prog { glob:=gl,spec:=lk [],specH:=lk [],shape:=[15] } { nt:=18,drop:=drp [(2,448),(3,3072),(4,126976)],fr:=1000,kp:=[0] } (invs [(2,inO xs n)]) 6 Tryd.f28 [.rw 0 1 k,.int .i64 n] [.row 3 1 xs] (.bool (inI xs n)) [.row 3 1 xs]
set_option maxRecDepth 100000 in
theorem kinO_e:kinO_T=kinO_S:=by kernel_rfl
theorem kinO_v:kinO_S:=@Eq.mp (kinO_T) (kinO_S) (kinO_e) (kinO_P)
theorem kinO_ok (gl:Glob):HOK Tryd.prog gl 28 kinO_s:=by
  refine ⟨fok Tryd.func28 (by kernel_rfl) (by kernel_rfl),?_⟩
  intro xs bs pre r bs2 h hp
  unfold kinO_s at h
  split at h
  · simp only [Option.some.injEq,Prod.mk.injEq] at h
    obtain ⟨h1,h2,h3⟩:=h
    subst h1 h2 h3
    exact fnH_sound tyNil (by exact specOK rfl rfl trivial trivial) (by kernel_rfl) Tryd.func28 (kinO_v gl _ _ _ hp)
  · cases h
def inV2 (f:Bool) (xs:List (List AV)) (n:Int):LInv:=⟨Int,fun i=>⟨[(0,.sl 1 f xs),(1,.int .i64 n),(5,.int .i64 i)],[]⟩,InP xs n,fun i=>(xs.length - i).toNat,none⟩
def kinV_s:SpH
  | [.sl 1 f xs,.int .i64 n],[]=>some (IntsB xs∧Ln xs,.bool (inI xs n),[])
  | _,_=>none
set_option maxRecDepth 100000 in
def kinV_T:Prop :=
  ∀ (gl:Glob) (f:Bool) (xs:List (List AV)) (n:Int),IntsB xs∧Ln xs→True→IR9 n→(∃ x,InP xs n x∧(((bif f then f=true else True)∧xs=xs)∧n=n∧(0:Int)=x∧True)∧True)∧∀ (x:Int),InP xs n x→bif decide (x < (↑xs.length:Int)) then bif decide (0≤x∧x < (↑xs.length:Int)) then ∃ n_1,List.take [AV.int .i64 n_1].length (xs.getD x.toNat [])=[AV.int
 .i64 n_1]∧bif decide (n_1=n) then true=inI xs n∧True else bif decide (rng .i64 (x+(1:Int))) then ∃ y,InP xs n y∧(inV2 f xs n).m y < (inV2 f xs n).m x∧(((bif f then f=true else True)∧xs=xs)∧n=n∧x+(1:Int)=y∧True)∧True else False else False else false=inI xs n∧True
set_option maxRecDepth 100000 in
theorem kinV_P:kinV_T:=by
  unfold kinV_T
  intro gl f xs n ⟨hx,lx⟩
  intros
  have l1:=lx.fl
  have bf:cond f (f=true) True:=by cases f <;> trivial
  refine ⟨⟨0,⟨by decide,by omega,fun j h=>by omega⟩,by (repeat' (first | exact trivial | exact rfl | assumption | apply And.intro))⟩,?_⟩
  rintro i ⟨h0,h1,hn⟩
  refine csx (fun hl=>cd1 (by omega) ⟨_,intsB_at hx (by omega),csx (fun q=>?_) (fun q=>?_)⟩) (fun hl=>?_)
  · refine ⟨(List.any_eq_true.2 ⟨xs.getD i.toNat [],?_,decide_eq_true q⟩).symm,by (repeat' (first | exact trivial | exact rfl | assumption | apply And.intro))⟩
    rw [List.getD_eq_getElem?_getD,List.getElem?_eq_getElem (by omega)]; exact List.getElem_mem _
  · refine cdI (by omega) ⟨i+1,⟨by omega,by omega,fun j hj=>?_⟩,by simp only [inV2]; omega,by (repeat' (first | exact trivial | exact rfl | assumption | apply And.intro))⟩
    rcases Nat.lt_or_ge j i.toNat with k | k
    · exact hn j (by omega)
    · rw [show j=i.toNat by omega]; exact q
  · refine ⟨?_,by (repeat' (first | exact trivial | exact rfl | assumption | apply And.intro))⟩
    unfold inI
    cases e:xs.any fun r=>decide (cellI r=n) with
    | false=>rfl
    | true =>
      obtain ⟨x,hx',hm⟩:=List.any_eq_true.1 e
      obtain ⟨k,hk,rfl⟩:=List.mem_iff_getElem.1 hx'
      have:=hn k (by omega)
      rw [List.getD_eq_getElem?_getD,List.getElem?_eq_getElem hk] at this
      exact absurd (of_decide_eq_true hm) this
def kinV_S:Prop:=∀ (gl:Glob) (f:Bool) (xs:List (List AV)) (n:Int),IntsB xs∧Ln xs→fnH Tryd.prog { glob:=gl,spec:=lk [],specH:=lk [],shape:=[15] } { nt:=18,drop:=drp [(2,448),(3,3072),(4,126976)],fr:=1000,kp:=[] } (invs [(2,inV2 f xs n)]) 6 Tryd.f28 [.sl 1 f xs,.int .i64 n] [] (.bool (inI xs n)) []
set_option maxRecDepth 100000 in
theorem kinV_e:kinV_T=kinV_S:=by kernel_rfl
theorem kinV_v:kinV_S:=@Eq.mp (kinV_T) (kinV_S) (kinV_e) (kinV_P)
theorem kinV_ok (gl:Glob):HOK Tryd.prog gl 28 kinV_s:=by
  refine ⟨fok Tryd.func28 (by kernel_rfl) (by kernel_rfl),?_⟩
  intro xs bs pre r bs2 h hp
  unfold kinV_s at h
  split at h
  · simp only [Option.some.injEq,Prod.mk.injEq] at h
    obtain ⟨h1,h2,h3⟩:=h
    subst h1 h2 h3
    exact fnH_sound tyNil (by exact specOK rfl rfl trivial trivial) (by kernel_rfl) Tryd.func28 (kinV_v gl _ _ _ hp)
  · cases h
structure RfdP (code:Int) (xs:List (List AV)) (i:Int):Prop where
  flo:0≤i
  fhi:i≤xs.length
  fno:∀ j:Nat,(j:Int) < i→cdP code (xs.getD j [])=false
def rfdL (f:Bool) (xs:List (List AV)) (code:Int):LInv:=⟨Int,fun i=>⟨[(0,.sl 2 f xs),(1,.int .i64 code),(6,.int .i64 i)],[]⟩,RfdP code xs,fun i=>(xs.length - i).toNat,none⟩
def rfind_s:Sp
  | [.sl 2 f xs,.int .i64 code]=>some (RdsP xs,.tup [.int .i64 (fdV xs code),.bool (fdB xs code)])
  | _=>none
set_option maxRecDepth 100000 in
def rfind_T:Prop :=
  ∀ (gl:Glob) (f:Bool) (xs:List (List AV)) (code:Int),RdsP xs→True→IR9 code→(∃ x,RfdP code xs x∧(((bif f then f=true else True)∧xs=xs)∧code=code∧(0:Int)=x∧True)∧True)∧∀ (x:Int),RfdP code xs x→bif decide (x < (↑xs.length:Int)) then bif decide (0≤x∧x < (↑xs.length:Int)) then ∃ n,List.take [AV.int .i64 n].length (List.drop (0:Nat)
 (xs.getD x.toNat []))=[AV.int .i64 n]∧bif decide (n=code) then bif decide (0≤x∧x < (↑xs.length:Int)) then ∃ n,List.take [AV.int .i64 n].length (List.drop (1:Nat) (xs.getD x.toNat []))=[AV.int .i64 n]∧n=fdV xs code∧true=fdB xs code∧True else False else bif decide (rng .i64 (x+(1:Int))) then ∃ y,RfdP code xs y∧(rfdL f xs code).m y < (rfdL f xs code).m x∧(((bif f then f=true else
 True)∧xs=xs)∧code=code∧x+(1:Int)=y∧True)∧True else False else False else (0:Int)=fdV xs code∧false=fdB xs code∧True
set_option maxRecDepth 100000 in
theorem rfind_P:rfind_T:=by
  unfold rfind_T
  intro gl f xs code hr _ _
  have hs:=hr.sm
  have bf:cond f (f=true) True:=by cases f <;> trivial
  refine ⟨⟨0,⟨by decide,by omega,fun j h=>by omega⟩,⟨⟨bf,rfl⟩,rfl,rfl,trivial⟩,trivial⟩,?_⟩
  rintro i ⟨h0,h1,hn⟩
  refine csx (fun hl=>?_) (fun hl=>?_)
  · obtain ⟨e,v,he,_⟩:=hr.row i.toNat (by omega)
    have e1:rE (xs.getD i.toNat [])=e:=by rw [he]; rfl
    have e2:rV (xs.getD i.toNat [])=v:=by rw [he]; rfl
    refine cd1 (by omega) ⟨e,by rw [he]; rfl,csx (fun q=>?_) (fun q=>?_)⟩
    · refine cd1 (by omega) ⟨v,by rw [he]; rfl,?_⟩
      have hc:cdI' code xs=i.toNat:=(idx_some (p:=cdP code) (xs:=xs) (i:=i.toNat) (by omega) (by unfold cdP; rw [e1]; exact decide_eq_true q) (fun j hj=>hn j (by omega))).symm
      have hb:fdB xs code=true:=by unfold fdB; rw [hc]; exact decide_eq_true (by omega)
      unfold fdV
      rw [hb,hc,if_pos rfl,Int.toNat_natCast,e2]
      exact ⟨rfl,rfl,trivial⟩
    · refine cdI (by omega) ⟨i+1,⟨by omega,by omega,fun j hj=>?_⟩,by simp only [rfdL]; omega,⟨⟨bf,rfl⟩,rfl,rfl,trivial⟩,trivial⟩
      rcases Nat.lt_or_ge j i.toNat with k | k
      · exact hn j (by omega)
      · rw [show j=i.toNat by omega]; unfold cdP; rw [e1]; exact decide_eq_false q
  · have hc:cdI' code xs=-1:=(idx_none fun j hj=>hn j (by omega)).symm
    have hb:fdB xs code=false:=by unfold fdB; rw [hc]; rfl
    unfold fdV
    rw [hb]
    exact ⟨rfl,rfl,trivial⟩
def rfind_S:Prop:=∀ (gl:Glob) (f:Bool) (xs:List (List AV)) (code:Int),RdsP xs→fnK Tryd.prog { glob:=gl,spec:=lk [],specH:=lk [],shape:=[17,24],nowf:=true } { nt:=25,drop:=drp [(2,896),(3,6144),(4,516096),(5,32505856)] } (invs [(2,rfdL f xs code)]) 6 Tryd.f29 [.sl 2 f xs,.int .i64 code] (.tup [.int .i64 (fdV xs code),.bool (fdB xs code)])
set_option maxRecDepth 100000 in
theorem rfind_e:rfind_T=rfind_S:=by kernel_rfl
theorem rfind_v:rfind_S:=@Eq.mp (rfind_T) (rfind_S) (rfind_e) (rfind_P)
theorem rfind_ok (gl:Glob):SOK Tryd.prog gl 29 rfind_s:=by
  refine ⟨fok Tryd.func29 (by kernel_rfl) (by kernel_rfl),?_⟩
  intro xs pre r h hp
  unfold rfind_s at h
  split at h
  · simp only [Option.some.injEq,Prod.mk.injEq] at h
    obtain ⟨h1,h2⟩:=h
    subst h1 h2
    exact fnK_sound tyNil (by exact specOK rfl rfl trivial trivial) (by kernel_rfl) Tryd.func29 rfl (rfind_v gl _ _ _ hp)
  · cases h
end Go.Proofs.YtgnnafneglannaaDoor
namespace Go.Proofs.YtgnnafneglannaaDoor
open Go
set_option linter.unusedVariables false
set_option linter.unusedSimpArgs false
def ddL (l:List Int):LLA:=l.foldl (fun acc v=>if inI acc v then acc else acc++[[.int .i64 v]]) []
theorem ddL_snoc (l:List Int) (v:Int):ddL (l++[v])=if inI (ddL l) v then ddL l else ddL l++[[.int .i64 v]]:=by unfold ddL; rw [List.foldl_append]; rfl
def vl (P:LLA) (c:Int):LLA:=ddL (cvs P c)
theorem vl_snoc (P:LLA) (e v c:Int):vl (P++[[.int .i64 e,.int .i64 v]]) c=if e=c then (if inI (vl P c) v then vl P c else vl P c++[[.int .i64 v]]) else vl P c:=by
  unfold vl
  rw [cvs_snoc]
  by_cases h:e=c
  · rw [if_pos h,if_pos (show rE [.int .i64 e,.int .i64 v]=c from h)]
    exact ddL_snoc _ _
  · rw [if_neg h,if_neg (show ¬ rE [.int .i64 e,.int .i64 v]=c from h),List.append_nil]
theorem inI_iff {xs:LLA} {n:Int}:inI xs n=true↔∃ r ∈ xs,cellI r=n:=by
  unfold inI
  rw [List.any_eq_true]
  exact ⟨fun ⟨x,h,e⟩=>⟨x,h,of_decide_eq_true e⟩,fun ⟨x,h,e⟩=>⟨x,h,decide_eq_true e⟩⟩
theorem dd_rows {l:List Int} (h:∀ v ∈ l,rng .i64 v):IntsB (ddL l)∧(ddL l).length≤l.length:=by
  refine snoc_ind (P:=fun l=>(∀ v ∈ l,rng .i64 v)→IntsB (ddL l)∧(ddL l).length≤l.length) (fun _=>⟨⟨by simp [ddL]⟩,by simp [ddL]⟩) (fun l x ih h=>?_) l h
  obtain ⟨i1,i2⟩:=ih fun v hv=>h v (by simp [hv])
  rw [ddL_snoc,List.length_append,List.length_singleton]
  split
  · exact ⟨i1,by omega⟩
  · refine ⟨⟨fun r hr=>?_⟩,by rw [List.length_append,List.length_singleton]; omega⟩
    rcases List.mem_append.1 hr with q | q
    · exact i1.fi r q
    · exact ⟨x,List.mem_singleton.1 q,h x (by simp)⟩
theorem dd_one:∀ l:List Int,(alq l=true→ddL l=(match l with | []=>[] | v::_=>[[.int .i64 v]]))∧(alq l=false→2≤(ddL l).length) :=
  snoc_ind ⟨fun _=>rfl,fun h=>by cases h⟩ fun l x ih=>by
    rw [alq_snoc,ddL_snoc]
    cases l with
    | nil=>exact ⟨fun _=>rfl,fun h=>by simp [alq] at h⟩
    | cons a l =>
      have hl:(a::l).getLast?=some ((a::l).getLast (by simp)):=List.getLast?_eq_some_getLast (by simp)
      by_cases h:alq (a::l)=true
      · have h1:=ih.1 h
        have hla:=alq_last h
        rw [h,hla]
        have h1:ddL (a::l)=[[.int .i64 a]]:=h1
        rw [h1]
        have e:inI [[.int .i64 a]] x=decide (x=a):=by
          rw [Bool.eq_iff_iff,inI_iff,decide_eq_true_eq]
          exact ⟨fun ⟨r,hr,q⟩=>by rw [List.mem_singleton.1 hr] at q; exact q.symm,fun q=>⟨_,List.mem_singleton.2 rfl,q.symm⟩⟩
        rw [e]
        by_cases q:x=a
        · simp [q]
        · have:¬ a=x:=fun z=>q z.symm
          simp [q,this]
      · have h0:alq (a::l)=false:=by simpa using h
        have h2:=ih.2 h0
        rw [h0,Bool.false_and]
        refine ⟨(fun z=>by cases z),fun _=>?_⟩
        split
        · exact h2
        · rw [List.length_append]; omega
theorem rdN_iff {G:LLA} (r:List AV):∀ n:Nat,r ∈ rdN G n↔∃ k:Nat,k < n∧badC G k=false∧cvs (rdsF G) k≠[]∧r=[.int .i64 (k:Int),.int .i64 (lasI (cvs (rdsF G) k))]
  | 0=>by simp [rdN]
  | n+1=>by
    simp only [rdN]
    rw [List.mem_append,rdN_iff r n]
    constructor
    · rintro (⟨k,hk,h⟩ | h)
      · exact ⟨k,by omega,h⟩
      · split at h
        · simp at h
        · next hb =>
          split at h
          · simp at h
          · next hc=>exact ⟨n,by omega,by simpa using hb,hc,by simpa using h⟩
    · rintro ⟨k,hk,h1,h2,h3⟩
      by_cases e:k=n
      · subst e
        refine .inr ?_
        rw [if_neg (by rw [h1]; simp),if_neg h2,h3]; simp
      · exact .inl ⟨k,by omega,h1,h2,h3⟩
theorem ctN_iff {G:LLA} (r:List AV):∀ n:Nat,r ∈ ctN G n↔∃ k:Nat,k < n∧badC G k=true∧r=[.int .i64 (k:Int)]
  | 0=>by simp [ctN]
  | n+1=>by
    simp only [ctN]
    rw [List.mem_append,ctN_iff r n]
    constructor
    · rintro (⟨k,hk,h⟩ | h)
      · exact ⟨k,by omega,h⟩
      · split at h
        · next hb=>exact ⟨n,by omega,hb,by simpa using h⟩
        · simp at h
    · rintro ⟨k,hk,h1,h2⟩
      by_cases e:k=n
      · subst e
        refine .inr ?_
        rw [if_pos h1,h2]; simp
      · exact .inl ⟨k,by omega,h1,h2⟩
theorem gC_in {G:LLA} {c:Nat} (hc:c < 12):inI (gC G) c=badC G c:=by
  rw [Bool.eq_iff_iff,inI_iff]
  unfold gC
  constructor
  · rintro ⟨r,hr,e⟩
    obtain ⟨k,_,hb,rfl⟩:=(ctN_iff r 12).1 hr
    have e:(k:Int)=c:=e
    rw [show c=k by omega]; exact hb
  · intro h
    exact ⟨[.int .i64 (c:Int)],(ctN_iff _ 12).2 ⟨c,hc,h,rfl⟩,rfl⟩
theorem gR_fd {G:LLA} {c:Nat} (hc:c < 12):fdB (gR G) c=(!(badC G c)&&decide (cvs (rdsF G) c≠[]))∧(fdB (gR G) c=true→fdV (gR G) c=lasI (cvs (rdsF G) c)):=by
  have key:∀ i:Nat,i < (gR G).length→cdP c ((gR G).getD i [])=true→badC G c=false∧cvs (rdsF G) c≠[]∧rV ((gR G).getD i [])=lasI (cvs (rdsF G) c):=fun i hi h=>by
    rw [getD_lt hi] at h ⊢
    obtain ⟨k,_,h1,h2,h3⟩:=(rdN_iff _ 12).1 (List.getElem_mem hi)
    rw [h3] at h ⊢
    have h:(k:Int)=c:=of_decide_eq_true h
    have hk:k=c:=by omega
    subst hk
    exact ⟨h1,h2,rfl⟩
  by_cases h:∃ i:Nat,i < (gR G).length∧cdP c ((gR G).getD i [])=true
  · have hex:∃ i:Nat,(i < (gR G).length∧cdP c ((gR G).getD i [])=true)∧∀ j:Nat,j < i→cdP c ((gR G).getD j [])=false:=by
      obtain ⟨i,h1,h2⟩:=h
      have hf:(gR G).findIdx (cdP c) < (gR G).length:=List.findIdx_lt_length_of_exists ⟨(gR G).getD i [],by rw [getD_lt h1]; exact List.getElem_mem _,h2⟩
      refine ⟨(gR G).findIdx (cdP c),⟨hf,by rw [getD_lt hf]; exact List.findIdx_getElem (w:=hf)⟩,fun j hj=>?_⟩
      rw [getD_lt (by omega)]
      exact List.not_of_lt_findIdx hj
    obtain ⟨i,⟨h1,h2⟩,h3⟩:=hex
    have e:cdI' c (gR G)=i:=(idx_some (p:=cdP c) h1 h2 h3).symm
    obtain ⟨k1,k2,k3⟩:=key i h1 h2
    have hb:fdB (gR G) c=true:=by unfold fdB; rw [e]; exact decide_eq_true (by omega)
    refine ⟨by rw [hb,k1,decide_eq_true k2]; rfl,fun _=>?_⟩
    unfold fdV
    rw [hb,if_pos rfl,e,Int.toNat_natCast,k3]
  · have hn:∀ j,j < (gR G).length→cdP c ((gR G).getD j [])=false:=fun j hj=>by
      cases q:cdP c ((gR G).getD j []) with
      | false=>rfl
      | true=>exact absurd ⟨j,hj,q⟩ h
    have e:cdI' c (gR G)=-1:=(idx_none (p:=cdP c) hn).symm
    have hb:fdB (gR G) c=false:=by unfold fdB; rw [e]; rfl
    refine ⟨?_,fun q=>by rw [hb] at q; cases q⟩
    rw [hb]
    cases hbad:badC G c with
    | true=>rfl
    | false =>
      by_cases hcv:cvs (rdsF G) c=[]
      · simp [hcv]
      · have hm:[.int .i64 (c:Int),.int .i64 (lasI (cvs (rdsF G) c))] ∈ gR G:=(rdN_iff _ 12).2 ⟨c,hc,hbad,hcv,rfl⟩
        obtain ⟨i,hi,q⟩:=List.mem_iff_getElem.1 hm
        have:=hn i hi
        rw [getD_lt hi,q] at this
        have:(c:Int)≠c:=of_decide_eq_false this
        exact absurd rfl this
structure ElP (V rd cs:LLA) (c:Int):Prop where
  f1:fdB rd c=decide ((vl V c).length=1)
  f2:fdB rd c=true→∃ v:Int,vl V c=[[.int .i64 v]]∧fdV rd c=v
  f3:inI cs c=decide (1 < (vl V c).length)
theorem el_ok {G:LLA} {c:Nat} (h1:1≤c) (h2:c < 12):ElP (rdsF G) (gR G) (gC G) c:=by
  obtain ⟨a1,a2⟩:=gR_fd (G:=G) h2
  have a3:=gC_in (G:=G) h2
  have hb:badC G c=!(alq (cvs (rdsF G) c)):=by unfold badC; rw [if_neg (by omega)]; rfl
  obtain ⟨d1,d2⟩:=dd_one (cvs (rdsF G) c)
  have hvl:vl (rdsF G) c=ddL (cvs (rdsF G) c):=rfl
  cases ha:alq (cvs (rdsF G) c) with
  | false =>
    have:=d2 ha
    rw [ha] at hb
    refine ⟨?_,fun q=>?_,?_⟩
    · rw [a1,hb,hvl,decide_eq_false (show ¬ (ddL (cvs (rdsF G) c)).length=1 from by omega)]; rfl
    · rw [a1,hb] at q; cases q
    · rw [a3,hb,hvl,decide_eq_true (show 1 < (ddL (cvs (rdsF G) c)).length from by omega)]; rfl
  | true =>
    have e:=d1 ha
    rw [ha] at hb
    cases hc:cvs (rdsF G) c with
    | nil =>
      rw [hc] at e
      have e:ddL []=[]:=rfl
      refine ⟨?_,fun q=>?_,?_⟩
      · rw [a1,hb,hc,hvl,hc,e]; rfl
      · rw [a1,hc] at q; simp at q
      · rw [a3,hb,hvl,hc,e]; rfl
    | cons v l =>
      rw [hc] at e ha
      have e:ddL (v::l)=[[.int .i64 v]]:=e
      refine ⟨?_,fun q=>⟨v,by rw [hvl,hc,e],?_⟩,?_⟩
      · rw [a1,hb,hc,hvl,hc,e]; simp
      · rw [a2 q,hc]
        unfold lasI
        rw [alq_last ha]; rfl
      · rw [a3,hb,hvl,hc,e]; rfl
end Go.Proofs.YtgnnafneglannaaDoor
namespace Go.Proofs.YtgnnafneglannaaDoor
open Go
set_option linter.unusedVariables false
set_option linter.unusedSimpArgs false
structure ItW (near:Int) (r:List AV):Prop where
  fr:∃ (k:Int) (nm:ByteArray) (t f a b c:Int) (ys:LLA) (co ar:Int),r=itA k nm t f a b c ys co ar∧RepQ k nm t f a b c ys 0∧(0≤co∧co≤2)∧(0≤ar∧ar≤52595999)∧(near - 200≤t∧t≤near+200)∧ar≤near+400
structure ItwQ (n near:Int) (os:LLA) (j:Int):Prop where
  fr:∀ r ∈ os,ItW near r
  fl:os.length≤n
  fj:0≤j
structure ItwP (n near:Int) (x:Int × Int × LLA):Prop where
  fi:x.1+x.2.2.length≤n
  fj:0≤x.2.1
  fr:∀ r ∈ x.2.2,ItW near r
  fn:x.2.2.length≤n
def itwI (xs:LLA) (near n:Int):LInv:=⟨Int × Int × LLA,fun x=>⟨[(0,.ptr 0 0),(2,.int .i64 near),(7,.rw 1701 10 x.2.2.length),(8,.int .i64 x.1)],[(0,.cells [.sl 1 false xs,.int .i64 x.2.1]),(1701,.row 50 10 x.2.2)]⟩,ItwP n near,fun x=>x.1.toNat,none⟩
def qitemsW_s:SpQ
  | [.ptr 0 0,.int .i64 n,.int .i64 near],[.cells [.sl 1 false xs,.int .i64 i]]=>some (fun K=>(SrcQ xs i∧(0≤near∧near≤52595999)∧0≤n∧n≤100)∧(∀ (os:List (List AV)) (j:Int),(ItwQ n near os j)→K (.sl 10 false os) [.cells [.sl 1 false xs,.int .i64 j]]))
  | _,_=>none
set_option maxRecDepth 100000 in
def qitemsW_T (iL:Int→ByteArray) (inLo:Int→Int) (inHi:Int→Int) (inD:Int→Int) (inE:Int→Int):Prop :=
  ∀ (gl:Glob) (xs:List (List AV)) (i n near:Int),SrcQ xs i∧(0≤near∧near≤(52595999:Int))∧0≤n∧n≤(100:Int)→bif decide (rng .i64 (n+(1:Int))) then SrcQ xs i∧∀ (v j:Int),NumQ (n+(1:Int)) v j→(∃ x,ItwP n near x∧((0:Nat)=0∧near=near∧(0:Nat)=List.length x.snd.snd∧v=x.fst∧True)∧((True∧xs=xs)∧j=x.snd.fst∧True)∧[]=x.snd.snd∧True)∧∀ (x:Int × Int × LLA),ItwP n near x→bif decide
 (0 < x.fst) then (SrcQ xs x.snd.fst∧0≤near∧near≤(52595999:Int))∧∀ (k:Int) (nm:ByteArray) (t f a b c:Int) (ys:List (List AV)) (j:Int),RepQ k nm t f a b c ys j→(SrcQ xs j∧(-60:Int)≤(300:Int)∧(-1000000000:Int)≤(-60:Int)∧(300:Int)≤(1000000000:Int))∧∀ (v j:Int),((-60:Int)≤v∧v≤(300:Int))∧0≤j→bif decide (rng .i64 (near+v)) then (SrcQ xs j∧(-12:Int) ≤
 (12:Int)∧(-1000000000:Int)≤(-12:Int)∧(12:Int)≤(1000000000:Int))∧∀ (v_1 j:Int),((-12:Int)≤v_1∧v_1≤(12:Int))∧0≤j→bif decide (rng .i64 ((10:Int)*v_1)) then bif decide (rng .i64 (near+(10:Int)*v_1)) then bif decide ((0:Int) < (↑(List.length x.snd.snd):Int)) then SrcQ xs j∧∀ (v_2 j:Int),NumQ (2:Int) v_2 j→bif decide (v_2=(0:Int)) then SrcQ xs j∧∀ (v_3 j:Int),NumQ (↑(List.length
 x.snd.snd):Int) v_3 j→bif decide (0≤v_3∧v_3 < (↑(List.length x.snd.snd):Int)) then bif decide (List.length x.snd.snd=List.length x.snd.snd∧v_3.toNat < List.length x.snd.snd) then ∃ n_1 s n_2 n_3 n_4 n_5 n_6 xs_1,List.take [AV.int .i64 n_1,.str s,.int .i64 n_2,.int .i64 n_3,.int .i64 n_4,.int .i64 n_5,.int .i64 n_6,.sl (2:Nat) false xs_1].length (List.drop (0:Nat) (List.getD x.snd.snd
 v_3.toNat []))=[AV.int .i64 n_1,.str s,.int .i64 n_2,.int .i64 n_3,.int .i64 n_4,.int .i64 n_5,.int .i64 n_6,.sl (2:Nat) false xs_1]∧bif decide ((0:Nat)=0∧(0:Nat)+xs_1.length≤(9223372036854775807:Nat)∧((0:Nat)+xs_1.length)*(16:Nat)≤(140737488355328:Nat)) then SrcQ xs j∧∀ (v_4 j:Int),NumQ (4:Int) v_4 j→bif decide (v_4=(0:Int)) then SrcQ xs j∧∀ (ys:List (List AV)) (j:Int),RdQ ys j→(SrcQ
 xs j∧((5:Nat)=5∧(1:Nat)≤(5:Nat)∧(5:Nat)≤(1000:Nat))∧IntsB [[AV.int .i64 (0:Int)],[AV.int .i64 (0:Int)],[AV.int .i64 (0:Int)],[AV.int .i64 (1:Int)],[AV.int .i64 (2:Int)]])∧∀ (v_5 j:Int),PickQ [[AV.int .i64 (0:Int)],[AV.int .i64 (0:Int)],[AV.int .i64 (0:Int)],[AV.int .i64 (1:Int)],[AV.int .i64 (2:Int)]] (AV.int .i64 v_5) j→bif decide (List.length x.snd.snd=List.length x.snd.snd∧List.length
 x.snd.snd+[[AV.int .i64 n_1,.str s,.int .i64 n_2,.int .i64 n_3,.int .i64 n_4,.int .i64 n_5,.int .i64 n_6,.sl (2:Nat) false ys,.int .i64 v_5,.int .i64 (max (0:Int) (min (52595999:Int) (near+v)))]].length≤(9223372036854775807:Nat)∧(List.length x.snd.snd+[[AV.int .i64 n_1,.str s,.int .i64 n_2,.int .i64 n_3,.int .i64 n_4,.int .i64 n_5,.int .i64 n_6,.sl (2:Nat) false ys,.int .i64 v_5,.int .i64
 (max (0:Int) (min (52595999:Int) (near+v)))]].length)*(104:Nat)≤(140737488355328:Nat)) then bif decide (rng .i64 (x.fst - (1:Int))) then ∃ y,ItwP n near y∧(itwI xs near n).m y < (itwI xs near n).m x∧((0:Nat)=0∧near=near∧(x.snd.snd++[[AV.int .i64 n_1,.str s,.int .i64 n_2,.int .i64 n_3,.int .i64 n_4,.int .i64 n_5,.int .i64 n_6,.sl (2:Nat) false ys,.int .i64 v_5,.int .i64 (max (0:Int) (min
 (52595999:Int) (near+v)))]]).length=List.length y.snd.snd∧x.fst - (1:Int)=y.fst∧True)∧((True∧xs=xs)∧j=y.snd.fst∧True)∧x.snd.snd++[[AV.int .i64 n_1,.str s,.int .i64 n_2,.int .i64 n_3,.int .i64 n_4,.int .i64 n_5,.int .i64 n_6,.sl (2:Nat) false ys,.int .i64 v_5,.int .i64 (max (0:Int) (min (52595999:Int) (near+v)))]]=y.snd.snd∧True else False else False else bif decide (v_4=(1:Int)) then bif
 decide ((0:Int) < (↑([]++xs_1).length:Int)) then SrcQ xs j∧∀ (v_5 j:Int),NumQ (↑([]++xs_1).length:Int) v_5 j→bif decide (0≤v_5∧v_5 < (↑([]++xs_1).length:Int)) then bif decide (([]++xs_1).length=([]++xs_1).length∧v_5.toNat < ([]++xs_1).length) then ∃ n_7,List.take [AV.int .i64 n_7].length (List.drop (0:Nat) (([]++xs_1).getD v_5.toNat []))=[AV.int .i64 n_7]∧(SrcQ xs j∧(1:Int) ≤
 n_7∧n_7≤(11:Int))∧∀ (v_6 j:Int),SomQ n_7 v_6 j→bif decide (0≤v_5∧v_5 < (↑([]++xs_1).length:Int)) then bif decide (([]++xs_1).length=([]++xs_1).length∧v_5.toNat < ([]++xs_1).length) then (SrcQ xs j∧((5:Nat)=5∧(1:Nat)≤(5:Nat)∧(5:Nat)≤(1000:Nat))∧IntsB [[AV.int .i64 (0:Int)],[AV.int .i64 (0:Int)],[AV.int .i64 (0:Int)],[AV.int .i64 (1:Int)],[AV.int .i64 (2:Int)]])∧∀ (v_7
 j:Int),PickQ [[AV.int .i64 (0:Int)],[AV.int .i64 (0:Int)],[AV.int .i64 (0:Int)],[AV.int .i64 (1:Int)],[AV.int .i64 (2:Int)]] (AV.int .i64 v_7) j→bif decide (([]++xs_1).length=(setEl ([]++xs_1) v_5.toNat (0:Nat) [AV.int .i64 n_7,.int .i64 v_6]).length) then bif decide (List.length x.snd.snd=List.length x.snd.snd∧List.length x.snd.snd+[[AV.int .i64 n_1,.str s,.int .i64 n_2,.int .i64 n_3,.int
 .i64 n_4,.int .i64 n_5,.int .i64 n_6,.sl (2:Nat) false (setEl ([]++xs_1) v_5.toNat (0:Nat) [AV.int .i64 n_7,.int .i64 v_6]),.int .i64 v_7,.int .i64 (max (0:Int) (min (52595999:Int) (near+v)))]].length≤(9223372036854775807:Nat)∧(List.length x.snd.snd+[[AV.int .i64 n_1,.str s,.int .i64 n_2,.int .i64 n_3,.int .i64 n_4,.int .i64 n_5,.int .i64 n_6,.sl (2:Nat) false (setEl ([]++xs_1) v_5.toNat
 (0:Nat) [AV.int .i64 n_7,.int .i64 v_6]),.int .i64 v_7,.int .i64 (max (0:Int) (min (52595999:Int) (near+v)))]].length)*(104:Nat)≤(140737488355328:Nat)) then bif decide (rng .i64 (x.fst - (1:Int))) then ∃ y,ItwP n near y∧(itwI xs near n).m y < (itwI xs near n).m x∧((0:Nat)=0∧near=near∧(x.snd.snd++[[AV.int .i64 n_1,.str s,.int .i64 n_2,.int .i64 n_3,.int .i64 n_4,.int .i64 n_5,.int .i64
 n_6,.sl (2:Nat) false (setEl ([]++xs_1) v_5.toNat (0:Nat) [AV.int .i64 n_7,.int .i64 v_6]),.int .i64 v_7,.int .i64 (max (0:Int) (min (52595999:Int) (near+v)))]]).length=List.length y.snd.snd∧x.fst - (1:Int)=y.fst∧True)∧((True∧xs=xs)∧j=y.snd.fst∧True)∧x.snd.snd++[[AV.int .i64 n_1,.str s,.int .i64 n_2,.int .i64 n_3,.int .i64 n_4,.int .i64 n_5,.int .i64 n_6,.sl (2:Nat) false (setEl ([]++xs_1)
 v_5.toNat (0:Nat) [AV.int .i64 n_7,.int .i64 v_6]),.int .i64 v_7,.int .i64 (max (0:Int) (min (52595999:Int) (near+v)))]]=y.snd.snd∧True else False else False else False else False else False else False else False else (SrcQ xs j∧((5:Nat)=5∧(1:Nat)≤(5:Nat)∧(5:Nat)≤(1000:Nat))∧IntsB [[AV.int .i64 (0:Int)],[AV.int .i64 (0:Int)],[AV.int .i64 (0:Int)],[AV.int .i64 (1:Int)],[AV.int .i64
 (2:Int)]])∧∀ (v_5 j:Int),PickQ [[AV.int .i64 (0:Int)],[AV.int .i64 (0:Int)],[AV.int .i64 (0:Int)],[AV.int .i64 (1:Int)],[AV.int .i64 (2:Int)]] (AV.int .i64 v_5) j→bif decide (([]++xs_1).length=([]++xs_1).length) then bif decide (List.length x.snd.snd=List.length x.snd.snd∧List.length x.snd.snd+[[AV.int .i64 n_1,.str s,.int .i64 n_2,.int .i64 n_3,.int .i64 n_4,.int .i64 n_5,.int .i64 n_6,.sl
 (2:Nat) false ([]++xs_1),.int .i64 v_5,.int .i64 (max (0:Int) (min (52595999:Int) (near+v)))]].length≤(9223372036854775807:Nat)∧(List.length x.snd.snd+[[AV.int .i64 n_1,.str s,.int .i64 n_2,.int .i64 n_3,.int .i64 n_4,.int .i64 n_5,.int .i64 n_6,.sl (2:Nat) false ([]++xs_1),.int .i64 v_5,.int .i64 (max (0:Int) (min (52595999:Int) (near+v)))]].length)*(104:Nat)≤(140737488355328:Nat))
 then bif decide (rng .i64 (x.fst - (1:Int))) then ∃ y,ItwP n near y∧(itwI xs near n).m y < (itwI xs near n).m x∧((0:Nat)=0∧near=near∧(x.snd.snd++[[AV.int .i64 n_1,.str s,.int .i64 n_2,.int .i64 n_3,.int .i64 n_4,.int .i64 n_5,.int .i64 n_6,.sl (2:Nat) false ([]++xs_1),.int .i64 v_5,.int .i64 (max (0:Int) (min (52595999:Int) (near+v)))]]).length=List.length y.snd.snd∧x.fst -
 (1:Int)=y.fst∧True)∧((True∧xs=xs)∧j=y.snd.fst∧True)∧x.snd.snd++[[AV.int .i64 n_1,.str s,.int .i64 n_2,.int .i64 n_3,.int .i64 n_4,.int .i64 n_5,.int .i64 n_6,.sl (2:Nat) false ([]++xs_1),.int .i64 v_5,.int .i64 (max (0:Int) (min (52595999:Int) (near+v)))]]=y.snd.snd∧True else False else False else False else bif decide (v_4=(2:Int)) then bif decide ¬n_1=(1:Int) then SrcQ xs j∧∀ (f a b c
 j:Int),PlaQ f a b c j→(SrcQ xs j∧((5:Nat)=5∧(1:Nat)≤(5:Nat)∧(5:Nat)≤(1000:Nat))∧IntsB [[AV.int .i64 (0:Int)],[AV.int .i64 (0:Int)],[AV.int .i64 (0:Int)],[AV.int .i64 (1:Int)],[AV.int .i64 (2:Int)]])∧∀ (v_5 j:Int),PickQ [[AV.int .i64 (0:Int)],[AV.int .i64 (0:Int)],[AV.int .i64 (0:Int)],[AV.int .i64 (1:Int)],[AV.int .i64 (2:Int)]] (AV.int .i64 v_5) j→bif decide (([]++xs_1).length=([] ++
 xs_1).length) then bif decide (List.length x.snd.snd=List.length x.snd.snd∧List.length x.snd.snd+[[AV.int .i64 n_1,.str s,.int .i64 n_2,.int .i64 f,.int .i64 a,.int .i64 b,.int .i64 c,.sl (2:Nat) false ([]++xs_1),.int .i64 v_5,.int .i64 (max (0:Int) (min (52595999:Int) (near+v)))]].length≤(9223372036854775807:Nat)∧(List.length x.snd.snd+[[AV.int .i64 n_1,.str s,.int .i64 n_2,.int .i64
 f,.int .i64 a,.int .i64 b,.int .i64 c,.sl (2:Nat) false ([]++xs_1),.int .i64 v_5,.int .i64 (max (0:Int) (min (52595999:Int) (near+v)))]].length)*(104:Nat)≤(140737488355328:Nat)) then bif decide (rng .i64 (x.fst - (1:Int))) then ∃ y,ItwP n near y∧(itwI xs near n).m y < (itwI xs near n).m x∧((0:Nat)=0∧near=near∧(x.snd.snd++[[AV.int .i64 n_1,.str s,.int .i64 n_2,.int .i64 f,.int .i64 a,.int
 .i64 b,.int .i64 c,.sl (2:Nat) false ([]++xs_1),.int .i64 v_5,.int .i64 (max (0:Int) (min (52595999:Int) (near+v)))]]).length=List.length y.snd.snd∧x.fst - (1:Int)=y.fst∧True)∧((True∧xs=xs)∧j=y.snd.fst∧True)∧x.snd.snd++[[AV.int .i64 n_1,.str s,.int .i64 n_2,.int .i64 f,.int .i64 a,.int .i64 b,.int .i64 c,.sl (2:Nat) false ([]++xs_1),.int .i64 v_5,.int .i64 (max (0:Int) (min (52595999:Int)
 (near+v)))]]=y.snd.snd∧True else False else False else False else (SrcQ xs j∧((5:Nat)=5∧(1:Nat)≤(5:Nat)∧(5:Nat)≤(1000:Nat))∧IntsB [[AV.int .i64 (0:Int)],[AV.int .i64 (0:Int)],[AV.int .i64 (0:Int)],[AV.int .i64 (1:Int)],[AV.int .i64 (2:Int)]])∧∀ (v_5 j:Int),PickQ [[AV.int .i64 (0:Int)],[AV.int .i64 (0:Int)],[AV.int .i64 (0:Int)],[AV.int .i64 (1:Int)],[AV.int .i64 (2:Int)]] (AV.int .i64 v_5)
 j→bif decide (([]++xs_1).length=([]++xs_1).length) then bif decide (List.length x.snd.snd=List.length x.snd.snd∧List.length x.snd.snd+[[AV.int .i64 n_1,.str s,.int .i64 n_2,.int .i64 n_3,.int .i64 n_4,.int .i64 n_5,.int .i64 n_6,.sl (2:Nat) false ([]++xs_1),.int .i64 v_5,.int .i64 (max (0:Int) (min (52595999:Int) (near+v)))]].length≤(9223372036854775807:Nat)∧(List.length x.snd.snd +
 [[AV.int .i64 n_1,.str s,.int .i64 n_2,.int .i64 n_3,.int .i64 n_4,.int .i64 n_5,.int .i64 n_6,.sl (2:Nat) false ([]++xs_1),.int .i64 v_5,.int .i64 (max (0:Int) (min (52595999:Int) (near+v)))]].length)*(104:Nat)≤(140737488355328:Nat)) then bif decide (rng .i64 (x.fst - (1:Int))) then ∃ y,ItwP n near y∧(itwI xs near n).m y < (itwI xs near n).m x∧((0:Nat)=0∧near=near∧(x.snd.snd++[[AV.int
 .i64 n_1,.str s,.int .i64 n_2,.int .i64 n_3,.int .i64 n_4,.int .i64 n_5,.int .i64 n_6,.sl (2:Nat) false ([]++xs_1),.int .i64 v_5,.int .i64 (max (0:Int) (min (52595999:Int) (near+v)))]]).length=List.length y.snd.snd∧x.fst - (1:Int)=y.fst∧True)∧((True∧xs=xs)∧j=y.snd.fst∧True)∧x.snd.snd++[[AV.int .i64 n_1,.str s,.int .i64 n_2,.int .i64 n_3,.int .i64 n_4,.int .i64 n_5,.int .i64 n_6,.sl (2:Nat)
 false ([]++xs_1),.int .i64 v_5,.int .i64 (max (0:Int) (min (52595999:Int) (near+v)))]]=y.snd.snd∧True else False else False else False else (SrcQ xs j∧((5:Nat)=5∧(1:Nat)≤(5:Nat)∧(5:Nat)≤(1000:Nat))∧IntsB [[AV.int .i64 (0:Int)],[AV.int .i64 (0:Int)],[AV.int .i64 (0:Int)],[AV.int .i64 (1:Int)],[AV.int .i64 (2:Int)]])∧∀ (v_5 j:Int),PickQ [[AV.int .i64 (0:Int)],[AV.int .i64 (0:Int)],[AV.int
 .i64 (0:Int)],[AV.int .i64 (1:Int)],[AV.int .i64 (2:Int)]] (AV.int .i64 v_5) j→bif decide (([]++xs_1).length=([]++xs_1).length) then bif decide (List.length x.snd.snd=List.length x.snd.snd∧List.length x.snd.snd+[[AV.int .i64 n_1,.str s,.int .i64 n_2,.int .i64 n_3,.int .i64 n_4,.int .i64 n_5,.int .i64 n_6,.sl (2:Nat) false ([]++xs_1),.int .i64 v_5,.int .i64 (max (0:Int) (min (52595999:Int)
 (near+v)))]].length≤(9223372036854775807:Nat)∧(List.length x.snd.snd+[[AV.int .i64 n_1,.str s,.int .i64 n_2,.int .i64 n_3,.int .i64 n_4,.int .i64 n_5,.int .i64 n_6,.sl (2:Nat) false ([]++xs_1),.int .i64 v_5,.int .i64 (max (0:Int) (min (52595999:Int) (near+v)))]].length)*(104:Nat)≤(140737488355328:Nat)) then bif decide (rng .i64 (x.fst - (1:Int))) then ∃ y,ItwP n near y∧(itwI xs near
 n).m y < (itwI xs near n).m x∧((0:Nat)=0∧near=near∧(x.snd.snd++[[AV.int .i64 n_1,.str s,.int .i64 n_2,.int .i64 n_3,.int .i64 n_4,.int .i64 n_5,.int .i64 n_6,.sl (2:Nat) false ([]++xs_1),.int .i64 v_5,.int .i64 (max (0:Int) (min (52595999:Int) (near+v)))]]).length=List.length y.snd.snd∧x.fst - (1:Int)=y.fst∧True)∧((True∧xs=xs)∧j=y.snd.fst∧True)∧x.snd.snd++[[AV.int .i64 n_1,.str s,.int .i64
 n_2,.int .i64 n_3,.int .i64 n_4,.int .i64 n_5,.int .i64 n_6,.sl (2:Nat) false ([]++xs_1),.int .i64 v_5,.int .i64 (max (0:Int) (min (52595999:Int) (near+v)))]]=y.snd.snd∧True else False else False else False else False else False else False else (SrcQ xs j∧((5:Nat)=5∧(1:Nat)≤(5:Nat)∧(5:Nat)≤(1000:Nat))∧IntsB [[AV.int .i64 (0:Int)],[AV.int .i64 (0:Int)],[AV.int .i64 (0:Int)],[AV.int .i64
 (1:Int)],[AV.int .i64 (2:Int)]])∧∀ (v_3 j:Int),PickQ [[AV.int .i64 (0:Int)],[AV.int .i64 (0:Int)],[AV.int .i64 (0:Int)],[AV.int .i64 (1:Int)],[AV.int .i64 (2:Int)]] (AV.int .i64 v_3) j→bif decide (List.length x.snd.snd=List.length x.snd.snd∧List.length x.snd.snd+[[AV.int .i64 k,.str nm,.int .i64 (max (0:Int) (min (52595999:Int) (near+(10:Int)*v_1))),.int .i64 f,.int .i64 a,.int .i64 b,.int
 .i64 c,.sl (2:Nat) false ys,.int .i64 v_3,.int .i64 (max (0:Int) (min (52595999:Int) (near+v)))]].length≤(9223372036854775807:Nat)∧(List.length x.snd.snd+[[AV.int .i64 k,.str nm,.int .i64 (max (0:Int) (min (52595999:Int) (near+(10:Int)*v_1))),.int .i64 f,.int .i64 a,.int .i64 b,.int .i64 c,.sl (2:Nat) false ys,.int .i64 v_3,.int .i64 (max (0:Int) (min (52595999:Int) (near+v)))]].length)
*(104:Nat)≤(140737488355328:Nat)) then bif decide (rng .i64 (x.fst - (1:Int))) then ∃ y,ItwP n near y∧(itwI xs near n).m y < (itwI xs near n).m x∧((0:Nat)=0∧near=near∧(x.snd.snd++[[AV.int .i64 k,.str nm,.int .i64 (max (0:Int) (min (52595999:Int) (near+(10:Int)*v_1))),.int .i64 f,.int .i64 a,.int .i64 b,.int .i64 c,.sl (2:Nat) false ys,.int .i64 v_3,.int .i64 (max (0:Int) (min
 (52595999:Int) (near+v)))]]).length=List.length y.snd.snd∧x.fst - (1:Int)=y.fst∧True)∧((True∧xs=xs)∧j=y.snd.fst∧True)∧x.snd.snd++[[AV.int .i64 k,.str nm,.int .i64 (max (0:Int) (min (52595999:Int) (near+(10:Int)*v_1))),.int .i64 f,.int .i64 a,.int .i64 b,.int .i64 c,.sl (2:Nat) false ys,.int .i64 v_3,.int .i64 (max (0:Int) (min (52595999:Int) (near+v)))]]=y.snd.snd∧True else False else
 False else (SrcQ xs j∧((5:Nat)=5∧(1:Nat)≤(5:Nat)∧(5:Nat)≤(1000:Nat))∧IntsB [[AV.int .i64 (0:Int)],[AV.int .i64 (0:Int)],[AV.int .i64 (0:Int)],[AV.int .i64 (1:Int)],[AV.int .i64 (2:Int)]])∧∀ (v_2 j:Int),PickQ [[AV.int .i64 (0:Int)],[AV.int .i64 (0:Int)],[AV.int .i64 (0:Int)],[AV.int .i64 (1:Int)],[AV.int .i64 (2:Int)]] (AV.int .i64 v_2) j→bif decide (List.length x.snd.snd=List.length
 x.snd.snd∧List.length x.snd.snd+[[AV.int .i64 k,.str nm,.int .i64 (max (0:Int) (min (52595999:Int) (near+(10:Int)*v_1))),.int .i64 f,.int .i64 a,.int .i64 b,.int .i64 c,.sl (2:Nat) false ys,.int .i64 v_2,.int .i64 (max (0:Int) (min (52595999:Int) (near+v)))]].length≤(9223372036854775807:Nat)∧(List.length x.snd.snd+[[AV.int .i64 k,.str nm,.int .i64 (max (0:Int) (min (52595999:Int) (near
+(10:Int)*v_1))),.int .i64 f,.int .i64 a,.int .i64 b,.int .i64 c,.sl (2:Nat) false ys,.int .i64 v_2,.int .i64 (max (0:Int) (min (52595999:Int) (near+v)))]].length)*(104:Nat)≤(140737488355328:Nat)) then bif decide (rng .i64 (x.fst - (1:Int))) then ∃ y,ItwP n near y∧(itwI xs near n).m y < (itwI xs near n).m x∧((0:Nat)=0∧near=near∧(x.snd.snd++[[AV.int .i64 k,.str nm,.int .i64 (max (0:Int)
 (min (52595999:Int) (near+(10:Int)*v_1))),.int .i64 f,.int .i64 a,.int .i64 b,.int .i64 c,.sl (2:Nat) false ys,.int .i64 v_2,.int .i64 (max (0:Int) (min (52595999:Int) (near+v)))]]).length=List.length y.snd.snd∧x.fst - (1:Int)=y.fst∧True)∧((True∧xs=xs)∧j=y.snd.fst∧True)∧x.snd.snd++[[AV.int .i64 k,.str nm,.int .i64 (max (0:Int) (min (52595999:Int) (near+(10:Int)*v_1))),.int .i64 f,.int
 .i64 a,.int .i64 b,.int .i64 c,.sl (2:Nat) false ys,.int .i64 v_2,.int .i64 (max (0:Int) (min (52595999:Int) (near+v)))]]=y.snd.snd∧True else False else False else False else False else False else bif decide (List.length x.snd.snd=List.length x.snd.snd) then ∃ os j,ItwQ n near os j∧(True∧x.snd.snd=os)∧((True∧xs=xs)∧x.snd.fst=j∧True)∧True else False else False
set_option maxRecDepth 100000 in
theorem qitemsW_P:qitemsW_T iL inLo inHi inD inE:=by
  unfold qitemsW_T
  intro gl xs i n near ⟨hs,hr,hn⟩
  have s:=hs.s
  have i5:IntsB [[.int .i64 0],[.int .i64 0],[.int .i64 0],[.int .i64 1],[.int .i64 2]]:=ints_of [0,0,0,1,2] fun n hn=>by
    simp only [List.mem_cons,List.not_mem_nil,or_false] at hn
    show _∧_
    omega
  refine cdI (by omega) ⟨hs,fun v j q=>⟨⟨(v,j,[]),⟨by have:=q.fv (by omega); simp; omega,q.fj,by simp,by simp; omega⟩,⟨rfl,rfl,rfl,rfl,trivial⟩,⟨⟨trivial,rfl⟩,rfl,trivial⟩,rfl,trivial⟩,?_⟩⟩
  rintro ⟨i,q,os⟩ ⟨fi,fj,fr,fn⟩
  simp only at fi fj fr fn
  dsimp only
  have fin:∀ (r:List AV) (j:Int),ItW near r→0≤j→0 < i→cond (decide (os.length=os.length∧os.length+[r].length≤9223372036854775807∧(os.length+[r].length)*104≤140737488355328)) (cond (decide (rng .i64 (i - 1))) (∃ y:Int × Int × LLA,ItwP n near y∧(itwI xs near n).m y < (itwI xs near n).m (i,q,os)∧((0:Nat)=0∧near=near∧(os++[r]).length=y.2.2.length∧i - 1=y.1∧True)∧((True∧xs=xs)∧j=y.2.1∧True)∧os++[r]=y.2.2∧True) False) False:=fun r j hv hj hi =>
    cd1 ⟨rfl,by simp only [List.length_singleton]; omega,by simp only [List.length_singleton]; omega⟩ (cdI (by omega) ⟨(i - 1,j,os++[r]),⟨by simp only [List.length_append,List.length_singleton]; omega,hj,fun x hx=>by
      rcases List.mem_append.1 hx with h | h
      · exact fr x h
      · rw [List.mem_singleton.1 h]; exact hv,by simp only [List.length_append,List.length_singleton]; omega⟩,by simp only [itwI]; omega,⟨rfl,rfl,rfl,rfl,trivial⟩,⟨⟨trivial,rfl⟩,rfl,trivial⟩,rfl,trivial⟩)
  have pk:∀ {k:Int} {nm:ByteArray} {t f a b c:Int} {ys:LLA} {v w j:Int},RepQ k nm t f a b c ys 0→(near - 200≤t∧t≤near+200)→w≤near+300→PickQ [[.int .i64 0],[.int .i64 0],[.int .i64 0],[.int .i64 1],[.int .i64 2]] (.int .i64 v) j→ItW near (itA k nm t f a b c ys v (max 0 (min 52595999 w))):=fun h ht hw q=>by
    have:=pick_of [0,0,0,1,2] q
    simp only [List.mem_cons,List.not_mem_nil,or_false] at this
    exact ⟨_,_,_,_,_,_,_,_,_,_,rfl,h,by omega,by omega,ht,by omega⟩
  refine csx (fun hi=>?_) (fun hi=>cd1 rfl ⟨os,q,⟨fr,fn,fj⟩,⟨trivial,rfl⟩,sT⟩)
  refine ⟨⟨⟨s,fj⟩,hr⟩,fun k nm t f a b c ys j q1=>⟨⟨⟨s,q1.fj⟩,by decide,by decide,by decide⟩,fun w j q2=>cdI (by omega) ⟨⟨⟨s,q2.2⟩,by decide,by decide,by decide⟩,fun w2 j q3=>cdI (by omega) (cdI (by omega) ?_)⟩⟩⟩
  have hq:RepQ k nm (max 0 (min 52595999 (near+10*w2))) f a b c ys 0:=⟨q1.fk,q1.fn,by omega,q1.fl,q1.fp,q1.fr,by decide⟩
  have ht:near - 200≤max 0 (min 52595999 (near+10*w2))∧max 0 (min 52595999 (near+10*w2))≤near+200:=by have:=q3.1; omega
  have hw:near+w≤near+300:=by have:=q2.1; omega
  refine csx (fun h0=>⟨⟨s,q3.2⟩,fun v2 j q4=>csx (fun h1=>⟨⟨s,q4.fj⟩,fun v3 j q5=>?_⟩) (fun _=>⟨⟨⟨s,q4.fj⟩,⟨rfl,by decide,by decide⟩,i5⟩,fun v j p=>fin _ j (pk hq ht hw p) p.fj hi⟩)⟩) (fun _=>⟨⟨⟨s,q3.2⟩,⟨rfl,by decide,by decide⟩,i5⟩,fun v j p=>fin _ j (pk hq ht hw p) p.fj hi⟩)
  have h5:=q5.fv (by omega)
  have hm:os.getD v3.toNat [] ∈ os:=by rw [getD_lt (by omega)]; exact List.getElem_mem _
  obtain ⟨k2,nm2,t2,f2,a2,b2,c2,ys2,co2,ar2,e,r2,_,_,ht2,_⟩:=(fr _ hm).fr
  have hy:=r2.fr.flen
  refine cd1 (by omega) (cd1 ⟨rfl,by omega⟩ ⟨k2,nm2,t2,f2,a2,b2,c2,ys2,by rw [e]; rfl,cd1 ⟨rfl,by omega,by omega⟩ ⟨⟨s,q5.fj⟩,fun v4 j q6=>?_⟩⟩)
  refine csx (fun _=>⟨⟨s,q6.fj⟩,fun ys j q7=>⟨⟨⟨s,q7.fj⟩,⟨rfl,by decide,by decide⟩,i5⟩,fun v j p=>fin _ j (pk ⟨r2.fk,r2.fn,r2.ft,r2.fl,r2.fp,q7.fr,by decide⟩ ht2 hw p) p.fj hi⟩⟩) (fun _=>csx (fun _=>csx (fun h2=>⟨⟨s,q6.fj⟩,fun v5 j q7=>?_⟩) (fun _=>⟨⟨⟨s,q6.fj⟩,⟨rfl,by decide,by decide⟩,i5⟩,fun v j p=>cd1 rfl (fin _ j (pk r2 ht2 hw p) p.fj hi)⟩)) (fun _=>csx (fun _=>csx (fun h3=>⟨⟨s,q6.fj⟩,fun f a b c j q7=>⟨⟨⟨s,q7.fj⟩,⟨rfl,by decide,by decide⟩,i5⟩,fun v j p=>cd1 rfl (fin _ j (pk ⟨r2.fk,r2.fn,r2.ft,fun e=>absurd e h3,fun _=>⟨q7.fv,q7.fn⟩,r2.fr,by decide⟩ ht2 hw p) p.fj hi)⟩⟩) (fun _=>⟨⟨⟨s,q6.fj⟩,⟨rfl,by decide,by decide⟩,i5⟩,fun v j p=>cd1 rfl (fin _ j (pk r2 ht2 hw p) p.fj hi)⟩)) (fun _=>⟨⟨⟨s,q6.fj⟩,⟨rfl,by decide,by decide⟩,i5⟩,fun v j p=>cd1 rfl (fin _ j (pk r2 ht2 hw p) p.fj hi)⟩)))
  rw [List.nil_append] at *
  have h7:=q7.fv (by omega)
  obtain ⟨e7,w7,g1,g2,g3⟩:=r2.fr.frow v5.toNat (by omega)
  refine cd1 (by omega) (cd1 ⟨rfl,by omega⟩ ⟨e7,by rw [g1]; rfl,⟨⟨s,q7.fj⟩,g2.1,by omega⟩,fun w8 j q8=>cd1 (by omega) (cd1 ⟨rfl,by omega⟩ ⟨⟨⟨s,q8.fj⟩,⟨rfl,by decide,by decide⟩,i5⟩,fun v j p=>cd1 (by simp [setEl]) (fin _ j (pk ⟨r2.fk,r2.fn,r2.ft,r2.fl,r2.fp,rdV_set r2.fr (by omega) g1 q8.fv,by decide⟩ ht2 hw p) p.fj hi)⟩)⟩)
def qitemsW_S (iL:Int→ByteArray) (inLo:Int→Int) (inHi:Int→Int) (inD:Int→Int) (inE:Int→Int):Prop:=∀ (gl:Glob) (xs:List (List AV)) (i n near:Int),SrcQ xs i∧(0≤near∧near≤52595999)∧0≤n∧n≤100→fnQ Tryd.prog { glob:=gl,spec:=lk [],specH:=lk [],specQ:=lk [(13,qn_s),(15,qreport_s),(16,qrange_s),(34,qlist_s),(35,(qsome_s iL inLo inHi inD inE)),(36,qplace_s),(32,qpick_s)],shape:=[54,95],slz:=[(54,[2])],nowf:=true } { nt:=116,drop:=drp [(2,61440),(3,65536),(4,786432),(5,1072693248),(6,548682072064),(7,69818988363776),(8,35888059530608640),(9,108086391056891904),(10,9079256848778919936),(11,9223372036854775808),(12,73786976294838206464),(13,2213609288845146193920),(14,4722366482869645213696),(15,141670994486089356410880),(16,19040581658930409501622272),(17,316893307243943516307380502528),(18,633825300114114700748351602688),(19,3802951800684688204490109616128),(20,152118072027387528179604384645120),(21,2433889152438200450873670154321920),(22,38942226439011207213978722469150720),(23,41538374868278621028243970633760768)],fr:=1000,kp:=[0],frz:=fun id=>cond (Nat.beq id 21) [1001057] [],emp:=fun id=>cond (Nat.beq id 2) [(7,1701,50,10)] [] } (invs [(3,itwI xs near n)]) 6 Tryd.f11 [.ptr 0 0,.int .i64 n,.int .i64 near] [.cells [.sl 1 false xs,.int .i64 i]] (fun r2 bs2=>∃ (os:List (List AV)) (j:Int),(ItwQ n near os j)∧le r2 (.sl 10 false os)∧leBs bs2 [.cells [.sl 1 false xs,.int .i64 j]])
set_option maxRecDepth 100000 in
theorem qitemsW_e (iL:Int→ByteArray) (inLo:Int→Int) (inHi:Int→Int) (inD:Int→Int) (inE:Int→Int):qitemsW_T iL inLo inHi inD inE=qitemsW_S iL inLo inHi inD inE:=by kernel_rfl
theorem qitemsW_v:qitemsW_S iL inLo inHi inD inE:=@Eq.mp (qitemsW_T iL inLo inHi inD inE) (qitemsW_S iL inLo inHi inD inE) (qitemsW_e iL inLo inHi inD inE) (qitemsW_P)
theorem qitemsW_ok (gl:Glob):QOK Tryd.prog gl 11 qitemsW_s:=by
  refine ⟨fok Tryd.func11 (by kernel_rfl) (by kernel_rfl),?_⟩
  intro xs bs T h K hT
  unfold qitemsW_s at h
  split at h
  · simp only [Option.some.injEq] at h
    subst h
    obtain ⟨hp,hK⟩:=hT
    obtain ⟨r,bs2,⟨o0,o1,hq,hl,hb⟩,hC⟩:=fnQ_sound tyNil (by exact specOK rfl rfl trivial trivial (d:=qsOf rfl ⟨(qn_ok gl),(qreport_ok gl),(qrange_ok gl),(qlist_ok gl),(qsome_ok gl),(qplace_ok gl),(qpick_ok gl),trivial⟩)) (by kernel_rfl) Tryd.func11 (qitemsW_v gl _ _ _ _ hp)
    exact ⟨_,_,hK o0 o1 hq,hC.le hl hb⟩
  · cases h
end Go.Proofs.YtgnnafneglannaaDoor
namespace Go.Proofs.YtgnnafneglannaaDoor
open Go
set_option linter.unusedVariables false
set_option linter.unusedSimpArgs false
theorem rdsF_mem {l:LLA} {r:List AV}:r ∈ rdsF l↔∃ y ∈ l,r ∈ itRd y:=by
  unfold rdsF
  rw [List.mem_flatten]
  constructor
  · rintro ⟨z,hz,hr⟩
    obtain ⟨y,hy,rfl⟩:=List.mem_map.1 hz
    exact ⟨y,hy,hr⟩
  · rintro ⟨y,hy,hr⟩
    exact ⟨_,List.mem_map.2 ⟨y,hy,rfl⟩,hr⟩
theorem rdsF_le:∀ {l:LLA},(∀ y ∈ l,(itRd y).length≤1000)→(rdsF l).length≤1000*l.length
  | [],_=>by simp [rdsF]
  | x::l,h=>by
    have ih:=rdsF_le (l:=l) fun y hy=>h y (by simp [hy])
    have h0:=h x (by simp)
    have e:rdsF (x::l)=itRd x++rdsF l:=by unfold rdsF; simp
    rw [e,List.length_append,List.length_cons]
    omega
theorem gd_rd {B:LLA} (h:GdL B) {y:List AV} (hy:y ∈ B):(∀ r ∈ itRd y,∃ e v:Int,r=[.int .i64 e,.int .i64 v]∧rng .i64 v)∧(itRd y).length≤1000:=by
  obtain ⟨k,nm,t,f,a,b,c,rd,co,ar,rfl,h1,h2⟩:=(h.fg y hy).fr
  refine ⟨fun r hr=>?_,h2⟩
  have hr:r ∈ rd:=hr
  obtain ⟨i,hi,rfl⟩:=List.mem_iff_getElem.1 hr
  obtain ⟨e,v,h3,_,h4⟩:=h1.row i hi
  rw [getD_lt hi] at h3
  exact ⟨e,v,h3,h4⟩
theorem w_ok {B l rd:LLA} {t:Nat} (hB:GdL B) (hl:l.length≤150) (hs:∀ y ∈ l,y ∈ B) (hr:∀ r ∈ rd,∃ e v:Int,r=[.int .i64 e,.int .i64 v]∧rng .i64 v) (hrl:rd.length≤1000) (c:Int):IntsB (vl (rdsF l++rd.take t) c)∧(vl (rdsF l++rd.take t) c).length≤1000000:=by
  have hrow:∀ r ∈ rdsF l++rd.take t,∃ e v:Int,r=[.int .i64 e,.int .i64 v]∧rng .i64 v:=fun r h=>by
    rcases List.mem_append.1 h with h | h
    · obtain ⟨y,hy,h⟩:=rdsF_mem.1 h
      exact (gd_rd hB (hs y hy)).1 r h
    · exact hr r (List.mem_of_mem_take h)
  have hlen:(rdsF l++rd.take t).length≤1000000:=by
    have:=rdsF_le (l:=l) fun y hy=>(gd_rd hB (hs y hy)).2
    rw [List.length_append,List.length_take]
    omega
  generalize rdsF l++rd.take t=W at *
  have hc:(cvs W c).length≤W.length:=by unfold cvs; rw [List.length_map]; exact List.length_filter_le _ _
  obtain ⟨d1,d2⟩:=dd_rows (l:=cvs W c) fun v hv=>by
    unfold cvs at hv
    obtain ⟨r,hr,rfl⟩:=List.mem_map.1 hv
    obtain ⟨e,v,rfl,h⟩:=hrow r (List.mem_filter.1 hr).1
    exact h
  exact ⟨d1,by unfold vl; omega⟩
def mky (k:Int) (nm:ByteArray) (t:Int):List Int:=itKy [.int .i64 k,.str nm,.int .i64 t]
def vsT (l:LLA) (q:List Int) (best:Int):LLA:=l.filter fun y=>decide (itKy y=q)&&decide (itCo y=best)
theorem vsT_pos {l:LLA} {x:List AV} {q:List Int} {best:Int} (h:itKy x=q∧itCo x=best):vsT (l++[x]) q best=vsT l q best++[x]:=by
  unfold vsT; rw [List.filter_append,List.filter_cons_of_pos (by simp [h])]; rfl
theorem vsT_neg {l:LLA} {x:List AV} {q:List Int} {best:Int} (h:¬ (itKy x=q∧itCo x=best)):vsT (l++[x]) q best=vsT l q best:=by
  unfold vsT; rw [List.filter_append,List.filter_cons_of_neg (by simpa using h)]; simp
theorem vsT_sub {l:LLA} {q:List Int} {best:Int}:(∀ y ∈ vsT l q best,y ∈ l)∧(vsT l q best).length≤l.length:=⟨fun y hy=>(List.mem_filter.1 hy).1,List.length_filter_le _ _⟩
structure BWin (B:LLA) (fr to cut:Int):Prop where
  ok:OkL B
  gd:GdL B
  fw:∀ x ∈ B,cntd fr to cut x=true
structure GrpP (B g:LLA):Prop where
  fm:MgP g
  fe:g=vsT B (hdK g) (max 0 (bsF B (hdK g)))
  fk:mky (gK g) (gN g) (gT g)=hdK g
theorem grp_at {B:LLA} {fr to cut:Int} (h:BWin B fr to cut) (hft:fr≤to):mrE B fr to=0∧MgL (mrO B fr to cut)∧(mrO B fr to cut).length≤200∧∀ i:Nat,i < (mrO B fr to cut).length→∃ g,GrpP B g∧(mrO B fr to cut).getD i []=mgRow g:=by
  have e1:mrE B fr to=0:=by unfold mrE; rw [if_pos h.ok.fv,if_neg (by omega)]
  have eO:mrO B fr to cut=(grF (mrF B fr to cut)).map mgRow:=by unfold mrO; rw [if_pos e1]
  have eF:mrF B fr to cut=B:=List.filter_eq_self.2 h.fw
  have hmg:=mr_mgl (fr:=fr) (to:=to) (cut:=cut) h.ok
  have hlen:(mrO B fr to cut).length≤200:=by
    rw [eO,List.length_map]
    have:=grF_len (mrF B fr to cut)
    have:=(mrF_sub (l:=B) (fr:=fr) (to:=to) (cut:=cut)).2
    have:=(inV_ok h.ok.fv).1
    omega
  refine ⟨e1,by rw [eO]; exact hmg,hlen,fun i hi=>?_⟩
  rw [eO,List.length_map] at hi
  have hg:=List.getElem_mem hi
  have hat:(mrO B fr to cut).getD i []=mgRow (grF (mrF B fr to cut))[i]:=by rw [eO,getD_lt (by rw [List.length_map]; exact hi),List.getElem_map]
  generalize (grF (mrF B fr to cut))[i]=g at hg hat
  have hm:=gr_mgp h.ok hg
  have ho:=mrF_ord (fr:=fr) (to:=to) (cut:=cut) h.ok
  obtain ⟨g1,g2⟩:=(grF_ok ho.1 ho.2).fg _ hg
  rw [eF] at g2
  refine ⟨g,⟨hm,?_,(mg_ky hm).1⟩,hat⟩
  · clear hat hg hm
    have hb:0≤bsF B (hdK g):=by
      cases g with
      | nil=>exact absurd rfl g1
      | cons y g =>
        have hy:y ∈ vsF B (hdK (y::g)):=by rw [← g2]; simp
        obtain ⟨y1,_,y3⟩:=vsF_mem hy
        obtain ⟨k,nm,t,f,a,b,c,rd,co,ar,e,_,_,h0⟩:=h.ok.row y1
        rw [← y3,e]; exact h0
    rw [show max 0 (bsF B (hdK g))=bsF B (hdK g) by omega]
    exact g2
theorem gC_ints {G:LLA}:IntsB (gC G)∧Ln (gC G):=⟨⟨fun x hx=>by
  obtain ⟨k,hk,e⟩:=ctN_mem 12 x hx
  exact ⟨_,e,by show _∧_; omega⟩⟩,⟨by have:=gC_len G; omega⟩⟩
theorem pl_in {G:LLA} {y:List AV} (hy:y ∈ G) (hs:∀ z ∈ G,∃ f a b c:Int,itPl z=[f,a,b,c]) (h:inI (gC G) 0=false):itPl y=[gQ G 0,gQ G 1,gQ G 2,gQ G 3]:=by
  have hb:=gC_in (G:=G) (c:=0) (by decide)
  have hb:inI (gC G) 0=badC G 0:=hb
  rw [h] at hb
  have hb:plF G (itPl (G.headD []))=false:=hb.symm
  have hp:itPl y=itPl (G.headD []):=by
    unfold plF at hb
    have:=List.any_eq_false.1 hb y hy
    simpa using this
  obtain ⟨f,a,b,c,e⟩:=hs y hy
  unfold gQ
  rw [hb,← hp,e]
  rfl
theorem bn_t {b:Bool} (h:(!b)=true):b=false:=by simpa using h
theorem bn_f {b:Bool} (h:(!b)=false):b=true:=by simpa using h
theorem lnX {n:Nat} (h:n≤1000000) (x:List AV):n+[x].length≤9223372036854775807∧(n+[x].length)*8≤140737488355328:=by
  rw [List.length_singleton]; omega
theorem el_use {V rd cs:LLA} {k:Int} {A:Prop} (h:ElP V rd cs k) (hr:RdsP rd) (hc:IntsB cs∧Ln cs) (hA:A):RdsP rd∧cond (!decide (fdB rd k=decide (((vl V k).length:Int)=1))) (false=true) (cond (fdB rd k) (cond (decide ((0:Int)≤0∧(0:Int) < ((vl V k).length:Int))) (cond (decide ((vl V k).length=(vl V k).length∧0 < (vl V k).length)) (∃ n_7:Int,List.take [AV.int .i64 n_7].length (List.drop 0 ((vl V k).getD 0 []))=[.int .i64 n_7]∧cond (decide (¬ fdV rd k=n_7)) (false=true) ((IntsB cs∧Ln cs)∧cond (!decide (inI cs k=decide ((1:Int) < ((vl V k).length:Int)))) (false=true) A)) False) False) ((IntsB cs∧Ln cs)∧cond (!decide (inI cs k=decide ((1:Int) < ((vl V k).length:Int)))) (false=true) A)):=by
  have e1:fdB rd k=decide (((vl V k).length:Int)=1):=by rw [h.f1]; exact decide_eq_decide.2 ⟨fun q=>by omega,fun q=>by omega⟩
  have e3:inI cs k=decide ((1:Int) < ((vl V k).length:Int)):=by rw [h.f3]; exact decide_eq_decide.2 ⟨fun q=>by omega,fun q=>by omega⟩
  refine ⟨hr,?_⟩
  rw [decide_eq_true e1,decide_eq_true e3]
  show cond (fdB rd k) _ _
  refine csplit (fun hb=>?_) (fun hb=>⟨hc,hA⟩)
  obtain ⟨v,h1,h2⟩:=h.f2 hb
  rw [h1]
  exact cd1 ⟨by decide,by simp⟩ (cd1 ⟨rfl,by simp⟩ ⟨v,rfl,csx (fun w=>absurd h2 w) (fun _=>⟨hc,hA⟩)⟩)
theorem ibO_mem:∀ (l:LLA) (x:List AV),x ∈ ibO l→x ∈ l :=
  snoc_ind (fun x h=>by simp [ibO] at h) fun l y ih x h=>by
    rw [ibO_snoc] at h
    unfold ibS at h
    split at h
    · next e =>
      unfold adO at h
      rw [if_pos e] at h
      unfold addI at h
      split at h
      · exact List.mem_append_left _ (ih x h)
      · rcases ins_mem.1 h with rfl | q
        · simp
        · exact List.mem_append_left _ (ih x q)
    · exact List.mem_append_left _ (ih x h)
theorem itw_gd {n near:Int} {os:LLA} {j:Int} (h:ItwQ n near os j) (hn:n≤100):GdL os:=⟨fun r hr=>by
  obtain ⟨k,nm,t,f,a,b,c,ys,co,ar,h1,h2,_⟩:=(h.fr r hr).fr
  exact ⟨k,nm,t,f,a,b,c,ys,co,ar,h1,rdv_rds h2.fr,by have:=h2.fr.flen; omega⟩,by have:=h.fl; omega⟩
theorem bw_of {near n:Int} {os:LLA} {j:Int} (h:ItwQ n near os j) (hn:n≤100):BWin (ibO os) (near - 200) (near+200) (near+400):=by
  have hib:=ibO_ok os (itw_gd h hn).fg
  refine ⟨⟨hib.fg.p,hib.fv⟩,hib.fg,fun x hx=>?_⟩
  obtain ⟨k,nm,t,f,a,b,c,ys,co,ar,rfl,_,_,_,h4,h5⟩:=(h.fr x (ibO_mem os x hx)).fr
  unfold cntd
  rw [decide_eq_true (show itAr (itA k nm t f a b c ys co ar)≤near+400 from h5),decide_eq_true (show near - 200≤itTm (itA k nm t f a b c ys co ar) from h4.1),decide_eq_true (show itTm (itA k nm t f a b c ys co ar)≤near+200 from h4.2)]
  rfl
end Go.Proofs.YtgnnafneglannaaDoor
namespace Go.Proofs.YtgnnafneglannaaDoor
open Go
set_option linter.unusedVariables false
set_option linter.unusedSimpArgs false
theorem srt_adj {l:LLA} (h:Srt l):adjB l=true:=by
  unfold adjB
  refine decide_eq_true fun j hj=>?_
  by_cases h0:j=0
  · exact .inl h0
  · refine .inr ?_
    rw [getD_lt hj,getD_lt (by omega)]
    exact List.pairwise_iff_getElem.1 h (j - 1) j (by omega) hj (by omega)
theorem inV_fil {l:LLA} (P:List AV→Bool) (h:inV l=0):inV (l.filter P)=0:=by
  obtain ⟨h1,h2,h3⟩:=inV_ok h
  have hl:=List.length_filter_le P l
  unfold inV
  rw [if_neg (by omega),if_pos (firE_zero fun j hj=>?_),if_pos (srt_adj (List.Pairwise.filter _ h3))]
  rw [getD_lt hj]
  exact firE_all h2 _ (List.mem_filter.1 (List.getElem_mem hj)).1
theorem ItsP.fil {l:LLA} (P:List AV→Bool) (h:ItsP l):ItsP (l.filter P):=⟨fun i hi=>by
  rw [getD_lt hi]
  obtain ⟨j,hj,e⟩:=List.mem_iff_getElem.1 (List.mem_filter.1 (List.getElem_mem hi)).1
  have:=h.fr j hj
  rw [getD_lt hj,e] at this
  exact this,by have:=h.fl; have:=List.length_filter_le P l; omega⟩
theorem OkL.fil {l:LLA} (P:List AV→Bool) (h:OkL l):OkL (l.filter P):=⟨h.fp.fil P,inV_fil P h.fv⟩
theorem ky3 {k k2 t t2:Int} {nm nm2:ByteArray} {u v:List AV}:itKy (.int .i64 k::.str nm::.int .i64 t::u)=itKy (.int .i64 k2::.str nm2::.int .i64 t2::v)↔k=k2∧nm=nm2∧t=t2:=by
  constructor
  · intro h
    simp only [itKy,List.cons.injEq] at h
    obtain ⟨h1,h2⟩:=h
    obtain ⟨h3,h4⟩:=nmK_inj h2
    simp only [List.cons.injEq,and_true] at h4
    exact ⟨h1,str_inj h3,h4⟩
  · rintro ⟨rfl,rfl,rfl⟩; rfl
end Go.Proofs.YtgnnafneglannaaDoor
namespace Go.Proofs.YtgnnafneglannaaDoor
open Go
set_option linter.unusedVariables false
set_option linter.unusedSimpArgs false
end Go.Proofs.YtgnnafneglannaaDoor
namespace Go.Proofs.YtgnnafneglannaaDoor
open Go
set_option linter.unusedVariables false
set_option linter.unusedSimpArgs false
abbrev U9 (L:LInv) (a b:L.X):Prop:=L.m a < L.m b
abbrev P9 (f:LLA→Int→Int→Int→LLA) (i:LLA→LLA) (os:LLA) (m:Int):LLA:=f (i os) (m - 200) (m+200) (m+400)
abbrev M9 (B P:LLA) (x:Int) (R:Prop):Prop:=(True∧B=B)∧(True∧P=P)∧(P.length:Int)=(P.length:Int)∧x=x∧(0:Nat)=0∧R
abbrev N9 (B:LLA) (R:Prop):Prop:=(True∧B=B)∧(B.length:Int)=(B.length:Int)∧R
abbrev X9 (n:Int) (s:ByteArray) (n1 n2 n3 n4 n5:Int) (xs:LLA) (n6:Int) (ys:LLA):Prop:=n=n∧s=s∧n1=n1∧n2=n2∧n3=n3∧n4=n4∧n5=n5∧(True∧xs=xs)∧n6=n6∧(True∧ys=ys)∧True
abbrev Y9 (n:Int) (s:ByteArray) (n1 n2 n3 n4 n5:Int) (xs:LLA) (n6 n7:Int):Prop:=n=n∧s=s∧n1=n1∧n2=n2∧n3=n3∧n4=n4∧n5=n5∧(True∧xs=xs)∧n6=n6∧n7=n7∧True
abbrev q9 (V W:LLA) (k:Int):Prop:=List.length (vl V k)=List.length (vl W k)
abbrev r9 (V W:LLA) (k:Int):Prop:=vl V k=vl W k
abbrev L9 (V W:LLA):Prop:=q9 V W 0∧q9 V W 1∧q9 V W 2∧q9 V W 3∧q9 V W 4∧q9 V W 5∧q9 V W 6∧q9 V W 7∧q9 V W 8∧q9 V W 9∧q9 V W 10∧q9 V W 11∧True
abbrev R9 (V W:LLA):Prop:=r9 V W 0∧r9 V W 1∧r9 V W 2∧r9 V W 3∧r9 V W 4∧r9 V W 5∧r9 V W 6∧r9 V W 7∧r9 V W 8∧r9 V W 9∧r9 V W 10∧r9 V W 11∧True
structure Me8 (P:LLA) (i:Int):Prop where
  fi:0≤i∧i≤P.length
structure Me12 (B:LLA) (k:Int) (nm:ByteArray) (t:Int) (x:Int × Int):Prop where
  fj:0≤x.1∧x.1≤B.length
  fb:x.2=max 0 (bsF (B.take x.1.toNat) (mky k nm t))
structure Me20 (B:LLA) (k:Int) (nm:ByteArray) (t best:Int) (x:Int × LLA × Int):Prop where
  fj:0≤x.1∧x.1≤B.length
  fv:x.2.1=rdsF (vsT (B.take x.1.toNat) (mky k nm t) best)
  fn:x.2.2=(vsT (B.take x.1.toNat) (mky k nm t) best).length
structure Me25 (B:LLA) (k:Int) (nm:ByteArray) (t best j:Int) (rd:LLA) (x:Int × LLA):Prop where
  fj:0≤x.1∧x.1≤rd.length
  fv:x.2=rdsF (vsT (B.take j.toNat) (mky k nm t) best)++rd.take x.1.toNat
structure Me27 (e0 e:Int):Prop where
  fe:e=e0
  fb:1≤e∧e≤11
structure Me34 (B:LLA) (k:Int) (nm:ByteArray) (t best:Int) (x:Int × LLA):Prop where
  fj:1≤x.1∧x.1≤12
  fv:x.2=rdsF (vsT B (mky k nm t) best)
def me8 (B P:LLA):LInv:=⟨Int,fun i=>⟨[(5,.sl 10 false B),(44,.sl 10 false P),(45,.int .i64 P.length),(46,.int .i64 i)],[]⟩,Me8 P,fun i=>(P.length - i).toNat,none⟩
def me12 (B P:LLA) (i:Int) (k:Int) (nm:ByteArray) (t f a b c:Int) (rd:LLA) (vs:Int) (cs:LLA):LInv:=⟨Int × Int,fun x=>⟨[(5,.sl 10 false B),(44,.sl 10 false P),(45,.int .i64 P.length),(46,.int .i64 i),(9,.ptr 9 0),(10,.int .i64 x.2),(50,.sl 10 false B),(51,.int .i64 B.length),(52,.int .i64 x.1)],[(9,.cells [.int .i64 k,.str nm,.int .i64 t,.int .i64 f,.int .i64 a,.int .i64 b,.int .i64 c,.sl 2 false rd,.int .i64 vs,.sl 1 false cs])]⟩,Me12 B k nm t,fun x=>(B.length - x.1).toNat,none⟩
def me20 (B P:LLA) (i:Int) (k:Int) (nm:ByteArray) (t f a b c:Int) (rd:LLA) (vs:Int) (cs:LLA) (best:Int):LInv:=⟨Int × LLA × Int,fun x=>⟨[(5,.sl 10 false B),(44,.sl 10 false P),(45,.int .i64 P.length),(46,.int .i64 i),(9,.ptr 9 0),(10,.int .i64 best),(13,.int .i64 x.2.2),(14,.ptr 14 0),(86,.sl 10 false B),(87,.int .i64 B.length),(88,.int .i64 x.1)],[(9,.cells [.int .i64 k,.str nm,.int .i64 t,.int .i64 f,.int .i64 a,.int .i64 b,.int .i64 c,.sl 2 false rd,.int .i64 vs,.sl 1 false cs]),(14,.cells [.rw 900 1 (vl x.2.1 0).length,.rw 901 1 (vl x.2.1 1).length,.rw 902 1 (vl x.2.1 2).length,.rw 903 1 (vl x.2.1 3).length,.rw 904 1 (vl x.2.1 4).length,.rw 905 1 (vl x.2.1 5).length,.rw 906 1 (vl x.2.1 6).length,.rw 907 1 (vl x.2.1 7).length,.rw 908 1 (vl x.2.1 8).length,.rw 909 1 (vl x.2.1 9).length,.rw 910 1 (vl x.2.1 10).length,.rw 911 1 (vl x.2.1 11).length]),(900,.row 3 1 (vl x.2.1 0)),(901,.row 3 1 (vl x.2.1 1)),(902,.row 3 1 (vl x.2.1 2)),(903,.row 3 1 (vl x.2.1 3)),(904,.row 3 1 (vl x.2.1 4)),(905,.row 3 1 (vl x.2.1 5)),(906,.row 3 1 (vl x.2.1 6)),(907,.row 3 1 (vl x.2.1 7)),(908,.row 3 1 (vl x.2.1 8)),(909,.row 3 1 (vl x.2.1 9)),(910,.row 3 1 (vl x.2.1 10)),(911,.row 3 1 (vl x.2.1 11))]⟩,Me20 B k nm t best,fun x=>(B.length - x.1).toNat,none⟩
def me25 (B P:LLA) (i:Int) (k:Int) (nm:ByteArray) (t f a b c:Int) (rd:LLA) (vs:Int) (cs:LLA) (best n j:Int) (y:List AV) (g:Bool) (rd2:LLA):LInv:=⟨Int × LLA,fun x=>⟨[(5,.sl 10 false B),(44,.sl 10 false P),(45,.int .i64 P.length),(46,.int .i64 i),(9,.ptr 9 0),(10,.int .i64 best),(13,.int .i64 n),(14,.ptr 14 0),(16,.ptr 16 0),(86,.sl 10 false B),(87,.int .i64 B.length),(88,.int .i64 j),(127,.sl 2 g rd2),(128,.int .i64 rd2.length),(129,.int .i64 x.1)],[(9,.cells [.int .i64 k,.str nm,.int .i64 t,.int .i64 f,.int .i64 a,.int .i64 b,.int .i64 c,.sl 2 false rd,.int .i64 vs,.sl 1 false cs]),(14,.cells [.rw 900 1 (vl x.2 0).length,.rw 901 1 (vl x.2 1).length,.rw 902 1 (vl x.2 2).length,.rw 903 1 (vl x.2 3).length,.rw 904 1 (vl x.2 4).length,.rw 905 1 (vl x.2 5).length,.rw 906 1 (vl x.2 6).length,.rw 907 1 (vl x.2 7).length,.rw 908 1 (vl x.2 8).length,.rw 909 1 (vl x.2 9).length,.rw 910 1 (vl x.2 10).length,.rw 911 1 (vl x.2 11).length]),(16,.cells y),(900,.row 3 1 (vl x.2 0)),(901,.row 3 1 (vl x.2 1)),(902,.row 3 1 (vl x.2 2)),(903,.row 3 1 (vl x.2 3)),(904,.row 3 1 (vl x.2 4)),(905,.row 3 1 (vl x.2 5)),(906,.row 3 1 (vl x.2 6)),(907,.row 3 1 (vl x.2 7)),(908,.row 3 1 (vl x.2 8)),(909,.row 3 1 (vl x.2 9)),(910,.row 3 1 (vl x.2 10)),(911,.row 3 1 (vl x.2 11))]⟩,Me25 B k nm t best j rd2,fun x=>(rd2.length - x.1).toNat,none⟩
def me27 (st:St) (rd:LLA) (t:Int):LInv:=⟨Int,fun e=>⟨ins st.tmps 18 (.ptr 18 0),ins st.heap 18 (.cells [.int .i64 e,.int .i64 (rV (rd.getD t.toNat []))])⟩,Me27 (rE (rd.getD t.toNat [])),fun _=>0,some [1,2,3,4,5,6,7,8,9,10,11]⟩
def me34 (B P:LLA) (i:Int) (k:Int) (nm:ByteArray) (t f a b c:Int) (rd:LLA) (vs:Int) (cs:LLA) (best n:Int):LInv:=⟨Int × LLA,fun x=>⟨[(5,.sl 10 false B),(44,.sl 10 false P),(45,.int .i64 P.length),(46,.int .i64 i),(9,.ptr 9 0),(13,.int .i64 n),(14,.ptr 14 0),(19,.int .i64 x.1)],[(9,.cells [.int .i64 k,.str nm,.int .i64 t,.int .i64 f,.int .i64 a,.int .i64 b,.int .i64 c,.sl 2 false rd,.int .i64 vs,.sl 1 false cs]),(14,.cells [.rw 900 1 (vl x.2 0).length,.rw 901 1 (vl x.2 1).length,.rw 902 1 (vl x.2 2).length,.rw 903 1 (vl x.2 3).length,.rw 904 1 (vl x.2 4).length,.rw 905 1 (vl x.2 5).length,.rw 906 1 (vl x.2 6).length,.rw 907 1 (vl x.2 7).length,.rw 908 1 (vl x.2 8).length,.rw 909 1 (vl x.2 9).length,.rw 910 1 (vl x.2 10).length,.rw 911 1 (vl x.2 11).length]),(900,.row 3 1 (vl x.2 0)),(901,.row 3 1 (vl x.2 1)),(902,.row 3 1 (vl x.2 2)),(903,.row 3 1 (vl x.2 3)),(904,.row 3 1 (vl x.2 4)),(905,.row 3 1 (vl x.2 5)),(906,.row 3 1 (vl x.2 6)),(907,.row 3 1 (vl x.2 7)),(908,.row 3 1 (vl x.2 8)),(909,.row 3 1 (vl x.2 9)),(910,.row 3 1 (vl x.2 10)),(911,.row 3 1 (vl x.2 11))]⟩,Me34 B k nm t best,fun x=>(12 - x.1).toNat,none⟩
def me36 (st:St) (c0:Int):LInv:=⟨Int,fun c=>⟨ins st.tmps 19 (.int .i64 c),st.heap⟩,Me27 c0,fun _=>0,some [1,2,3,4,5,6,7,8,9,10,11]⟩
def meJ (id:Nat) (st:St):Option LInv:=cond (Nat.beq id 8) (match lk st.tmps 5,lk st.tmps 6 with
  | some (.sl _ _ B),some (.sl _ _ P)=>some (me8 B P)
  | _,_=>none) (cond (Nat.beq id 100027) (match lk st.tmps 127,lk st.tmps 129 with
  | some (.sl _ _ rd2),some (.int _ q)=>some (me27 st rd2 q)
  | _,_=>none) (cond (Nat.beq id 100036) (match lk st.tmps 19 with
  | some (.int _ c)=>some (me36 st c)
  | _=>none) (match lk st.tmps 5,lk st.tmps 44,lk st.tmps 46,lk st.heap 9 with
  | some (.sl _ _ B),some (.sl _ _ P),some (.int _ i),some (.cells [.int _ k,.str nm,.int _ t,.int _ f,.int _ a,.int _ b,.int _ c,.sl _ _ rd,.int _ vs,.sl _ _ cs])=>cond (Nat.beq id 12) (some (me12 B P i k nm t f a b c rd vs cs)) (cond (Nat.beq id 20) (match lk st.tmps 10 with
    | some (.int _ best)=>some (me20 B P i k nm t f a b c rd vs cs best)
    | _=>none) (cond (Nat.beq id 25) (match lk st.tmps 10,lk st.tmps 13,lk st.tmps 88,lk st.heap 16,lk st.tmps 127 with
    | some (.int _ best),some (.int _ n),some (.int _ j),some (.cells y),some (.sl _ g rd2)=>some (me25 B P i k nm t f a b c rd vs cs best n j y g rd2)
    | _,_,_,_,_=>none) (cond (Nat.beq id 34) (match lk st.tmps 10,lk st.tmps 13 with
    | some (.int _ best),some (.int _ n)=>some (me34 B P i k nm t f a b c rd vs cs best n)
    | _,_=>none) none)))
  | _,_,_,_=>none)))
def lmerges_s (mrE:LLA→Int→Int→Int) (mrO:LLA→Int→Int→Int→LLA) (ibO:LLA→LLA) (fdV:List (List AV)→Int→Int) (fdB:List (List AV)→Int→Bool):Sp
  | [.sl 1 false xs]=>some (IntsA xs,.bool true)
  | _=>none
set_option maxRecDepth 100000 in
def lmerges_T (mrE:LLA→Int→Int→Int) (mrO:LLA→Int→Int→Int→LLA) (ibO:LLA→LLA) (fdV:List (List AV)→Int→Int) (fdB:List (List AV)→Int→Bool) (adE:LLA→List AV→Int) (adO:LLA→List AV→LLA) (inV:LLA→Int) (suC:Int→ByteArray→Int→Int→ByteArray→Int→Int) (ouL:LLA→LLA→LLA) (aw1:LLA):Prop :=
  ∀ (xs:List (List AV)),(∀ (x:List AV),List.Mem x xs→∃ n,x=[AV.int .i64 n]∧rng .i64 n)→True→True∧SrcQ (List.take (2000:Nat) xs) (0:Int)∧∀ (m j:Int),MinQ m j→(SrcQ (List.take (2000:Nat) xs) j∧(0≤m∧m≤(52595999:Int))∧(0:Int)≤(10:Int)∧(10:Int)≤(100:Int))∧∀ (os:List (List AV)) (j:Int),ItwQ (10:Int) m os j→GdL os∧bif decide (rng .i64 (m - (200:Int))) then bif decide (rng .i64 (m +
 (200:Int))) then bif decide (rng .i64 (m+(400:Int))) then ItsP (ibO os)∧bif decide ¬mrE (ibO os) (m - (200:Int)) (m+(200:Int))=(0:Int) then false=true else (∃ x,Me8 (P9 mrO ibO os m) x∧((True∧ibO os=ibO os)∧(True∧P9 mrO ibO os m=P9 mrO ibO os m)∧(↑(List.length (P9 mrO ibO os m)):Int)=(↑(List.length (P9 mrO ibO os m)):Int)∧(0:Int)=x∧True)∧True)∧∀ (x:Int),Me8 (P9 mrO ibO os m) x→bif decide (x <
 (↑(List.length (P9 mrO ibO os m)):Int)) then bif decide (0≤x∧x < (↑(List.length (P9 mrO ibO os m)):Int)) then ∃ n s n_1 n_2 n_3 n_4 n_5 xs n_6 xs_1,List.take [AV.int .i64 n,.str s,.int .i64 n_1,.int .i64 n_2,.int .i64 n_3,.int .i64 n_4,.int .i64 n_5,.sl (2:Nat) false xs,.int .i64 n_6,.sl (1:Nat) false xs_1].length (List.getD (P9 mrO ibO os m) x.toNat [])=[AV.int .i64 n,.str s,.int .i64
 n_1,.int .i64 n_2,.int .i64 n_3,.int .i64 n_4,.int .i64 n_5,.sl (2:Nat) false xs,.int .i64 n_6,.sl (1:Nat) false xs_1]∧(∃ x_1,Me12 (ibO os) n s n_1 x_1∧(M9 (ibO os) (P9 mrO ibO os m) x ((0:Int)=x_1.snd∧N9 (ibO os) ((0:Int)=x_1.fst∧True)))∧X9 n s n_1 n_2 n_3 n_4 n_5 xs n_6 xs_1∧True)∧∀ (x_1:Int × Int),Me12 (ibO os) n s n_1 x_1→bif decide (x_1.fst < (↑(List.length (ibO os)):Int)) then bif decide
 (0≤x_1.fst∧x_1.fst < (↑(List.length (ibO os)):Int)) then ∃ n_7 s_1 n_8 n_9 n_10 n_11 n_12 xs_2 n_13 n_14,List.take [AV.int .i64 n_7,.str s_1,.int .i64 n_8,.int .i64 n_9,.int .i64 n_10,.int .i64 n_11,.int .i64 n_12,.sl (2:Nat) false xs_2,.int .i64 n_13,.int .i64 n_14].length (List.getD (ibO os) x_1.fst.toNat [])=[AV.int .i64 n_7,.str s_1,.int .i64 n_8,.int .i64 n_9,.int .i64 n_10,.int .i64
 n_11,.int .i64 n_12,.sl (2:Nat) false xs_2,.int .i64 n_13,.int .i64 n_14]∧bif decide (n_7=n) then bif decide (s_1=s) then bif decide (n_8=n_1) then bif decide (rng .i64 (x_1.fst+(1:Int))) then ∃ y,Me12 (ibO os) n s n_1 y∧U9 (me12 (ibO os) (P9 mrO ibO os m) x n s n_1 n_2 n_3 n_4 n_5 xs n_6 xs_1) y x_1∧(M9 (ibO os) (P9 mrO ibO os m) x (max x_1.snd n_13=y.snd∧N9 (ibO os) (x_1.fst +
 (1:Int)=y.fst∧True)))∧X9 n s n_1 n_2 n_3 n_4 n_5 xs n_6 xs_1∧True else False else bif decide (rng .i64 (x_1.fst+(1:Int))) then ∃ y,Me12 (ibO os) n s n_1 y∧U9 (me12 (ibO os) (P9 mrO ibO os m) x n s n_1 n_2 n_3 n_4 n_5 xs n_6 xs_1) y x_1∧(M9 (ibO os) (P9 mrO ibO os m) x (x_1.snd=y.snd∧N9 (ibO os) (x_1.fst+(1:Int)=y.fst∧True)))∧X9 n s n_1 n_2 n_3 n_4 n_5 xs n_6 xs_1∧True else False else bif decide
 (rng .i64 (x_1.fst+(1:Int))) then ∃ y,Me12 (ibO os) n s n_1 y∧U9 (me12 (ibO os) (P9 mrO ibO os m) x n s n_1 n_2 n_3 n_4 n_5 xs n_6 xs_1) y x_1∧(M9 (ibO os) (P9 mrO ibO os m) x (x_1.snd=y.snd∧N9 (ibO os) (x_1.fst+(1:Int)=y.fst∧True)))∧X9 n s n_1 n_2 n_3 n_4 n_5 xs n_6 xs_1∧True else False else bif decide (rng .i64 (x_1.fst+(1:Int))) then ∃ y,Me12 (ibO os) n s n_1 y∧U9 (me12 (ibO os) (P9 mrO
 ibO os m) x n s n_1 n_2 n_3 n_4 n_5 xs n_6 xs_1) y x_1∧(M9 (ibO os) (P9 mrO ibO os m) x (x_1.snd=y.snd∧N9 (ibO os) (x_1.fst+(1:Int)=y.fst∧True)))∧X9 n s n_1 n_2 n_3 n_4 n_5 xs n_6 xs_1∧True else False else False else (∃ x_2,Me20 (ibO os) n s n_1 x_1.snd x_2∧(M9 (ibO os) (P9 mrO ibO os m) x (x_1.snd=x_1.snd∧(0:Int)=x_2.snd.snd∧(0:Nat)=0∧N9 (ibO os) ((0:Int)=x_2.fst∧True)))∧X9 n s n_1 n_2 n_3 n_4
 n_5 xs n_6 xs_1∧((0:Nat)=List.length (vl x_2.snd.fst (0:Int))∧(0:Nat)=List.length (vl x_2.snd.fst (1:Int))∧(0:Nat)=List.length (vl x_2.snd.fst (2:Int))∧(0:Nat)=List.length (vl x_2.snd.fst (3:Int))∧(0:Nat)=List.length (vl x_2.snd.fst (4:Int))∧(0:Nat)=List.length (vl x_2.snd.fst (5:Int))∧(0:Nat)=List.length (vl x_2.snd.fst (6:Int))∧(0:Nat)=List.length (vl x_2.snd.fst (7:Int))∧(0:Nat)=List.length (vl
 x_2.snd.fst (8:Int))∧(0:Nat)=List.length (vl x_2.snd.fst (9:Int))∧(0:Nat)=List.length (vl x_2.snd.fst (10:Int))∧(0:Nat)=List.length (vl x_2.snd.fst (11:Int))∧True)∧[]=vl x_2.snd.fst (0:Int)∧[]=vl x_2.snd.fst (1:Int)∧[]=vl x_2.snd.fst (2:Int)∧[]=vl x_2.snd.fst (3:Int)∧[]=vl x_2.snd.fst (4:Int)∧[]=vl x_2.snd.fst (5:Int)∧[]=vl x_2.snd.fst (6:Int)∧[]=vl x_2.snd.fst (7:Int)∧[]=vl x_2.snd.fst
 (8:Int)∧[]=vl x_2.snd.fst (9:Int)∧[]=vl x_2.snd.fst (10:Int)∧[]=vl x_2.snd.fst (11:Int)∧True)∧∀ (x_2:Int × LLA × Int),Me20 (ibO os) n s n_1 x_1.snd x_2→bif decide (x_2.fst < (↑(List.length (ibO os)):Int)) then bif decide (0≤x_2.fst∧x_2.fst < (↑(List.length (ibO os)):Int)) then ∃ n_7 s_1 n_8 n_9 n_10 n_11 n_12 xs_2 n_13 n_14,List.take [AV.int .i64 n_7,.str s_1,.int .i64 n_8,.int .i64
 n_9,.int .i64 n_10,.int .i64 n_11,.int .i64 n_12,.sl (2:Nat) false xs_2,.int .i64 n_13,.int .i64 n_14].length (List.getD (ibO os) x_2.fst.toNat [])=[AV.int .i64 n_7,.str s_1,.int .i64 n_8,.int .i64 n_9,.int .i64 n_10,.int .i64 n_11,.int .i64 n_12,.sl (2:Nat) false xs_2,.int .i64 n_13,.int .i64 n_14]∧bif decide ¬n_7=n then bif decide (rng .i64 (x_2.fst+(1:Int))) then ∃ y,Me20 (ibO os) n s n_1
 x_1.snd y∧U9 (me20 (ibO os) (P9 mrO ibO os m) x n s n_1 n_2 n_3 n_4 n_5 xs n_6 xs_1 x_1.snd) y x_2∧(M9 (ibO os) (P9 mrO ibO os m) x (x_1.snd=x_1.snd∧x_2.snd.snd=y.snd.snd∧(0:Nat)=0∧N9 (ibO os) (x_2.fst+(1:Int)=y.fst∧True)))∧X9 n s n_1 n_2 n_3 n_4 n_5 xs n_6 xs_1∧(L9 x_2.snd.fst y.snd.fst)∧R9 x_2.snd.fst y.snd.fst else False else bif !decide (s_1=s) then bif decide (rng .i64 (x_2.fst+(1:Int)))
 then ∃ y,Me20 (ibO os) n s n_1 x_1.snd y∧U9 (me20 (ibO os) (P9 mrO ibO os m) x n s n_1 n_2 n_3 n_4 n_5 xs n_6 xs_1 x_1.snd) y x_2∧(M9 (ibO os) (P9 mrO ibO os m) x (x_1.snd=x_1.snd∧x_2.snd.snd=y.snd.snd∧(0:Nat)=0∧N9 (ibO os) (x_2.fst+(1:Int)=y.fst∧True)))∧X9 n s n_1 n_2 n_3 n_4 n_5 xs n_6 xs_1∧(L9 x_2.snd.fst y.snd.fst)∧R9 x_2.snd.fst y.snd.fst else False else bif decide ¬n_8=n_1 then bif decide
 (rng .i64 (x_2.fst+(1:Int))) then ∃ y,Me20 (ibO os) n s n_1 x_1.snd y∧U9 (me20 (ibO os) (P9 mrO ibO os m) x n s n_1 n_2 n_3 n_4 n_5 xs n_6 xs_1 x_1.snd) y x_2∧(M9 (ibO os) (P9 mrO ibO os m) x (x_1.snd=x_1.snd∧x_2.snd.snd=y.snd.snd∧(0:Nat)=0∧N9 (ibO os) (x_2.fst+(1:Int)=y.fst∧True)))∧X9 n s n_1 n_2 n_3 n_4 n_5 xs n_6 xs_1∧(L9 x_2.snd.fst y.snd.fst)∧R9 x_2.snd.fst y.snd.fst else False else bif
 decide ¬n_13=x_1.snd then bif decide (rng .i64 (x_2.fst+(1:Int))) then ∃ y,Me20 (ibO os) n s n_1 x_1.snd y∧U9 (me20 (ibO os) (P9 mrO ibO os m) x n s n_1 n_2 n_3 n_4 n_5 xs n_6 xs_1 x_1.snd) y x_2∧(M9 (ibO os) (P9 mrO ibO os m) x (x_1.snd=x_1.snd∧x_2.snd.snd=y.snd.snd∧(0:Nat)=0∧N9 (ibO os) (x_2.fst+(1:Int)=y.fst∧True)))∧X9 n s n_1 n_2 n_3 n_4 n_5 xs n_6 xs_1∧(L9 x_2.snd.fst y.snd.fst)∧R9
 x_2.snd.fst y.snd.fst else False else bif decide (rng .i64 (x_2.snd.snd+(1:Int))) then (∃ x_3,Me25 (ibO os) n s n_1 x_1.snd x_2.fst xs_2 x_3∧(M9 (ibO os) (P9 mrO ibO os m) x (x_1.snd=x_1.snd∧x_2.snd.snd+(1:Int)=x_2.snd.snd+(1:Int)∧(0:Nat)=0∧(0:Nat)=0∧N9 (ibO os) (x_2.fst=x_2.fst∧(True∧xs_2=xs_2)∧(↑xs_2.length:Int)=(↑xs_2.length:Int)∧(0:Int)=x_3.fst∧True)))∧X9 n s n_1 n_2 n_3 n_4 n_5 xs n_6
 xs_1∧(L9 x_2.snd.fst x_3.snd)∧Y9 n_7 s_1 n_8 n_9 n_10 n_11 n_12 xs_2 n_13 n_14∧R9 x_2.snd.fst x_3.snd)∧∀ (x_3:Int × LLA),Me25 (ibO os) n s n_1 x_1.snd x_2.fst xs_2 x_3→bif decide (x_3.fst < (↑xs_2.length:Int)) then (bif decide (0≤x_3.fst∧x_3.fst < (↑xs_2.length:Int)) then ∃ n_15 n_16,List.take [AV.int .i64 n_15,.int .i64 n_16].length (xs_2.getD x_3.fst.toNat [])=[AV.int .i64 n_15,.int
 .i64 n_16]∧∃ x_4,Me27 (rE (xs_2.getD x_3.fst.toNat [])) x_4∧(M9 (ibO os) (P9 mrO ibO os m) x (x_1.snd=x_1.snd∧x_2.snd.snd+(1:Int)=x_2.snd.snd+(1:Int)∧(0:Nat)=0∧(0:Nat)=0∧N9 (ibO os) (x_2.fst=x_2.fst∧(True∧xs_2=xs_2)∧(↑xs_2.length:Int)=(↑xs_2.length:Int)∧x_3.fst=x_3.fst∧true=true∧(0:Nat)=0∧True)))∧X9 n s n_1 n_2 n_3 n_4 n_5 xs n_6 xs_1∧(L9 x_3.snd x_3.snd)∧Y9 n_7 s_1 n_8 n_9 n_10 n_11 n_12 xs_2
 n_13 n_14∧r9 x_3.snd x_3.snd 0∧r9 x_3.snd x_3.snd 1∧r9 x_3.snd x_3.snd 2∧r9 x_3.snd x_3.snd 3∧r9 x_3.snd x_3.snd 4∧r9 x_3.snd x_3.snd 5∧r9 x_3.snd x_3.snd 6∧r9 x_3.snd x_3.snd 7∧r9 x_3.snd x_3.snd 8∧r9 x_3.snd x_3.snd 9∧r9 x_3.snd x_3.snd 10∧r9 x_3.snd x_3.snd 11∧(n_15=x_4∧n_16=rV (xs_2.getD x_3.fst.toNat [])∧True)∧True else False)∧(∀ (x_4:Int),Me27 (rE (xs_2.getD x_3.fst.toNat [])) x_4→x_4=(1:Int)
∨x_4=(2:Int)∨x_4=(3:Int)∨x_4=(4:Int)∨x_4=(5:Int)∨x_4=(6:Int)∨x_4=(7:Int)∨x_4=(8:Int)∨x_4=(9:Int)∨x_4=(10:Int)∨x_4=(11:Int)∨False)∧(Me27 (rE (xs_2.getD x_3.fst.toNat [])) (1:Int)→KoP (vl x_3.snd (1:Int)) (List.length (vl x_3.snd (1:Int)))∧bif !inI (vl x_3.snd (1:Int)) (rV (xs_2.getD x_3.fst.toNat [])) then bif decide (q9 x_3.snd x_3.snd 1∧List.length (vl x_3.snd (1:Int)) +
 [[AV.int .i64 (rV (xs_2.getD x_3.fst.toNat []))]].length≤(9223372036854775807:Nat)∧(List.length (vl x_3.snd (1:Int))+[[AV.int .i64 (rV (xs_2.getD x_3.fst.toNat []))]].length)*(8:Nat)≤(140737488355328:Nat)) then bif decide (rng .i64 (x_3.fst+(1:Int))) then ∃ y,Me25 (ibO os) n s n_1 x_1.snd x_2.fst xs_2 y∧U9 (me25 (ibO os) (P9 mrO ibO os m) x n s n_1 n_2 n_3 n_4 n_5 xs n_6 xs_1 x_1.snd
 (x_2.snd.snd+(1:Int)) x_2.fst [AV.int .i64 n_7,.str s_1,.int .i64 n_8,.int .i64 n_9,.int .i64 n_10,.int .i64 n_11,.int .i64 n_12,.sl (2:Nat) false xs_2,.int .i64 n_13,.int .i64 n_14] false xs_2) y x_3∧(M9 (ibO os) (P9 mrO ibO os m) x (x_1.snd=x_1.snd∧x_2.snd.snd+(1:Int)=x_2.snd.snd+(1:Int)∧(0:Nat)=0∧(0:Nat)=0∧N9 (ibO os)
 (x_2.fst=x_2.fst∧(True∧xs_2=xs_2)∧(↑xs_2.length:Int)=(↑xs_2.length:Int)∧x_3.fst+(1:Int)=y.fst∧True)))∧X9 n s n_1 n_2 n_3 n_4 n_5 xs n_6 xs_1∧(q9 x_3.snd y.snd 0∧(vl x_3.snd (1:Int)++[[AV.int .i64 (rV (xs_2.getD x_3.fst.toNat []))]]).length=List.length (vl y.snd (1:Int))∧q9 x_3.snd y.snd 2∧q9 x_3.snd y.snd 3∧q9 x_3.snd y.snd 4∧q9 x_3.snd y.snd 5∧q9 x_3.snd y.snd 6∧q9 x_3.snd y.snd 7∧q9 x_3.snd
 y.snd 8∧q9 x_3.snd y.snd 9∧q9 x_3.snd y.snd 10∧q9 x_3.snd y.snd 11∧True)∧Y9 n_7 s_1 n_8 n_9 n_10 n_11 n_12 xs_2 n_13 n_14∧r9 x_3.snd y.snd 0∧vl x_3.snd (1:Int)++[[AV.int .i64 (rV (xs_2.getD x_3.fst.toNat []))]]=vl y.snd (1:Int)∧r9 x_3.snd y.snd 2∧r9 x_3.snd y.snd 3∧r9 x_3.snd y.snd 4∧r9 x_3.snd y.snd 5∧r9 x_3.snd y.snd 6∧r9 x_3.snd y.snd 7∧r9 x_3.snd y.snd 8∧r9 x_3.snd y.snd 9∧r9 x_3.snd y.snd
 10∧r9 x_3.snd y.snd 11∧True else False else False else bif decide (rng .i64 (x_3.fst+(1:Int))) then ∃ y,Me25 (ibO os) n s n_1 x_1.snd x_2.fst xs_2 y∧U9 (me25 (ibO os) (P9 mrO ibO os m) x n s n_1 n_2 n_3 n_4 n_5 xs n_6 xs_1 x_1.snd (x_2.snd.snd+(1:Int)) x_2.fst [AV.int .i64 n_7,.str s_1,.int .i64 n_8,.int .i64 n_9,.int .i64 n_10,.int .i64 n_11,.int .i64 n_12,.sl (2:Nat) false xs_2,.int .i64
 n_13,.int .i64 n_14] false xs_2) y x_3∧(M9 (ibO os) (P9 mrO ibO os m) x (x_1.snd=x_1.snd∧x_2.snd.snd+(1:Int)=x_2.snd.snd+(1:Int)∧(0:Nat)=0∧(0:Nat)=0∧N9 (ibO os) (x_2.fst=x_2.fst∧(True∧xs_2=xs_2)∧(↑xs_2.length:Int)=(↑xs_2.length:Int)∧x_3.fst+(1:Int)=y.fst∧True)))∧X9 n s n_1 n_2 n_3 n_4 n_5 xs n_6 xs_1∧(L9 x_3.snd y.snd)∧Y9 n_7 s_1 n_8 n_9 n_10 n_11 n_12 xs_2 n_13 n_14∧R9 x_3.snd y.snd else
 False)∧(Me27 (rE (xs_2.getD x_3.fst.toNat [])) (2:Int)→KoP (vl x_3.snd (2:Int)) (List.length (vl x_3.snd (2:Int)))∧bif !inI (vl x_3.snd (2:Int)) (rV (xs_2.getD x_3.fst.toNat [])) then bif decide (q9 x_3.snd x_3.snd 2∧List.length (vl x_3.snd (2:Int))+[[AV.int .i64 (rV (xs_2.getD x_3.fst.toNat []))]].length≤(9223372036854775807:Nat)∧(List.length (vl x_3.snd (2:Int))+[[AV.int .i64 (rV (xs_2.getD
 x_3.fst.toNat []))]].length)*(8:Nat)≤(140737488355328:Nat)) then bif decide (rng .i64 (x_3.fst+(1:Int))) then ∃ y,Me25 (ibO os) n s n_1 x_1.snd x_2.fst xs_2 y∧U9 (me25 (ibO os) (P9 mrO ibO os m) x n s n_1 n_2 n_3 n_4 n_5 xs n_6 xs_1 x_1.snd (x_2.snd.snd+(1:Int)) x_2.fst [AV.int .i64 n_7,.str s_1,.int .i64 n_8,.int .i64 n_9,.int .i64 n_10,.int .i64 n_11,.int .i64 n_12,.sl (2:Nat) false
 xs_2,.int .i64 n_13,.int .i64 n_14] false xs_2) y x_3∧(M9 (ibO os) (P9 mrO ibO os m) x (x_1.snd=x_1.snd∧x_2.snd.snd+(1:Int)=x_2.snd.snd+(1:Int)∧(0:Nat)=0∧(0:Nat)=0∧N9 (ibO os) (x_2.fst=x_2.fst∧(True∧xs_2=xs_2)∧(↑xs_2.length:Int)=(↑xs_2.length:Int)∧x_3.fst+(1:Int)=y.fst∧True)))∧X9 n s n_1 n_2 n_3 n_4 n_5 xs n_6 xs_1∧(q9 x_3.snd y.snd 0∧q9 x_3.snd y.snd 1∧(vl x_3.snd (2:Int)++[[AV.int .i64
 (rV (xs_2.getD x_3.fst.toNat []))]]).length=List.length (vl y.snd (2:Int))∧q9 x_3.snd y.snd 3∧q9 x_3.snd y.snd 4∧q9 x_3.snd y.snd 5∧q9 x_3.snd y.snd 6∧q9 x_3.snd y.snd 7∧q9 x_3.snd y.snd 8∧q9 x_3.snd y.snd 9∧q9 x_3.snd y.snd 10∧q9 x_3.snd y.snd 11∧True)∧Y9 n_7 s_1 n_8 n_9 n_10 n_11 n_12 xs_2 n_13 n_14∧r9 x_3.snd y.snd 0∧r9 x_3.snd y.snd 1∧vl x_3.snd (2:Int)++[[AV.int .i64 (rV (xs_2.getD
 x_3.fst.toNat []))]]=vl y.snd (2:Int)∧r9 x_3.snd y.snd 3∧r9 x_3.snd y.snd 4∧r9 x_3.snd y.snd 5∧r9 x_3.snd y.snd 6∧r9 x_3.snd y.snd 7∧r9 x_3.snd y.snd 8∧r9 x_3.snd y.snd 9∧r9 x_3.snd y.snd 10∧r9 x_3.snd y.snd 11∧True else False else False else bif decide (rng .i64 (x_3.fst+(1:Int))) then ∃ y,Me25 (ibO os) n s n_1 x_1.snd x_2.fst xs_2 y∧U9 (me25 (ibO os) (P9 mrO ibO os m) x n s n_1 n_2 n_3 n_4 n_5
 xs n_6 xs_1 x_1.snd (x_2.snd.snd+(1:Int)) x_2.fst [AV.int .i64 n_7,.str s_1,.int .i64 n_8,.int .i64 n_9,.int .i64 n_10,.int .i64 n_11,.int .i64 n_12,.sl (2:Nat) false xs_2,.int .i64 n_13,.int .i64 n_14] false xs_2) y x_3∧(M9 (ibO os) (P9 mrO ibO os m) x (x_1.snd=x_1.snd∧x_2.snd.snd+(1:Int)=x_2.snd.snd+(1:Int)∧(0:Nat)=0∧(0:Nat)=0∧N9 (ibO os)
 (x_2.fst=x_2.fst∧(True∧xs_2=xs_2)∧(↑xs_2.length:Int)=(↑xs_2.length:Int)∧x_3.fst+(1:Int)=y.fst∧True)))∧X9 n s n_1 n_2 n_3 n_4 n_5 xs n_6 xs_1∧(L9 x_3.snd y.snd)∧Y9 n_7 s_1 n_8 n_9 n_10 n_11 n_12 xs_2 n_13 n_14∧R9 x_3.snd y.snd else False)∧(Me27 (rE (xs_2.getD x_3.fst.toNat [])) (3:Int)→KoP (vl x_3.snd (3:Int)) (List.length (vl x_3.snd (3:Int)))∧bif !inI (vl x_3.snd (3:Int)) (rV (xs_2.getD
 x_3.fst.toNat [])) then bif decide (q9 x_3.snd x_3.snd 3∧List.length (vl x_3.snd (3:Int))+[[AV.int .i64 (rV (xs_2.getD x_3.fst.toNat []))]].length≤(9223372036854775807:Nat)∧(List.length (vl x_3.snd (3:Int))+[[AV.int .i64 (rV (xs_2.getD x_3.fst.toNat []))]].length)*(8:Nat)≤(140737488355328:Nat)) then bif decide (rng .i64 (x_3.fst+(1:Int))) then ∃ y,Me25 (ibO os) n s n_1 x_1.snd x_2.fst
 xs_2 y∧U9 (me25 (ibO os) (P9 mrO ibO os m) x n s n_1 n_2 n_3 n_4 n_5 xs n_6 xs_1 x_1.snd (x_2.snd.snd+(1:Int)) x_2.fst [AV.int .i64 n_7,.str s_1,.int .i64 n_8,.int .i64 n_9,.int .i64 n_10,.int .i64 n_11,.int .i64 n_12,.sl (2:Nat) false xs_2,.int .i64 n_13,.int .i64 n_14] false xs_2) y x_3∧(M9 (ibO os) (P9 mrO ibO os m) x (x_1.snd=x_1.snd∧x_2.snd.snd+(1:Int)=x_2.snd.snd +
 (1:Int)∧(0:Nat)=0∧(0:Nat)=0∧N9 (ibO os) (x_2.fst=x_2.fst∧(True∧xs_2=xs_2)∧(↑xs_2.length:Int)=(↑xs_2.length:Int)∧x_3.fst+(1:Int)=y.fst∧True)))∧X9 n s n_1 n_2 n_3 n_4 n_5 xs n_6 xs_1∧(q9 x_3.snd y.snd 0∧q9 x_3.snd y.snd 1∧q9 x_3.snd y.snd 2∧(vl x_3.snd (3:Int)++[[AV.int .i64 (rV (xs_2.getD x_3.fst.toNat []))]]).length=List.length (vl y.snd (3:Int))∧q9 x_3.snd y.snd 4∧q9 x_3.snd y.snd 5∧q9 x_3.snd
 y.snd 6∧q9 x_3.snd y.snd 7∧q9 x_3.snd y.snd 8∧q9 x_3.snd y.snd 9∧q9 x_3.snd y.snd 10∧q9 x_3.snd y.snd 11∧True)∧Y9 n_7 s_1 n_8 n_9 n_10 n_11 n_12 xs_2 n_13 n_14∧r9 x_3.snd y.snd 0∧r9 x_3.snd y.snd 1∧r9 x_3.snd y.snd 2∧vl x_3.snd (3:Int)++[[AV.int .i64 (rV (xs_2.getD x_3.fst.toNat []))]]=vl y.snd (3:Int)∧r9 x_3.snd y.snd 4∧r9 x_3.snd y.snd 5∧r9 x_3.snd y.snd 6∧r9 x_3.snd y.snd 7∧r9 x_3.snd y.snd
 8∧r9 x_3.snd y.snd 9∧r9 x_3.snd y.snd 10∧r9 x_3.snd y.snd 11∧True else False else False else bif decide (rng .i64 (x_3.fst+(1:Int))) then ∃ y,Me25 (ibO os) n s n_1 x_1.snd x_2.fst xs_2 y∧U9 (me25 (ibO os) (P9 mrO ibO os m) x n s n_1 n_2 n_3 n_4 n_5 xs n_6 xs_1 x_1.snd (x_2.snd.snd+(1:Int)) x_2.fst [AV.int .i64 n_7,.str s_1,.int .i64 n_8,.int .i64 n_9,.int .i64 n_10,.int .i64 n_11,.int .i64
 n_12,.sl (2:Nat) false xs_2,.int .i64 n_13,.int .i64 n_14] false xs_2) y x_3∧(M9 (ibO os) (P9 mrO ibO os m) x (x_1.snd=x_1.snd∧x_2.snd.snd+(1:Int)=x_2.snd.snd+(1:Int)∧(0:Nat)=0∧(0:Nat)=0∧N9 (ibO os) (x_2.fst=x_2.fst∧(True∧xs_2=xs_2)∧(↑xs_2.length:Int)=(↑xs_2.length:Int)∧x_3.fst+(1:Int)=y.fst∧True)))∧X9 n s n_1 n_2 n_3 n_4 n_5 xs n_6 xs_1∧(L9 x_3.snd y.snd)∧Y9 n_7 s_1 n_8 n_9 n_10 n_11 n_12
 xs_2 n_13 n_14∧R9 x_3.snd y.snd else False)∧(Me27 (rE (xs_2.getD x_3.fst.toNat [])) (4:Int)→KoP (vl x_3.snd (4:Int)) (List.length (vl x_3.snd (4:Int)))∧bif !inI (vl x_3.snd (4:Int)) (rV (xs_2.getD x_3.fst.toNat [])) then bif decide (q9 x_3.snd x_3.snd 4∧List.length (vl x_3.snd (4:Int))+[[AV.int .i64 (rV (xs_2.getD x_3.fst.toNat []))]].length≤(9223372036854775807:Nat)∧(List.length (vl x_3.snd
 (4:Int))+[[AV.int .i64 (rV (xs_2.getD x_3.fst.toNat []))]].length)*(8:Nat)≤(140737488355328:Nat)) then bif decide (rng .i64 (x_3.fst+(1:Int))) then ∃ y,Me25 (ibO os) n s n_1 x_1.snd x_2.fst xs_2 y∧U9 (me25 (ibO os) (P9 mrO ibO os m) x n s n_1 n_2 n_3 n_4 n_5 xs n_6 xs_1 x_1.snd (x_2.snd.snd+(1:Int)) x_2.fst [AV.int .i64 n_7,.str s_1,.int .i64 n_8,.int .i64 n_9,.int .i64 n_10,.int .i64
 n_11,.int .i64 n_12,.sl (2:Nat) false xs_2,.int .i64 n_13,.int .i64 n_14] false xs_2) y x_3∧(M9 (ibO os) (P9 mrO ibO os m) x (x_1.snd=x_1.snd∧x_2.snd.snd+(1:Int)=x_2.snd.snd+(1:Int)∧(0:Nat)=0∧(0:Nat)=0∧N9 (ibO os) (x_2.fst=x_2.fst∧(True∧xs_2=xs_2)∧(↑xs_2.length:Int)=(↑xs_2.length:Int)∧x_3.fst+(1:Int)=y.fst∧True)))∧X9 n s n_1 n_2 n_3 n_4 n_5 xs n_6 xs_1∧(q9 x_3.snd y.snd 0∧q9 x_3.snd y.snd
 1∧q9 x_3.snd y.snd 2∧q9 x_3.snd y.snd 3∧(vl x_3.snd (4:Int)++[[AV.int .i64 (rV (xs_2.getD x_3.fst.toNat []))]]).length=List.length (vl y.snd (4:Int))∧q9 x_3.snd y.snd 5∧q9 x_3.snd y.snd 6∧q9 x_3.snd y.snd 7∧q9 x_3.snd y.snd 8∧q9 x_3.snd y.snd 9∧q9 x_3.snd y.snd 10∧q9 x_3.snd y.snd 11∧True)∧Y9 n_7 s_1 n_8 n_9 n_10 n_11 n_12 xs_2 n_13 n_14∧r9 x_3.snd y.snd 0∧r9 x_3.snd y.snd 1∧r9 x_3.snd y.snd 2∧r9
 x_3.snd y.snd 3∧vl x_3.snd (4:Int)++[[AV.int .i64 (rV (xs_2.getD x_3.fst.toNat []))]]=vl y.snd (4:Int)∧r9 x_3.snd y.snd 5∧r9 x_3.snd y.snd 6∧r9 x_3.snd y.snd 7∧r9 x_3.snd y.snd 8∧r9 x_3.snd y.snd 9∧r9 x_3.snd y.snd 10∧r9 x_3.snd y.snd 11∧True else False else False else bif decide (rng .i64 (x_3.fst+(1:Int))) then ∃ y,Me25 (ibO os) n s n_1 x_1.snd x_2.fst xs_2 y∧U9 (me25 (ibO os) (P9 mrO ibO os
 m) x n s n_1 n_2 n_3 n_4 n_5 xs n_6 xs_1 x_1.snd (x_2.snd.snd+(1:Int)) x_2.fst [AV.int .i64 n_7,.str s_1,.int .i64 n_8,.int .i64 n_9,.int .i64 n_10,.int .i64 n_11,.int .i64 n_12,.sl (2:Nat) false xs_2,.int .i64 n_13,.int .i64 n_14] false xs_2) y x_3∧(M9 (ibO os) (P9 mrO ibO os m) x (x_1.snd=x_1.snd∧x_2.snd.snd+(1:Int)=x_2.snd.snd+(1:Int)∧(0:Nat)=0∧(0:Nat)=0∧N9 (ibO os)
 (x_2.fst=x_2.fst∧(True∧xs_2=xs_2)∧(↑xs_2.length:Int)=(↑xs_2.length:Int)∧x_3.fst+(1:Int)=y.fst∧True)))∧X9 n s n_1 n_2 n_3 n_4 n_5 xs n_6 xs_1∧(L9 x_3.snd y.snd)∧Y9 n_7 s_1 n_8 n_9 n_10 n_11 n_12 xs_2 n_13 n_14∧R9 x_3.snd y.snd else False)∧(Me27 (rE (xs_2.getD x_3.fst.toNat [])) (5:Int)→KoP (vl x_3.snd (5:Int)) (List.length (vl x_3.snd (5:Int)))∧bif !inI (vl x_3.snd (5:Int)) (rV (xs_2.getD
 x_3.fst.toNat [])) then bif decide (q9 x_3.snd x_3.snd 5∧List.length (vl x_3.snd (5:Int))+[[AV.int .i64 (rV (xs_2.getD x_3.fst.toNat []))]].length≤(9223372036854775807:Nat)∧(List.length (vl x_3.snd (5:Int))+[[AV.int .i64 (rV (xs_2.getD x_3.fst.toNat []))]].length)*(8:Nat)≤(140737488355328:Nat)) then bif decide (rng .i64 (x_3.fst+(1:Int))) then ∃ y,Me25 (ibO os) n s n_1 x_1.snd x_2.fst
 xs_2 y∧U9 (me25 (ibO os) (P9 mrO ibO os m) x n s n_1 n_2 n_3 n_4 n_5 xs n_6 xs_1 x_1.snd (x_2.snd.snd+(1:Int)) x_2.fst [AV.int .i64 n_7,.str s_1,.int .i64 n_8,.int .i64 n_9,.int .i64 n_10,.int .i64 n_11,.int .i64 n_12,.sl (2:Nat) false xs_2,.int .i64 n_13,.int .i64 n_14] false xs_2) y x_3∧(M9 (ibO os) (P9 mrO ibO os m) x (x_1.snd=x_1.snd∧x_2.snd.snd+(1:Int)=x_2.snd.snd +
 (1:Int)∧(0:Nat)=0∧(0:Nat)=0∧N9 (ibO os) (x_2.fst=x_2.fst∧(True∧xs_2=xs_2)∧(↑xs_2.length:Int)=(↑xs_2.length:Int)∧x_3.fst+(1:Int)=y.fst∧True)))∧X9 n s n_1 n_2 n_3 n_4 n_5 xs n_6 xs_1∧(q9 x_3.snd y.snd 0∧q9 x_3.snd y.snd 1∧q9 x_3.snd y.snd 2∧q9 x_3.snd y.snd 3∧q9 x_3.snd y.snd 4∧(vl x_3.snd (5:Int)++[[AV.int .i64 (rV (xs_2.getD x_3.fst.toNat []))]]).length=List.length (vl y.snd (5:Int))∧q9 x_3.snd
 y.snd 6∧q9 x_3.snd y.snd 7∧q9 x_3.snd y.snd 8∧q9 x_3.snd y.snd 9∧q9 x_3.snd y.snd 10∧q9 x_3.snd y.snd 11∧True)∧Y9 n_7 s_1 n_8 n_9 n_10 n_11 n_12 xs_2 n_13 n_14∧r9 x_3.snd y.snd 0∧r9 x_3.snd y.snd 1∧r9 x_3.snd y.snd 2∧r9 x_3.snd y.snd 3∧r9 x_3.snd y.snd 4∧vl x_3.snd (5:Int)++[[AV.int .i64 (rV (xs_2.getD x_3.fst.toNat []))]]=vl y.snd (5:Int)∧r9 x_3.snd y.snd 6∧r9 x_3.snd y.snd 7∧r9 x_3.snd y.snd
 8∧r9 x_3.snd y.snd 9∧r9 x_3.snd y.snd 10∧r9 x_3.snd y.snd 11∧True else False else False else bif decide (rng .i64 (x_3.fst+(1:Int))) then ∃ y,Me25 (ibO os) n s n_1 x_1.snd x_2.fst xs_2 y∧U9 (me25 (ibO os) (P9 mrO ibO os m) x n s n_1 n_2 n_3 n_4 n_5 xs n_6 xs_1 x_1.snd (x_2.snd.snd+(1:Int)) x_2.fst [AV.int .i64 n_7,.str s_1,.int .i64 n_8,.int .i64 n_9,.int .i64 n_10,.int .i64 n_11,.int .i64
 n_12,.sl (2:Nat) false xs_2,.int .i64 n_13,.int .i64 n_14] false xs_2) y x_3∧(M9 (ibO os) (P9 mrO ibO os m) x (x_1.snd=x_1.snd∧x_2.snd.snd+(1:Int)=x_2.snd.snd+(1:Int)∧(0:Nat)=0∧(0:Nat)=0∧N9 (ibO os) (x_2.fst=x_2.fst∧(True∧xs_2=xs_2)∧(↑xs_2.length:Int)=(↑xs_2.length:Int)∧x_3.fst+(1:Int)=y.fst∧True)))∧X9 n s n_1 n_2 n_3 n_4 n_5 xs n_6 xs_1∧(L9 x_3.snd y.snd)∧Y9 n_7 s_1 n_8 n_9 n_10 n_11 n_12
 xs_2 n_13 n_14∧R9 x_3.snd y.snd else False)∧(Me27 (rE (xs_2.getD x_3.fst.toNat [])) (6:Int)→KoP (vl x_3.snd (6:Int)) (List.length (vl x_3.snd (6:Int)))∧bif !inI (vl x_3.snd (6:Int)) (rV (xs_2.getD x_3.fst.toNat [])) then bif decide (q9 x_3.snd x_3.snd 6∧List.length (vl x_3.snd (6:Int))+[[AV.int .i64 (rV (xs_2.getD x_3.fst.toNat []))]].length≤(9223372036854775807:Nat)∧(List.length (vl x_3.snd
 (6:Int))+[[AV.int .i64 (rV (xs_2.getD x_3.fst.toNat []))]].length)*(8:Nat)≤(140737488355328:Nat)) then bif decide (rng .i64 (x_3.fst+(1:Int))) then ∃ y,Me25 (ibO os) n s n_1 x_1.snd x_2.fst xs_2 y∧U9 (me25 (ibO os) (P9 mrO ibO os m) x n s n_1 n_2 n_3 n_4 n_5 xs n_6 xs_1 x_1.snd (x_2.snd.snd+(1:Int)) x_2.fst [AV.int .i64 n_7,.str s_1,.int .i64 n_8,.int .i64 n_9,.int .i64 n_10,.int .i64
 n_11,.int .i64 n_12,.sl (2:Nat) false xs_2,.int .i64 n_13,.int .i64 n_14] false xs_2) y x_3∧(M9 (ibO os) (P9 mrO ibO os m) x (x_1.snd=x_1.snd∧x_2.snd.snd+(1:Int)=x_2.snd.snd+(1:Int)∧(0:Nat)=0∧(0:Nat)=0∧N9 (ibO os) (x_2.fst=x_2.fst∧(True∧xs_2=xs_2)∧(↑xs_2.length:Int)=(↑xs_2.length:Int)∧x_3.fst+(1:Int)=y.fst∧True)))∧X9 n s n_1 n_2 n_3 n_4 n_5 xs n_6 xs_1∧(q9 x_3.snd y.snd 0∧q9 x_3.snd y.snd
 1∧q9 x_3.snd y.snd 2∧q9 x_3.snd y.snd 3∧q9 x_3.snd y.snd 4∧q9 x_3.snd y.snd 5∧(vl x_3.snd (6:Int)++[[AV.int .i64 (rV (xs_2.getD x_3.fst.toNat []))]]).length=List.length (vl y.snd (6:Int))∧q9 x_3.snd y.snd 7∧q9 x_3.snd y.snd 8∧q9 x_3.snd y.snd 9∧q9 x_3.snd y.snd 10∧q9 x_3.snd y.snd 11∧True)∧Y9 n_7 s_1 n_8 n_9 n_10 n_11 n_12 xs_2 n_13 n_14∧r9 x_3.snd y.snd 0∧r9 x_3.snd y.snd 1∧r9 x_3.snd y.snd 2∧r9
 x_3.snd y.snd 3∧r9 x_3.snd y.snd 4∧r9 x_3.snd y.snd 5∧vl x_3.snd (6:Int)++[[AV.int .i64 (rV (xs_2.getD x_3.fst.toNat []))]]=vl y.snd (6:Int)∧r9 x_3.snd y.snd 7∧r9 x_3.snd y.snd 8∧r9 x_3.snd y.snd 9∧r9 x_3.snd y.snd 10∧r9 x_3.snd y.snd 11∧True else False else False else bif decide (rng .i64 (x_3.fst+(1:Int))) then ∃ y,Me25 (ibO os) n s n_1 x_1.snd x_2.fst xs_2 y∧U9 (me25 (ibO os) (P9 mrO ibO os
 m) x n s n_1 n_2 n_3 n_4 n_5 xs n_6 xs_1 x_1.snd (x_2.snd.snd+(1:Int)) x_2.fst [AV.int .i64 n_7,.str s_1,.int .i64 n_8,.int .i64 n_9,.int .i64 n_10,.int .i64 n_11,.int .i64 n_12,.sl (2:Nat) false xs_2,.int .i64 n_13,.int .i64 n_14] false xs_2) y x_3∧(M9 (ibO os) (P9 mrO ibO os m) x (x_1.snd=x_1.snd∧x_2.snd.snd+(1:Int)=x_2.snd.snd+(1:Int)∧(0:Nat)=0∧(0:Nat)=0∧N9 (ibO os)
 (x_2.fst=x_2.fst∧(True∧xs_2=xs_2)∧(↑xs_2.length:Int)=(↑xs_2.length:Int)∧x_3.fst+(1:Int)=y.fst∧True)))∧X9 n s n_1 n_2 n_3 n_4 n_5 xs n_6 xs_1∧(L9 x_3.snd y.snd)∧Y9 n_7 s_1 n_8 n_9 n_10 n_11 n_12 xs_2 n_13 n_14∧R9 x_3.snd y.snd else False)∧(Me27 (rE (xs_2.getD x_3.fst.toNat [])) (7:Int)→KoP (vl x_3.snd (7:Int)) (List.length (vl x_3.snd (7:Int)))∧bif !inI (vl x_3.snd (7:Int)) (rV (xs_2.getD
 x_3.fst.toNat [])) then bif decide (q9 x_3.snd x_3.snd 7∧List.length (vl x_3.snd (7:Int))+[[AV.int .i64 (rV (xs_2.getD x_3.fst.toNat []))]].length≤(9223372036854775807:Nat)∧(List.length (vl x_3.snd (7:Int))+[[AV.int .i64 (rV (xs_2.getD x_3.fst.toNat []))]].length)*(8:Nat)≤(140737488355328:Nat)) then bif decide (rng .i64 (x_3.fst+(1:Int))) then ∃ y,Me25 (ibO os) n s n_1 x_1.snd x_2.fst
 xs_2 y∧U9 (me25 (ibO os) (P9 mrO ibO os m) x n s n_1 n_2 n_3 n_4 n_5 xs n_6 xs_1 x_1.snd (x_2.snd.snd+(1:Int)) x_2.fst [AV.int .i64 n_7,.str s_1,.int .i64 n_8,.int .i64 n_9,.int .i64 n_10,.int .i64 n_11,.int .i64 n_12,.sl (2:Nat) false xs_2,.int .i64 n_13,.int .i64 n_14] false xs_2) y x_3∧(M9 (ibO os) (P9 mrO ibO os m) x (x_1.snd=x_1.snd∧x_2.snd.snd+(1:Int)=x_2.snd.snd +
 (1:Int)∧(0:Nat)=0∧(0:Nat)=0∧N9 (ibO os) (x_2.fst=x_2.fst∧(True∧xs_2=xs_2)∧(↑xs_2.length:Int)=(↑xs_2.length:Int)∧x_3.fst+(1:Int)=y.fst∧True)))∧X9 n s n_1 n_2 n_3 n_4 n_5 xs n_6 xs_1∧(q9 x_3.snd y.snd 0∧q9 x_3.snd y.snd 1∧q9 x_3.snd y.snd 2∧q9 x_3.snd y.snd 3∧q9 x_3.snd y.snd 4∧q9 x_3.snd y.snd 5∧q9 x_3.snd y.snd 6∧(vl x_3.snd (7:Int)++[[AV.int .i64 (rV (xs_2.getD x_3.fst.toNat
 []))]]).length=List.length (vl y.snd (7:Int))∧q9 x_3.snd y.snd 8∧q9 x_3.snd y.snd 9∧q9 x_3.snd y.snd 10∧q9 x_3.snd y.snd 11∧True)∧Y9 n_7 s_1 n_8 n_9 n_10 n_11 n_12 xs_2 n_13 n_14∧r9 x_3.snd y.snd 0∧r9 x_3.snd y.snd 1∧r9 x_3.snd y.snd 2∧r9 x_3.snd y.snd 3∧r9 x_3.snd y.snd 4∧r9 x_3.snd y.snd 5∧r9 x_3.snd y.snd 6∧vl x_3.snd (7:Int)++[[AV.int .i64 (rV (xs_2.getD x_3.fst.toNat []))]]=vl y.snd
 (7:Int)∧r9 x_3.snd y.snd 8∧r9 x_3.snd y.snd 9∧r9 x_3.snd y.snd 10∧r9 x_3.snd y.snd 11∧True else False else False else bif decide (rng .i64 (x_3.fst+(1:Int))) then ∃ y,Me25 (ibO os) n s n_1 x_1.snd x_2.fst xs_2 y∧U9 (me25 (ibO os) (P9 mrO ibO os m) x n s n_1 n_2 n_3 n_4 n_5 xs n_6 xs_1 x_1.snd (x_2.snd.snd+(1:Int)) x_2.fst [AV.int .i64 n_7,.str s_1,.int .i64 n_8,.int .i64 n_9,.int .i64 n_10,.int
 .i64 n_11,.int .i64 n_12,.sl (2:Nat) false xs_2,.int .i64 n_13,.int .i64 n_14] false xs_2) y x_3∧(M9 (ibO os) (P9 mrO ibO os m) x (x_1.snd=x_1.snd∧x_2.snd.snd+(1:Int)=x_2.snd.snd+(1:Int)∧(0:Nat)=0∧(0:Nat)=0∧N9 (ibO os) (x_2.fst=x_2.fst∧(True∧xs_2=xs_2)∧(↑xs_2.length:Int)=(↑xs_2.length:Int)∧x_3.fst+(1:Int)=y.fst∧True)))∧X9 n s n_1 n_2 n_3 n_4 n_5 xs n_6 xs_1∧(L9 x_3.snd y.snd)∧Y9 n_7 s_1 n_8
 n_9 n_10 n_11 n_12 xs_2 n_13 n_14∧R9 x_3.snd y.snd else False)∧(Me27 (rE (xs_2.getD x_3.fst.toNat [])) (8:Int)→KoP (vl x_3.snd (8:Int)) (List.length (vl x_3.snd (8:Int)))∧bif !inI (vl x_3.snd (8:Int)) (rV (xs_2.getD x_3.fst.toNat [])) then bif decide (q9 x_3.snd x_3.snd 8∧List.length (vl x_3.snd (8:Int))+[[AV.int .i64 (rV (xs_2.getD x_3.fst.toNat []))]].length ≤
 (9223372036854775807:Nat)∧(List.length (vl x_3.snd (8:Int))+[[AV.int .i64 (rV (xs_2.getD x_3.fst.toNat []))]].length)*(8:Nat)≤(140737488355328:Nat)) then bif decide (rng .i64 (x_3.fst+(1:Int))) then ∃ y,Me25 (ibO os) n s n_1 x_1.snd x_2.fst xs_2 y∧U9 (me25 (ibO os) (P9 mrO ibO os m) x n s n_1 n_2 n_3 n_4 n_5 xs n_6 xs_1 x_1.snd (x_2.snd.snd+(1:Int)) x_2.fst [AV.int .i64 n_7,.str s_1,.int
 .i64 n_8,.int .i64 n_9,.int .i64 n_10,.int .i64 n_11,.int .i64 n_12,.sl (2:Nat) false xs_2,.int .i64 n_13,.int .i64 n_14] false xs_2) y x_3∧(M9 (ibO os) (P9 mrO ibO os m) x (x_1.snd=x_1.snd∧x_2.snd.snd+(1:Int)=x_2.snd.snd+(1:Int)∧(0:Nat)=0∧(0:Nat)=0∧N9 (ibO os) (x_2.fst=x_2.fst∧(True∧xs_2=xs_2)∧(↑xs_2.length:Int)=(↑xs_2.length:Int)∧x_3.fst+(1:Int)=y.fst∧True)))∧X9 n s n_1 n_2 n_3 n_4 n_5 xs
 n_6 xs_1∧(q9 x_3.snd y.snd 0∧q9 x_3.snd y.snd 1∧q9 x_3.snd y.snd 2∧q9 x_3.snd y.snd 3∧q9 x_3.snd y.snd 4∧q9 x_3.snd y.snd 5∧q9 x_3.snd y.snd 6∧q9 x_3.snd y.snd 7∧(vl x_3.snd (8:Int)++[[AV.int .i64 (rV (xs_2.getD x_3.fst.toNat []))]]).length=List.length (vl y.snd (8:Int))∧q9 x_3.snd y.snd 9∧q9 x_3.snd y.snd 10∧q9 x_3.snd y.snd 11∧True)∧Y9 n_7 s_1 n_8 n_9 n_10 n_11 n_12 xs_2 n_13 n_14∧r9 x_3.snd
 y.snd 0∧r9 x_3.snd y.snd 1∧r9 x_3.snd y.snd 2∧r9 x_3.snd y.snd 3∧r9 x_3.snd y.snd 4∧r9 x_3.snd y.snd 5∧r9 x_3.snd y.snd 6∧r9 x_3.snd y.snd 7∧vl x_3.snd (8:Int)++[[AV.int .i64 (rV (xs_2.getD x_3.fst.toNat []))]]=vl y.snd (8:Int)∧r9 x_3.snd y.snd 9∧r9 x_3.snd y.snd 10∧r9 x_3.snd y.snd 11∧True else False else False else bif decide (rng .i64 (x_3.fst+(1:Int))) then ∃ y,Me25 (ibO os) n s n_1 x_1.snd
 x_2.fst xs_2 y∧U9 (me25 (ibO os) (P9 mrO ibO os m) x n s n_1 n_2 n_3 n_4 n_5 xs n_6 xs_1 x_1.snd (x_2.snd.snd+(1:Int)) x_2.fst [AV.int .i64 n_7,.str s_1,.int .i64 n_8,.int .i64 n_9,.int .i64 n_10,.int .i64 n_11,.int .i64 n_12,.sl (2:Nat) false xs_2,.int .i64 n_13,.int .i64 n_14] false xs_2) y x_3∧(M9 (ibO os) (P9 mrO ibO os m) x (x_1.snd=x_1.snd∧x_2.snd.snd+(1:Int)=x_2.snd.snd +
 (1:Int)∧(0:Nat)=0∧(0:Nat)=0∧N9 (ibO os) (x_2.fst=x_2.fst∧(True∧xs_2=xs_2)∧(↑xs_2.length:Int)=(↑xs_2.length:Int)∧x_3.fst+(1:Int)=y.fst∧True)))∧X9 n s n_1 n_2 n_3 n_4 n_5 xs n_6 xs_1∧(L9 x_3.snd y.snd)∧Y9 n_7 s_1 n_8 n_9 n_10 n_11 n_12 xs_2 n_13 n_14∧R9 x_3.snd y.snd else False)∧(Me27 (rE (xs_2.getD x_3.fst.toNat [])) (9:Int)→KoP (vl x_3.snd (9:Int)) (List.length (vl x_3.snd (9:Int)))∧bif !inI (vl
 x_3.snd (9:Int)) (rV (xs_2.getD x_3.fst.toNat [])) then bif decide (q9 x_3.snd x_3.snd 9∧List.length (vl x_3.snd (9:Int))+[[AV.int .i64 (rV (xs_2.getD x_3.fst.toNat []))]].length≤(9223372036854775807:Nat)∧(List.length (vl x_3.snd (9:Int))+[[AV.int .i64 (rV (xs_2.getD x_3.fst.toNat []))]].length)*(8:Nat)≤(140737488355328:Nat)) then bif decide (rng .i64 (x_3.fst+(1:Int))) then ∃ y,Me25
 (ibO os) n s n_1 x_1.snd x_2.fst xs_2 y∧U9 (me25 (ibO os) (P9 mrO ibO os m) x n s n_1 n_2 n_3 n_4 n_5 xs n_6 xs_1 x_1.snd (x_2.snd.snd+(1:Int)) x_2.fst [AV.int .i64 n_7,.str s_1,.int .i64 n_8,.int .i64 n_9,.int .i64 n_10,.int .i64 n_11,.int .i64 n_12,.sl (2:Nat) false xs_2,.int .i64 n_13,.int .i64 n_14] false xs_2) y x_3∧(M9 (ibO os) (P9 mrO ibO os m) x (x_1.snd=x_1.snd∧x_2.snd.snd +
 (1:Int)=x_2.snd.snd+(1:Int)∧(0:Nat)=0∧(0:Nat)=0∧N9 (ibO os) (x_2.fst=x_2.fst∧(True∧xs_2=xs_2)∧(↑xs_2.length:Int)=(↑xs_2.length:Int)∧x_3.fst+(1:Int)=y.fst∧True)))∧X9 n s n_1 n_2 n_3 n_4 n_5 xs n_6 xs_1∧(q9 x_3.snd y.snd 0∧q9 x_3.snd y.snd 1∧q9 x_3.snd y.snd 2∧q9 x_3.snd y.snd 3∧q9 x_3.snd y.snd 4∧q9 x_3.snd y.snd 5∧q9 x_3.snd y.snd 6∧q9 x_3.snd y.snd 7∧q9 x_3.snd y.snd 8∧(vl x_3.snd (9:Int) ++
 [[AV.int .i64 (rV (xs_2.getD x_3.fst.toNat []))]]).length=List.length (vl y.snd (9:Int))∧q9 x_3.snd y.snd 10∧q9 x_3.snd y.snd 11∧True)∧Y9 n_7 s_1 n_8 n_9 n_10 n_11 n_12 xs_2 n_13 n_14∧r9 x_3.snd y.snd 0∧r9 x_3.snd y.snd 1∧r9 x_3.snd y.snd 2∧r9 x_3.snd y.snd 3∧r9 x_3.snd y.snd 4∧r9 x_3.snd y.snd 5∧r9 x_3.snd y.snd 6∧r9 x_3.snd y.snd 7∧r9 x_3.snd y.snd 8∧vl x_3.snd (9:Int)++[[AV.int .i64 (rV
 (xs_2.getD x_3.fst.toNat []))]]=vl y.snd (9:Int)∧r9 x_3.snd y.snd 10∧r9 x_3.snd y.snd 11∧True else False else False else bif decide (rng .i64 (x_3.fst+(1:Int))) then ∃ y,Me25 (ibO os) n s n_1 x_1.snd x_2.fst xs_2 y∧U9 (me25 (ibO os) (P9 mrO ibO os m) x n s n_1 n_2 n_3 n_4 n_5 xs n_6 xs_1 x_1.snd (x_2.snd.snd+(1:Int)) x_2.fst [AV.int .i64 n_7,.str s_1,.int .i64 n_8,.int .i64 n_9,.int .i64
 n_10,.int .i64 n_11,.int .i64 n_12,.sl (2:Nat) false xs_2,.int .i64 n_13,.int .i64 n_14] false xs_2) y x_3∧(M9 (ibO os) (P9 mrO ibO os m) x (x_1.snd=x_1.snd∧x_2.snd.snd+(1:Int)=x_2.snd.snd+(1:Int)∧(0:Nat)=0∧(0:Nat)=0∧N9 (ibO os) (x_2.fst=x_2.fst∧(True∧xs_2=xs_2)∧(↑xs_2.length:Int)=(↑xs_2.length:Int)∧x_3.fst+(1:Int)=y.fst∧True)))∧X9 n s n_1 n_2 n_3 n_4 n_5 xs n_6 xs_1∧(L9 x_3.snd y.snd)∧Y9 n_7
 s_1 n_8 n_9 n_10 n_11 n_12 xs_2 n_13 n_14∧R9 x_3.snd y.snd else False)∧(Me27 (rE (xs_2.getD x_3.fst.toNat [])) (10:Int)→KoP (vl x_3.snd (10:Int)) (List.length (vl x_3.snd (10:Int)))∧bif !inI (vl x_3.snd (10:Int)) (rV (xs_2.getD x_3.fst.toNat [])) then bif decide (q9 x_3.snd x_3.snd 10∧List.length (vl x_3.snd (10:Int))+[[AV.int .i64 (rV (xs_2.getD x_3.fst.toNat []))]].length ≤
 (9223372036854775807:Nat)∧(List.length (vl x_3.snd (10:Int))+[[AV.int .i64 (rV (xs_2.getD x_3.fst.toNat []))]].length)*(8:Nat)≤(140737488355328:Nat)) then bif decide (rng .i64 (x_3.fst+(1:Int))) then ∃ y,Me25 (ibO os) n s n_1 x_1.snd x_2.fst xs_2 y∧U9 (me25 (ibO os) (P9 mrO ibO os m) x n s n_1 n_2 n_3 n_4 n_5 xs n_6 xs_1 x_1.snd (x_2.snd.snd+(1:Int)) x_2.fst [AV.int .i64 n_7,.str s_1,.int
 .i64 n_8,.int .i64 n_9,.int .i64 n_10,.int .i64 n_11,.int .i64 n_12,.sl (2:Nat) false xs_2,.int .i64 n_13,.int .i64 n_14] false xs_2) y x_3∧(M9 (ibO os) (P9 mrO ibO os m) x (x_1.snd=x_1.snd∧x_2.snd.snd+(1:Int)=x_2.snd.snd+(1:Int)∧(0:Nat)=0∧(0:Nat)=0∧N9 (ibO os) (x_2.fst=x_2.fst∧(True∧xs_2=xs_2)∧(↑xs_2.length:Int)=(↑xs_2.length:Int)∧x_3.fst+(1:Int)=y.fst∧True)))∧X9 n s n_1 n_2 n_3 n_4 n_5 xs
 n_6 xs_1∧(q9 x_3.snd y.snd 0∧q9 x_3.snd y.snd 1∧q9 x_3.snd y.snd 2∧q9 x_3.snd y.snd 3∧q9 x_3.snd y.snd 4∧q9 x_3.snd y.snd 5∧q9 x_3.snd y.snd 6∧q9 x_3.snd y.snd 7∧q9 x_3.snd y.snd 8∧q9 x_3.snd y.snd 9∧(vl x_3.snd (10:Int)++[[AV.int .i64 (rV (xs_2.getD x_3.fst.toNat []))]]).length=List.length (vl y.snd (10:Int))∧q9 x_3.snd y.snd 11∧True)∧Y9 n_7 s_1 n_8 n_9 n_10 n_11 n_12 xs_2 n_13 n_14∧r9 x_3.snd
 y.snd 0∧r9 x_3.snd y.snd 1∧r9 x_3.snd y.snd 2∧r9 x_3.snd y.snd 3∧r9 x_3.snd y.snd 4∧r9 x_3.snd y.snd 5∧r9 x_3.snd y.snd 6∧r9 x_3.snd y.snd 7∧r9 x_3.snd y.snd 8∧r9 x_3.snd y.snd 9∧vl x_3.snd (10:Int)++[[AV.int .i64 (rV (xs_2.getD x_3.fst.toNat []))]]=vl y.snd (10:Int)∧r9 x_3.snd y.snd 11∧True else False else False else bif decide (rng .i64 (x_3.fst+(1:Int))) then ∃ y,Me25 (ibO os) n s n_1
 x_1.snd x_2.fst xs_2 y∧U9 (me25 (ibO os) (P9 mrO ibO os m) x n s n_1 n_2 n_3 n_4 n_5 xs n_6 xs_1 x_1.snd (x_2.snd.snd+(1:Int)) x_2.fst [AV.int .i64 n_7,.str s_1,.int .i64 n_8,.int .i64 n_9,.int .i64 n_10,.int .i64 n_11,.int .i64 n_12,.sl (2:Nat) false xs_2,.int .i64 n_13,.int .i64 n_14] false xs_2) y x_3∧(M9 (ibO os) (P9 mrO ibO os m) x (x_1.snd=x_1.snd∧x_2.snd.snd+(1:Int)=x_2.snd.snd +
 (1:Int)∧(0:Nat)=0∧(0:Nat)=0∧N9 (ibO os) (x_2.fst=x_2.fst∧(True∧xs_2=xs_2)∧(↑xs_2.length:Int)=(↑xs_2.length:Int)∧x_3.fst+(1:Int)=y.fst∧True)))∧X9 n s n_1 n_2 n_3 n_4 n_5 xs n_6 xs_1∧(L9 x_3.snd y.snd)∧Y9 n_7 s_1 n_8 n_9 n_10 n_11 n_12 xs_2 n_13 n_14∧R9 x_3.snd y.snd else False)∧(Me27 (rE (xs_2.getD x_3.fst.toNat [])) (11:Int)→KoP (vl x_3.snd (11:Int)) (List.length (vl x_3.snd (11:Int)))∧bif !inI
 (vl x_3.snd (11:Int)) (rV (xs_2.getD x_3.fst.toNat [])) then bif decide (q9 x_3.snd x_3.snd 11∧List.length (vl x_3.snd (11:Int))+[[AV.int .i64 (rV (xs_2.getD x_3.fst.toNat []))]].length≤(9223372036854775807:Nat)∧(List.length (vl x_3.snd (11:Int))+[[AV.int .i64 (rV (xs_2.getD x_3.fst.toNat []))]].length)*(8:Nat)≤(140737488355328:Nat)) then bif decide (rng .i64 (x_3.fst+(1:Int))) then ∃
 y,Me25 (ibO os) n s n_1 x_1.snd x_2.fst xs_2 y∧U9 (me25 (ibO os) (P9 mrO ibO os m) x n s n_1 n_2 n_3 n_4 n_5 xs n_6 xs_1 x_1.snd (x_2.snd.snd+(1:Int)) x_2.fst [AV.int .i64 n_7,.str s_1,.int .i64 n_8,.int .i64 n_9,.int .i64 n_10,.int .i64 n_11,.int .i64 n_12,.sl (2:Nat) false xs_2,.int .i64 n_13,.int .i64 n_14] false xs_2) y x_3∧(M9 (ibO os) (P9 mrO ibO os m) x (x_1.snd=x_1.snd∧x_2.snd.snd +
 (1:Int)=x_2.snd.snd+(1:Int)∧(0:Nat)=0∧(0:Nat)=0∧N9 (ibO os) (x_2.fst=x_2.fst∧(True∧xs_2=xs_2)∧(↑xs_2.length:Int)=(↑xs_2.length:Int)∧x_3.fst+(1:Int)=y.fst∧True)))∧X9 n s n_1 n_2 n_3 n_4 n_5 xs n_6 xs_1∧(q9 x_3.snd y.snd 0∧q9 x_3.snd y.snd 1∧q9 x_3.snd y.snd 2∧q9 x_3.snd y.snd 3∧q9 x_3.snd y.snd 4∧q9 x_3.snd y.snd 5∧q9 x_3.snd y.snd 6∧q9 x_3.snd y.snd 7∧q9 x_3.snd y.snd 8∧q9 x_3.snd y.snd 9∧q9
 x_3.snd y.snd 10∧(vl x_3.snd (11:Int)++[[AV.int .i64 (rV (xs_2.getD x_3.fst.toNat []))]]).length=List.length (vl y.snd (11:Int))∧True)∧Y9 n_7 s_1 n_8 n_9 n_10 n_11 n_12 xs_2 n_13 n_14∧r9 x_3.snd y.snd 0∧r9 x_3.snd y.snd 1∧r9 x_3.snd y.snd 2∧r9 x_3.snd y.snd 3∧r9 x_3.snd y.snd 4∧r9 x_3.snd y.snd 5∧r9 x_3.snd y.snd 6∧r9 x_3.snd y.snd 7∧r9 x_3.snd y.snd 8∧r9 x_3.snd y.snd 9∧r9 x_3.snd y.snd 10∧vl
 x_3.snd (11:Int)++[[AV.int .i64 (rV (xs_2.getD x_3.fst.toNat []))]]=vl y.snd (11:Int)∧True else False else False else bif decide (rng .i64 (x_3.fst+(1:Int))) then ∃ y,Me25 (ibO os) n s n_1 x_1.snd x_2.fst xs_2 y∧U9 (me25 (ibO os) (P9 mrO ibO os m) x n s n_1 n_2 n_3 n_4 n_5 xs n_6 xs_1 x_1.snd (x_2.snd.snd+(1:Int)) x_2.fst [AV.int .i64 n_7,.str s_1,.int .i64 n_8,.int .i64 n_9,.int .i64
 n_10,.int .i64 n_11,.int .i64 n_12,.sl (2:Nat) false xs_2,.int .i64 n_13,.int .i64 n_14] false xs_2) y x_3∧(M9 (ibO os) (P9 mrO ibO os m) x (x_1.snd=x_1.snd∧x_2.snd.snd+(1:Int)=x_2.snd.snd+(1:Int)∧(0:Nat)=0∧(0:Nat)=0∧N9 (ibO os) (x_2.fst=x_2.fst∧(True∧xs_2=xs_2)∧(↑xs_2.length:Int)=(↑xs_2.length:Int)∧x_3.fst+(1:Int)=y.fst∧True)))∧X9 n s n_1 n_2 n_3 n_4 n_5 xs n_6 xs_1∧(L9 x_3.snd y.snd)∧Y9 n_7
 s_1 n_8 n_9 n_10 n_11 n_12 xs_2 n_13 n_14∧R9 x_3.snd y.snd else False)∧True else bif !(decide (n_9=n_2)&&(decide (n_10=n_3)&&(decide (n_11=n_4)&&(decide (n_12=n_5)&&true)))) then (IntsB xs_1∧Ln xs_1)∧bif !inI xs_1 (0:Int) then false=true else bif decide (rng .i64 (x_2.fst+(1:Int))) then ∃ y,Me20 (ibO os) n s n_1 x_1.snd y∧U9 (me20 (ibO os) (P9 mrO ibO os m) x n s n_1 n_2 n_3 n_4 n_5 xs
 n_6 xs_1 x_1.snd) y x_2∧(M9 (ibO os) (P9 mrO ibO os m) x (x_1.snd=x_1.snd∧x_2.snd.snd+(1:Int)=y.snd.snd∧(0:Nat)=0∧N9 (ibO os) (x_2.fst+(1:Int)=y.fst∧True)))∧X9 n s n_1 n_2 n_3 n_4 n_5 xs n_6 xs_1∧(L9 x_3.snd y.snd.fst)∧R9 x_3.snd y.snd.fst else False else bif decide (rng .i64 (x_2.fst+(1:Int))) then ∃ y,Me20 (ibO os) n s n_1 x_1.snd y∧U9 (me20 (ibO os) (P9 mrO ibO os m) x n s n_1 n_2 n_3 n_4
 n_5 xs n_6 xs_1 x_1.snd) y x_2∧(M9 (ibO os) (P9 mrO ibO os m) x (x_1.snd=x_1.snd∧x_2.snd.snd+(1:Int)=y.snd.snd∧(0:Nat)=0∧N9 (ibO os) (x_2.fst+(1:Int)=y.fst∧True)))∧X9 n s n_1 n_2 n_3 n_4 n_5 xs n_6 xs_1∧(L9 x_3.snd y.snd.fst)∧R9 x_3.snd y.snd.fst else False else False else False else (∃ x_3,Me34 (ibO os) n s n_1 x_1.snd x_3∧(M9 (ibO os) (P9 mrO ibO os m) x
 (x_2.snd.snd=x_2.snd.snd∧(0:Nat)=0∧(1:Int)=x_3.fst∧True))∧X9 n s n_1 n_2 n_3 n_4 n_5 xs n_6 xs_1∧(L9 x_2.snd.fst x_3.snd)∧R9 x_2.snd.fst x_3.snd)∧∀ (x_3:Int × LLA),Me34 (ibO os) n s n_1 x_1.snd x_3→(bif decide (x_3.fst≤(11:Int)) then ∃ x_4,Me27 x_3.fst x_4∧(M9 (ibO os) (P9 mrO ibO os m) x (x_2.snd.snd=x_2.snd.snd∧(0:Nat)=0∧x_3.fst=x_4∧True))∧X9 n s n_1 n_2 n_3 n_4 n_5 xs n_6 xs_1∧(L9 x_3.snd
 x_3.snd)∧R9 x_3.snd x_3.snd else bif decide ¬x_2.snd.snd=n_6 then false=true else bif decide (rng .i64 (x+(1:Int))) then ∃ y,Me8 (P9 mrO ibO os m) y∧U9 (me8 (ibO os) (P9 mrO ibO os m)) y x∧((True∧ibO os=ibO os)∧(True∧P9 mrO ibO os m=P9 mrO ibO os m)∧(↑(List.length (P9 mrO ibO os m)):Int)=(↑(List.length (P9 mrO ibO os m)):Int)∧x+(1:Int)=y∧True)∧True else False)∧(∀ (x_4:Int),Me27 x_3.fst
 x_4→x_4=(1:Int)∨x_4=(2:Int)∨x_4=(3:Int)∨x_4=(4:Int)∨x_4=(5:Int)∨x_4=(6:Int)∨x_4=(7:Int)∨x_4=(8:Int)∨x_4=(9:Int)∨x_4=(10:Int)∨x_4=(11:Int)∨False)∧(Me27 x_3.fst (1:Int)→RdsP xs∧bif !decide (YtgnnafneglannaaDoor.fdB xs (1:Int)=decide ((↑(List.length (vl x_3.snd (1:Int))):Int)=(1:Int))) then false=true else bif YtgnnafneglannaaDoor.fdB xs (1:Int) then bif decide ((0:Int) ≤
 (0:Int)∧(0:Int) < (↑(List.length (vl x_3.snd (1:Int))):Int)) then bif decide (q9 x_3.snd x_3.snd 1∧0 < List.length (vl x_3.snd (1:Int))) then ∃ n_7,List.take [AV.int .i64 n_7].length (List.drop (0:Nat) (List.getD (vl x_3.snd (1:Int)) (0:Nat) []))=[AV.int .i64 n_7]∧bif decide ¬YtgnnafneglannaaDoor.fdV xs (1:Int)=n_7 then false=true else (IntsB xs_1∧Ln xs_1)∧bif !decide (inI xs_1 (1:Int)=decide
 ((1:Int) < (↑(List.length (vl x_3.snd (1:Int))):Int))) then false=true else ∃ y,Me34 (ibO os) n s n_1 x_1.snd y∧U9 (me34 (ibO os) (P9 mrO ibO os m) x n s n_1 n_2 n_3 n_4 n_5 xs n_6 xs_1 x_1.snd x_2.snd.snd) y x_3∧(M9 (ibO os) (P9 mrO ibO os m) x (x_2.snd.snd=x_2.snd.snd∧(0:Nat)=0∧(2:Int)=y.fst∧True))∧X9 n s n_1 n_2 n_3 n_4 n_5 xs n_6 xs_1∧(L9 x_3.snd y.snd)∧R9 x_3.snd y.snd else False else False
 else (IntsB xs_1∧Ln xs_1)∧bif !decide (inI xs_1 (1:Int)=decide ((1:Int) < (↑(List.length (vl x_3.snd (1:Int))):Int))) then false=true else ∃ y,Me34 (ibO os) n s n_1 x_1.snd y∧U9 (me34 (ibO os) (P9 mrO ibO os m) x n s n_1 n_2 n_3 n_4 n_5 xs n_6 xs_1 x_1.snd x_2.snd.snd) y x_3∧(M9 (ibO os) (P9 mrO ibO os m) x (x_2.snd.snd=x_2.snd.snd∧(0:Nat)=0∧(2:Int)=y.fst∧True))∧X9 n s n_1 n_2 n_3 n_4 n_5 xs n_6
 xs_1∧(L9 x_3.snd y.snd)∧R9 x_3.snd y.snd)∧(Me27 x_3.fst (2:Int)→RdsP xs∧bif !decide (YtgnnafneglannaaDoor.fdB xs (2:Int)=decide ((↑(List.length (vl x_3.snd (2:Int))):Int)=(1:Int))) then false=true else bif YtgnnafneglannaaDoor.fdB xs (2:Int) then bif decide ((0:Int)≤(0:Int)∧(0:Int) < (↑(List.length (vl x_3.snd (2:Int))):Int)) then bif decide (q9 x_3.snd x_3.snd 2∧0 < List.length (vl x_3.snd
 (2:Int))) then ∃ n_7,List.take [AV.int .i64 n_7].length (List.drop (0:Nat) (List.getD (vl x_3.snd (2:Int)) (0:Nat) []))=[AV.int .i64 n_7]∧bif decide ¬YtgnnafneglannaaDoor.fdV xs (2:Int)=n_7 then false=true else (IntsB xs_1∧Ln xs_1)∧bif !decide (inI xs_1 (2:Int)=decide ((1:Int) < (↑(List.length (vl x_3.snd (2:Int))):Int))) then false=true else ∃ y,Me34 (ibO os) n s n_1 x_1.snd y∧U9 (me34 (ibO os)
 (P9 mrO ibO os m) x n s n_1 n_2 n_3 n_4 n_5 xs n_6 xs_1 x_1.snd x_2.snd.snd) y x_3∧(M9 (ibO os) (P9 mrO ibO os m) x (x_2.snd.snd=x_2.snd.snd∧(0:Nat)=0∧(3:Int)=y.fst∧True))∧X9 n s n_1 n_2 n_3 n_4 n_5 xs n_6 xs_1∧(L9 x_3.snd y.snd)∧R9 x_3.snd y.snd else False else False else (IntsB xs_1∧Ln xs_1)∧bif !decide (inI xs_1 (2:Int)=decide ((1:Int) < (↑(List.length (vl x_3.snd (2:Int))):Int))) then
 false=true else ∃ y,Me34 (ibO os) n s n_1 x_1.snd y∧U9 (me34 (ibO os) (P9 mrO ibO os m) x n s n_1 n_2 n_3 n_4 n_5 xs n_6 xs_1 x_1.snd x_2.snd.snd) y x_3∧(M9 (ibO os) (P9 mrO ibO os m) x (x_2.snd.snd=x_2.snd.snd∧(0:Nat)=0∧(3:Int)=y.fst∧True))∧X9 n s n_1 n_2 n_3 n_4 n_5 xs n_6 xs_1∧(L9 x_3.snd y.snd)∧R9 x_3.snd y.snd)∧(Me27 x_3.fst (3:Int)→RdsP xs∧bif !decide (YtgnnafneglannaaDoor.fdB xs
 (3:Int)=decide ((↑(List.length (vl x_3.snd (3:Int))):Int)=(1:Int))) then false=true else bif YtgnnafneglannaaDoor.fdB xs (3:Int) then bif decide ((0:Int)≤(0:Int)∧(0:Int) < (↑(List.length (vl x_3.snd (3:Int))):Int)) then bif decide (q9 x_3.snd x_3.snd 3∧0 < List.length (vl x_3.snd (3:Int))) then ∃ n_7,List.take [AV.int .i64 n_7].length (List.drop (0:Nat) (List.getD (vl x_3.snd (3:Int))
 (0:Nat) []))=[AV.int .i64 n_7]∧bif decide ¬YtgnnafneglannaaDoor.fdV xs (3:Int)=n_7 then false=true else (IntsB xs_1∧Ln xs_1)∧bif !decide (inI xs_1 (3:Int)=decide ((1:Int) < (↑(List.length (vl x_3.snd (3:Int))):Int))) then false=true else ∃ y,Me34 (ibO os) n s n_1 x_1.snd y∧U9 (me34 (ibO os) (P9 mrO ibO os m) x n s n_1 n_2 n_3 n_4 n_5 xs n_6 xs_1 x_1.snd x_2.snd.snd) y x_3∧(M9 (ibO os) (P9 mrO ibO
 os m) x (x_2.snd.snd=x_2.snd.snd∧(0:Nat)=0∧(4:Int)=y.fst∧True))∧X9 n s n_1 n_2 n_3 n_4 n_5 xs n_6 xs_1∧(L9 x_3.snd y.snd)∧R9 x_3.snd y.snd else False else False else (IntsB xs_1∧Ln xs_1)∧bif !decide (inI xs_1 (3:Int)=decide ((1:Int) < (↑(List.length (vl x_3.snd (3:Int))):Int))) then false=true else ∃ y,Me34 (ibO os) n s n_1 x_1.snd y∧U9 (me34 (ibO os) (P9 mrO ibO os m) x n s n_1 n_2 n_3 n_4 n_5 xs
 n_6 xs_1 x_1.snd x_2.snd.snd) y x_3∧(M9 (ibO os) (P9 mrO ibO os m) x (x_2.snd.snd=x_2.snd.snd∧(0:Nat)=0∧(4:Int)=y.fst∧True))∧X9 n s n_1 n_2 n_3 n_4 n_5 xs n_6 xs_1∧(L9 x_3.snd y.snd)∧R9 x_3.snd y.snd)∧(Me27 x_3.fst (4:Int)→RdsP xs∧bif !decide (YtgnnafneglannaaDoor.fdB xs (4:Int)=decide ((↑(List.length (vl x_3.snd (4:Int))):Int)=(1:Int))) then false=true else bif YtgnnafneglannaaDoor.fdB xs (4:Int)
 then bif decide ((0:Int)≤(0:Int)∧(0:Int) < (↑(List.length (vl x_3.snd (4:Int))):Int)) then bif decide (q9 x_3.snd x_3.snd 4∧0 < List.length (vl x_3.snd (4:Int))) then ∃ n_7,List.take [AV.int .i64 n_7].length (List.drop (0:Nat) (List.getD (vl x_3.snd (4:Int)) (0:Nat) []))=[AV.int .i64 n_7]∧bif decide ¬YtgnnafneglannaaDoor.fdV xs (4:Int)=n_7 then false=true else (IntsB xs_1∧Ln xs_1)∧bif
 !decide (inI xs_1 (4:Int)=decide ((1:Int) < (↑(List.length (vl x_3.snd (4:Int))):Int))) then false=true else ∃ y,Me34 (ibO os) n s n_1 x_1.snd y∧U9 (me34 (ibO os) (P9 mrO ibO os m) x n s n_1 n_2 n_3 n_4 n_5 xs n_6 xs_1 x_1.snd x_2.snd.snd) y x_3∧(M9 (ibO os) (P9 mrO ibO os m) x (x_2.snd.snd=x_2.snd.snd∧(0:Nat)=0∧(5:Int)=y.fst∧True))∧X9 n s n_1 n_2 n_3 n_4 n_5 xs n_6 xs_1∧(L9 x_3.snd y.snd)∧R9
 x_3.snd y.snd else False else False else (IntsB xs_1∧Ln xs_1)∧bif !decide (inI xs_1 (4:Int)=decide ((1:Int) < (↑(List.length (vl x_3.snd (4:Int))):Int))) then false=true else ∃ y,Me34 (ibO os) n s n_1 x_1.snd y∧U9 (me34 (ibO os) (P9 mrO ibO os m) x n s n_1 n_2 n_3 n_4 n_5 xs n_6 xs_1 x_1.snd x_2.snd.snd) y x_3∧(M9 (ibO os) (P9 mrO ibO os m) x
 (x_2.snd.snd=x_2.snd.snd∧(0:Nat)=0∧(5:Int)=y.fst∧True))∧X9 n s n_1 n_2 n_3 n_4 n_5 xs n_6 xs_1∧(L9 x_3.snd y.snd)∧R9 x_3.snd y.snd)∧(Me27 x_3.fst (5:Int)→RdsP xs∧bif !decide (YtgnnafneglannaaDoor.fdB xs (5:Int)=decide ((↑(List.length (vl x_3.snd (5:Int))):Int)=(1:Int))) then false=true else bif YtgnnafneglannaaDoor.fdB xs (5:Int) then bif decide ((0:Int)≤(0:Int)∧(0:Int) < (↑(List.length (vl
 x_3.snd (5:Int))):Int)) then bif decide (q9 x_3.snd x_3.snd 5∧0 < List.length (vl x_3.snd (5:Int))) then ∃ n_7,List.take [AV.int .i64 n_7].length (List.drop (0:Nat) (List.getD (vl x_3.snd (5:Int)) (0:Nat) []))=[AV.int .i64 n_7]∧bif decide ¬YtgnnafneglannaaDoor.fdV xs (5:Int)=n_7 then false=true else (IntsB xs_1∧Ln xs_1)∧bif !decide (inI xs_1 (5:Int)=decide ((1:Int) < (↑(List.length (vl
 x_3.snd (5:Int))):Int))) then false=true else ∃ y,Me34 (ibO os) n s n_1 x_1.snd y∧U9 (me34 (ibO os) (P9 mrO ibO os m) x n s n_1 n_2 n_3 n_4 n_5 xs n_6 xs_1 x_1.snd x_2.snd.snd) y x_3∧(M9 (ibO os) (P9 mrO ibO os m) x (x_2.snd.snd=x_2.snd.snd∧(0:Nat)=0∧(6:Int)=y.fst∧True))∧X9 n s n_1 n_2 n_3 n_4 n_5 xs n_6 xs_1∧(L9 x_3.snd y.snd)∧R9 x_3.snd y.snd else False else False else (IntsB xs_1∧Ln xs_1)∧bif
 !decide (inI xs_1 (5:Int)=decide ((1:Int) < (↑(List.length (vl x_3.snd (5:Int))):Int))) then false=true else ∃ y,Me34 (ibO os) n s n_1 x_1.snd y∧U9 (me34 (ibO os) (P9 mrO ibO os m) x n s n_1 n_2 n_3 n_4 n_5 xs n_6 xs_1 x_1.snd x_2.snd.snd) y x_3∧(M9 (ibO os) (P9 mrO ibO os m) x (x_2.snd.snd=x_2.snd.snd∧(0:Nat)=0∧(6:Int)=y.fst∧True))∧X9 n s n_1 n_2 n_3 n_4 n_5 xs n_6 xs_1∧(L9 x_3.snd y.snd)∧R9
 x_3.snd y.snd)∧(Me27 x_3.fst (6:Int)→RdsP xs∧bif !decide (YtgnnafneglannaaDoor.fdB xs (6:Int)=decide ((↑(List.length (vl x_3.snd (6:Int))):Int)=(1:Int))) then false=true else bif YtgnnafneglannaaDoor.fdB xs (6:Int) then bif decide ((0:Int)≤(0:Int)∧(0:Int) < (↑(List.length (vl x_3.snd (6:Int))):Int)) then bif decide (q9 x_3.snd x_3.snd 6∧0 < List.length (vl x_3.snd (6:Int))) then ∃
 n_7,List.take [AV.int .i64 n_7].length (List.drop (0:Nat) (List.getD (vl x_3.snd (6:Int)) (0:Nat) []))=[AV.int .i64 n_7]∧bif decide ¬YtgnnafneglannaaDoor.fdV xs (6:Int)=n_7 then false=true else (IntsB xs_1∧Ln xs_1)∧bif !decide (inI xs_1 (6:Int)=decide ((1:Int) < (↑(List.length (vl x_3.snd (6:Int))):Int))) then false=true else ∃ y,Me34 (ibO os) n s n_1 x_1.snd y∧U9 (me34 (ibO os) (P9 mrO ibO os m) x
 n s n_1 n_2 n_3 n_4 n_5 xs n_6 xs_1 x_1.snd x_2.snd.snd) y x_3∧(M9 (ibO os) (P9 mrO ibO os m) x (x_2.snd.snd=x_2.snd.snd∧(0:Nat)=0∧(7:Int)=y.fst∧True))∧X9 n s n_1 n_2 n_3 n_4 n_5 xs n_6 xs_1∧(L9 x_3.snd y.snd)∧R9 x_3.snd y.snd else False else False else (IntsB xs_1∧Ln xs_1)∧bif !decide (inI xs_1 (6:Int)=decide ((1:Int) < (↑(List.length (vl x_3.snd (6:Int))):Int))) then false=true else ∃ y,Me34 (ibO
 os) n s n_1 x_1.snd y∧U9 (me34 (ibO os) (P9 mrO ibO os m) x n s n_1 n_2 n_3 n_4 n_5 xs n_6 xs_1 x_1.snd x_2.snd.snd) y x_3∧(M9 (ibO os) (P9 mrO ibO os m) x (x_2.snd.snd=x_2.snd.snd∧(0:Nat)=0∧(7:Int)=y.fst∧True))∧X9 n s n_1 n_2 n_3 n_4 n_5 xs n_6 xs_1∧(L9 x_3.snd y.snd)∧R9 x_3.snd y.snd)∧(Me27 x_3.fst (7:Int)→RdsP xs∧bif !decide (YtgnnafneglannaaDoor.fdB xs (7:Int)=decide ((↑(List.length (vl x_3.snd
 (7:Int))):Int)=(1:Int))) then false=true else bif YtgnnafneglannaaDoor.fdB xs (7:Int) then bif decide ((0:Int)≤(0:Int)∧(0:Int) < (↑(List.length (vl x_3.snd (7:Int))):Int)) then bif decide (q9 x_3.snd x_3.snd 7∧0 < List.length (vl x_3.snd (7:Int))) then ∃ n_7,List.take [AV.int .i64 n_7].length (List.drop (0:Nat) (List.getD (vl x_3.snd (7:Int)) (0:Nat) []))=[AV.int .i64 n_7]∧bif decide
 ¬YtgnnafneglannaaDoor.fdV xs (7:Int)=n_7 then false=true else (IntsB xs_1∧Ln xs_1)∧bif !decide (inI xs_1 (7:Int)=decide ((1:Int) < (↑(List.length (vl x_3.snd (7:Int))):Int))) then false=true else ∃ y,Me34 (ibO os) n s n_1 x_1.snd y∧U9 (me34 (ibO os) (P9 mrO ibO os m) x n s n_1 n_2 n_3 n_4 n_5 xs n_6 xs_1 x_1.snd x_2.snd.snd) y x_3∧(M9 (ibO os) (P9 mrO ibO os m) x
 (x_2.snd.snd=x_2.snd.snd∧(0:Nat)=0∧(8:Int)=y.fst∧True))∧X9 n s n_1 n_2 n_3 n_4 n_5 xs n_6 xs_1∧(L9 x_3.snd y.snd)∧R9 x_3.snd y.snd else False else False else (IntsB xs_1∧Ln xs_1)∧bif !decide (inI xs_1 (7:Int)=decide ((1:Int) < (↑(List.length (vl x_3.snd (7:Int))):Int))) then false=true else ∃ y,Me34 (ibO os) n s n_1 x_1.snd y∧U9 (me34 (ibO os) (P9 mrO ibO os m) x n s n_1 n_2 n_3 n_4 n_5 xs n_6 xs_1
 x_1.snd x_2.snd.snd) y x_3∧(M9 (ibO os) (P9 mrO ibO os m) x (x_2.snd.snd=x_2.snd.snd∧(0:Nat)=0∧(8:Int)=y.fst∧True))∧X9 n s n_1 n_2 n_3 n_4 n_5 xs n_6 xs_1∧(L9 x_3.snd y.snd)∧R9 x_3.snd y.snd)∧(Me27 x_3.fst (8:Int)→RdsP xs∧bif !decide (YtgnnafneglannaaDoor.fdB xs (8:Int)=decide ((↑(List.length (vl x_3.snd (8:Int))):Int)=(1:Int))) then false=true else bif YtgnnafneglannaaDoor.fdB xs (8:Int) then bif
 decide ((0:Int)≤(0:Int)∧(0:Int) < (↑(List.length (vl x_3.snd (8:Int))):Int)) then bif decide (q9 x_3.snd x_3.snd 8∧0 < List.length (vl x_3.snd (8:Int))) then ∃ n_7,List.take [AV.int .i64 n_7].length (List.drop (0:Nat) (List.getD (vl x_3.snd (8:Int)) (0:Nat) []))=[AV.int .i64 n_7]∧bif decide ¬YtgnnafneglannaaDoor.fdV xs (8:Int)=n_7 then false=true else (IntsB xs_1∧Ln xs_1)∧bif !decide (inI
 xs_1 (8:Int)=decide ((1:Int) < (↑(List.length (vl x_3.snd (8:Int))):Int))) then false=true else ∃ y,Me34 (ibO os) n s n_1 x_1.snd y∧U9 (me34 (ibO os) (P9 mrO ibO os m) x n s n_1 n_2 n_3 n_4 n_5 xs n_6 xs_1 x_1.snd x_2.snd.snd) y x_3∧(M9 (ibO os) (P9 mrO ibO os m) x (x_2.snd.snd=x_2.snd.snd∧(0:Nat)=0∧(9:Int)=y.fst∧True))∧X9 n s n_1 n_2 n_3 n_4 n_5 xs n_6 xs_1∧(L9 x_3.snd y.snd)∧R9 x_3.snd y.snd else
 False else False else (IntsB xs_1∧Ln xs_1)∧bif !decide (inI xs_1 (8:Int)=decide ((1:Int) < (↑(List.length (vl x_3.snd (8:Int))):Int))) then false=true else ∃ y,Me34 (ibO os) n s n_1 x_1.snd y∧U9 (me34 (ibO os) (P9 mrO ibO os m) x n s n_1 n_2 n_3 n_4 n_5 xs n_6 xs_1 x_1.snd x_2.snd.snd) y x_3∧(M9 (ibO os) (P9 mrO ibO os m) x (x_2.snd.snd=x_2.snd.snd∧(0:Nat)=0∧(9:Int)=y.fst∧True))∧X9 n s n_1 n_2 n_3
 n_4 n_5 xs n_6 xs_1∧(L9 x_3.snd y.snd)∧R9 x_3.snd y.snd)∧(Me27 x_3.fst (9:Int)→RdsP xs∧bif !decide (YtgnnafneglannaaDoor.fdB xs (9:Int)=decide ((↑(List.length (vl x_3.snd (9:Int))):Int)=(1:Int))) then false=true else bif YtgnnafneglannaaDoor.fdB xs (9:Int) then bif decide ((0:Int)≤(0:Int)∧(0:Int) < (↑(List.length (vl x_3.snd (9:Int))):Int)) then bif decide (q9 x_3.snd x_3.snd 9∧(0:Nat) <
 List.length (vl x_3.snd (9:Int))) then ∃ n_7,List.take [AV.int .i64 n_7].length (List.drop (0:Nat) (List.getD (vl x_3.snd (9:Int)) (0:Nat) []))=[AV.int .i64 n_7]∧bif decide ¬YtgnnafneglannaaDoor.fdV xs (9:Int)=n_7 then false=true else (IntsB xs_1∧Ln xs_1)∧bif !decide (inI xs_1 (9:Int)=decide ((1:Int) < (↑(List.length (vl x_3.snd (9:Int))):Int))) then false=true else ∃ y,Me34 (ibO os) n s n_1
 x_1.snd y∧U9 (me34 (ibO os) (P9 mrO ibO os m) x n s n_1 n_2 n_3 n_4 n_5 xs n_6 xs_1 x_1.snd x_2.snd.snd) y x_3∧(M9 (ibO os) (P9 mrO ibO os m) x (x_2.snd.snd=x_2.snd.snd∧(0:Nat)=0∧(10:Int)=y.fst∧True))∧X9 n s n_1 n_2 n_3 n_4 n_5 xs n_6 xs_1∧(L9 x_3.snd y.snd)∧R9 x_3.snd y.snd else False else False else (IntsB xs_1∧Ln xs_1)∧bif !decide (inI xs_1 (9:Int)=decide ((1:Int) < (↑(List.length (vl x_3.snd
 (9:Int))):Int))) then false=true else ∃ y,Me34 (ibO os) n s n_1 x_1.snd y∧U9 (me34 (ibO os) (P9 mrO ibO os m) x n s n_1 n_2 n_3 n_4 n_5 xs n_6 xs_1 x_1.snd x_2.snd.snd) y x_3∧(M9 (ibO os) (P9 mrO ibO os m) x (x_2.snd.snd=x_2.snd.snd∧(0:Nat)=0∧(10:Int)=y.fst∧True))∧X9 n s n_1 n_2 n_3 n_4 n_5 xs n_6 xs_1∧(L9 x_3.snd y.snd)∧R9 x_3.snd y.snd)∧(Me27 x_3.fst (10:Int)→RdsP xs∧bif !decide
 (YtgnnafneglannaaDoor.fdB xs (10:Int)=decide ((↑(List.length (vl x_3.snd (10:Int))):Int)=(1:Int))) then false=true else bif YtgnnafneglannaaDoor.fdB xs (10:Int) then bif decide ((0:Int)≤(0:Int)∧(0:Int) < (↑(List.length (vl x_3.snd (10:Int))):Int)) then bif decide (q9 x_3.snd x_3.snd 10∧0 < List.length (vl x_3.snd (10:Int))) then ∃ n_7,List.take [AV.int .i64 n_7].length (List.drop (0:Nat)
 (List.getD (vl x_3.snd (10:Int)) (0:Nat) []))=[AV.int .i64 n_7]∧bif decide ¬YtgnnafneglannaaDoor.fdV xs (10:Int)=n_7 then false=true else (IntsB xs_1∧Ln xs_1)∧bif !decide (inI xs_1 (10:Int)=decide ((1:Int) < (↑(List.length (vl x_3.snd (10:Int))):Int))) then false=true else ∃ y,Me34 (ibO os) n s n_1 x_1.snd y∧U9 (me34 (ibO os) (P9 mrO ibO os m) x n s n_1 n_2 n_3 n_4 n_5 xs n_6 xs_1 x_1.snd
 x_2.snd.snd) y x_3∧(M9 (ibO os) (P9 mrO ibO os m) x (x_2.snd.snd=x_2.snd.snd∧(0:Nat)=0∧(11:Int)=y.fst∧True))∧X9 n s n_1 n_2 n_3 n_4 n_5 xs n_6 xs_1∧(L9 x_3.snd y.snd)∧R9 x_3.snd y.snd else False else False else (IntsB xs_1∧Ln xs_1)∧bif !decide (inI xs_1 (10:Int)=decide ((1:Int) < (↑(List.length (vl x_3.snd (10:Int))):Int))) then false=true else ∃ y,Me34 (ibO os) n s n_1 x_1.snd y∧U9 (me34 (ibO os)
 (P9 mrO ibO os m) x n s n_1 n_2 n_3 n_4 n_5 xs n_6 xs_1 x_1.snd x_2.snd.snd) y x_3∧(M9 (ibO os) (P9 mrO ibO os m) x (x_2.snd.snd=x_2.snd.snd∧(0:Nat)=0∧(11:Int)=y.fst∧True))∧X9 n s n_1 n_2 n_3 n_4 n_5 xs n_6 xs_1∧(L9 x_3.snd y.snd)∧R9 x_3.snd y.snd)∧(Me27 x_3.fst (11:Int)→RdsP xs∧bif !decide (YtgnnafneglannaaDoor.fdB xs (11:Int)=decide ((↑(List.length (vl x_3.snd (11:Int))):Int)=(1:Int))) then
 false=true else bif YtgnnafneglannaaDoor.fdB xs (11:Int) then bif decide ((0:Int)≤(0:Int)∧(0:Int) < (↑(List.length (vl x_3.snd (11:Int))):Int)) then bif decide (q9 x_3.snd x_3.snd 11∧0 < List.length (vl x_3.snd (11:Int))) then ∃ n_7,List.take [AV.int .i64 n_7].length (List.drop (0:Nat) (List.getD (vl x_3.snd (11:Int)) (0:Nat) []))=[AV.int .i64 n_7]∧bif decide ¬YtgnnafneglannaaDoor.fdV xs
 (11:Int)=n_7 then false=true else (IntsB xs_1∧Ln xs_1)∧bif !decide (inI xs_1 (11:Int)=decide ((1:Int) < (↑(List.length (vl x_3.snd (11:Int))):Int))) then false=true else ∃ y,Me34 (ibO os) n s n_1 x_1.snd y∧U9 (me34 (ibO os) (P9 mrO ibO os m) x n s n_1 n_2 n_3 n_4 n_5 xs n_6 xs_1 x_1.snd x_2.snd.snd) y x_3∧(M9 (ibO os) (P9 mrO ibO os m) x (x_2.snd.snd=x_2.snd.snd∧(0:Nat)=0∧(12:Int)=y.fst∧True))∧X9 n
 s n_1 n_2 n_3 n_4 n_5 xs n_6 xs_1∧(L9 x_3.snd y.snd)∧R9 x_3.snd y.snd else False else False else (IntsB xs_1∧Ln xs_1)∧bif !decide (inI xs_1 (11:Int)=decide ((1:Int) < (↑(List.length (vl x_3.snd (11:Int))):Int))) then false=true else ∃ y,Me34 (ibO os) n s n_1 x_1.snd y∧U9 (me34 (ibO os) (P9 mrO ibO os m) x n s n_1 n_2 n_3 n_4 n_5 xs n_6 xs_1 x_1.snd x_2.snd.snd) y x_3∧(M9 (ibO os) (P9 mrO ibO os m)
 x (x_2.snd.snd=x_2.snd.snd∧(0:Nat)=0∧(12:Int)=y.fst∧True))∧X9 n s n_1 n_2 n_3 n_4 n_5 xs n_6 xs_1∧(L9 x_3.snd y.snd)∧R9 x_3.snd y.snd)∧True else False else True∧true=true else False else False else False
set_option maxRecDepth 100000 in
theorem lmerges_P:lmerges_T mrE mrO ibO fdV fdB adE adO inV suC ouL aw1:=by
  unfold lmerges_T
  intro xs hz _
  have hs:SrcI (List.take 2000 xs):=SrcI.take hz
  refine ⟨trivial,⟨hs,by decide⟩,fun m j q1=>⟨⟨⟨hs,q1.fj⟩,q1.fm,by decide,by decide⟩,fun os j q2=>⟨itw_gd q2 (by decide),?_⟩⟩⟩
  have hm:=q1.fm
  refine cdI (by omega) (cdI (by omega) (cdI (by omega) ?_))
  have hw:=bw_of q2 (by decide)
  unfold P9
  generalize ibO os=B at *
  have hft:m - 200≤m+200:=by omega
  generalize m - 200=fr at *
  generalize m+200=to at *
  generalize m+400=cut at *
  obtain ⟨e1,hmg,hP,hat⟩:=grp_at hw hft
  have ok:=hw.ok
  have hB:=(inV_ok ok.fv).1
  refine ⟨ok.fp,csx (fun w=>absurd e1 w) (fun _=>?_)⟩
  generalize mrO B fr to cut=P at *
  refine ⟨⟨0,⟨by decide,by omega⟩,by (repeat' (first | exact trivial | exact rfl | assumption | apply And.intro))⟩,?_⟩
  rintro i ⟨i0,i1⟩
  refine csx (fun hi=>cd1 (by omega) ?_) (fun hi=>⟨trivial,rfl⟩)
  obtain ⟨g,hg,hrow⟩:=hat i.toNat (by omega)
  have hRd:=gR_rds hg.fm
  have hCs:=gC_ints (G:=g)
  have hgl:=hg.fm.fl
  have hel:∀ k:Nat,1≤k→k < 12→ElP (rdsF g) (gR g) (gC g) k:=fun k h1 h2=>el_ok h1 h2
  have hpl:∀ y ∈ g,inI (gC g) 0=false→itPl y=[gQ g 0,gQ g 1,gQ g 2,gQ g 3]:=fun y hy h=>pl_in hy (fun z hz=>by
    obtain ⟨w,hw2,rfl⟩:=List.mem_iff_getElem.1 hz
    obtain ⟨k,nm,t,f,a,b,c,rd,co,ar,h3,_⟩:=hg.fm.fr w hw2
    rw [getD_lt hw2] at h3
    rw [h3]; exact ⟨f,a,b,c,rfl⟩) h
  have hge:=hg.fe
  have hgk:=hg.fk
  refine ⟨gK g,gN g,gT g,gQ g 0,gQ g 1,gQ g 2,gQ g 3,gR g,g.length,gC g,by rw [hrow]; rfl,?_⟩
  generalize gQ g 0=pf at *
  generalize gQ g 1=pa at *
  generalize gQ g 2=pb at *
  generalize gQ g 3=pc at *
  generalize gR g=rd at *
  generalize gC g=cs at *
  rw [← hgk] at hge
  generalize gK g=k at *
  generalize gN g=nm at *
  generalize gT g=t at *
  refine ⟨⟨(0,0),⟨by simp only; omega,rfl⟩,by (repeat' (first | exact trivial | exact rfl | assumption | apply And.intro))⟩,?_⟩
  rintro ⟨j,best⟩ ⟨⟨j0,j1⟩,jb⟩
  simp only at j0 j1 jb
  dsimp only
  refine csx (fun hj=>cd1 (by omega) ?_) (fun hj=>?_)
  · obtain ⟨k2,nm2,t2,f2,a2,b2,c2,rd2,co2,ar2,h2,_⟩:=ok.fp.fr j.toNat (by omega)
    have hky:itKy (itA k2 nm2 t2 f2 a2 b2 c2 rd2 co2 ar2)=mky k nm t↔k2=k∧nm2=nm∧t2=t:=ky3
    have hs1:bsF (B.take (j+1).toNat) (mky k nm t)=if itKy (itA k2 nm2 t2 f2 a2 b2 c2 rd2 co2 ar2)=mky k nm t then max (bsF (B.take j.toNat) (mky k nm t)) co2 else bsF (B.take j.toNat) (mky k nm t):=by
      rw [show (j+1).toNat=j.toNat+1 by omega,take_snoc (by omega),bsF_snoc,h2]; rfl
    have ms:∀ b9:Int,(me12 B P i k nm t pf pa pb pc rd g.length cs).m (j+1,b9) < (me12 B P i k nm t pf pa pb pc rd g.length cs).m (j,best):=fun b9=>by simp only [me12]; omega
    have no:¬ (k2=k∧nm2=nm∧t2=t)→Me12 B k nm t (j+1,best):=fun e=>⟨by simp only; omega,by simp only; rw [hs1,if_neg (fun z=>e (hky.1 z))]; exact jb⟩
    exact ⟨k2,nm2,t2,f2,a2,b2,c2,rd2,co2,ar2,by rw [h2]; rfl,csx (fun q1=>csx (fun q2=>csx (fun q3=>cdI (by omega) ⟨(j+1,max best co2),⟨by simp only; omega,by simp only; rw [hs1,if_pos (hky.2 ⟨q1,q2,q3⟩),jb]; omega⟩,ms _,by (repeat' (first | exact trivial | exact rfl | assumption | apply And.intro))⟩) (fun e=>cdI (by omega) ⟨(j+1,best),no (fun z=>e z.2.2),ms _,by (repeat' (first | exact trivial | exact rfl | assumption | apply And.intro))⟩)) (fun e=>cdI (by omega) ⟨(j+1,best),no (fun z=>e z.2.1),ms _,by (repeat' (first | exact trivial | exact rfl | assumption | apply And.intro))⟩)) (fun e=>cdI (by omega) ⟨(j+1,best),no (fun z=>e z.1),ms _,by (repeat' (first | exact trivial | exact rfl | assumption | apply And.intro))⟩)⟩
  · rw [List.take_of_length_le (by omega)] at jb
    rw [← jb] at hge
    clear j0 j1 hj
    refine ⟨⟨(0,[],0),⟨by simp only; omega,rfl,rfl⟩,by (repeat' (first | exact trivial | exact rfl | assumption | apply And.intro))⟩,?_⟩
    rintro ⟨j,V,n⟩ ⟨⟨j0,j1⟩,jv,jn⟩
    simp only at j0 j1 jv jn
    dsimp only
    refine csx (fun hj=>cd1 (by omega) ?_) (fun hj=>?_)
    · obtain ⟨k2,nm2,t2,f2,a2,b2,c2,rd2,co2,ar2,h2,hrd2⟩:=ok.fp.fr j.toNat (by omega)
      have hmem:B.getD j.toNat [] ∈ B:=by rw [getD_lt (by omega)]; exact List.getElem_mem _
      have hsn:B.take (j+1).toNat=B.take j.toNat++[itA k2 nm2 t2 f2 a2 b2 c2 rd2 co2 ar2]:=by rw [show (j+1).toNat=j.toNat+1 by omega,← h2]; exact take_snoc (by omega)
      have hky:itKy (itA k2 nm2 t2 f2 a2 b2 c2 rd2 co2 ar2)=mky k nm t↔k2=k∧nm2=nm∧t2=t:=ky3
      have ms:∀ z:LLA × Int,(me20 B P i k nm t pf pa pb pc rd g.length cs best).m (j+1,z) < (me20 B P i k nm t pf pa pb pc rd g.length cs best).m (j,V,n):=fun z=>by simp only [me20]; omega
      have no:¬ ((k2=k∧nm2=nm∧t2=t)∧co2=best)→Me20 B k nm t best (j+1,V,n):=fun e=>by
        have hv:vsT (B.take (j+1).toNat) (mky k nm t) best=vsT (B.take j.toNat) (mky k nm t) best:=by rw [hsn]; exact vsT_neg (fun z=>e ⟨hky.1 z.1,z.2⟩)
        exact ⟨by simp only; omega,by simp only; rw [hv]; exact jv,by simp only; rw [hv]; exact jn⟩
      have hnl:n≤150:=by
        have h1:=(vsT_sub (l:=B.take j.toNat) (q:=mky k nm t) (best:=best)).2
        have h3:(B.take j.toNat).length≤B.length:=by rw [List.length_take]; omega
        omega
      refine ⟨k2,nm2,t2,f2,a2,b2,c2,rd2,co2,ar2,by rw [h2]; rfl,csx (fun e=>cdI (by omega) ⟨(j+1,V,n),no (fun z=>e z.1.1),ms _,by (repeat' (first | exact trivial | exact rfl | assumption | apply And.intro))⟩) (fun q1=>csplit (fun e=>cdI (by omega) ⟨(j+1,V,n),no (fun z=>of_decide_eq_false (bn_t e) z.1.2.1),ms _,by (repeat' (first | exact trivial | exact rfl | assumption | apply And.intro))⟩) (fun q2=>csx (fun e=>cdI (by omega) ⟨(j+1,V,n),no (fun z=>e z.1.2.2),ms _,by (repeat' (first | exact trivial | exact rfl | assumption | apply And.intro))⟩) (fun q3=>csx (fun e=>cdI (by omega) ⟨(j+1,V,n),no (fun z=>e z.2),ms _,by (repeat' (first | exact trivial | exact rfl | assumption | apply And.intro))⟩) (fun q4=>cdI (by omega) ?_))))⟩
      have q1:=Decidable.not_not.1 q1
      have q2:=of_decide_eq_true (bn_f q2)
      have q3:=Decidable.not_not.1 q3
      have q4:=Decidable.not_not.1 q4
      have hpos:vsT (B.take (j+1).toNat) (mky k nm t) best=vsT (B.take j.toNat) (mky k nm t) best++[itA k2 nm2 t2 f2 a2 b2 c2 rd2 co2 ar2]:=by rw [hsn]; exact vsT_pos ⟨hky.2 ⟨q1,q2,q3⟩,q4⟩
      have hyg:itA k2 nm2 t2 f2 a2 b2 c2 rd2 co2 ar2 ∈ g:=by
        rw [hge]
        refine List.mem_filter.2 ⟨by rw [← h2]; exact hmem,?_⟩
        rw [decide_eq_true (hky.2 ⟨q1,q2,q3⟩),Bool.true_and]
        exact decide_eq_true q4
      rw [h2] at hmem
      obtain ⟨hr2,hl2⟩:=gd_rd hw.gd hmem
      have hr2:∀ r ∈ rd2,∃ e v:Int,r=[.int .i64 e,.int .i64 v]∧rng .i64 v:=hr2
      have hl2:rd2.length≤1000:=hl2
      obtain ⟨_,_,_,_,_,_,_,rd3,_,_,hE,_,hE2,_⟩:=ok.row hmem
      have hE3:rd2=rd3:=congrArg itRd hE
      rw [← hE3] at hE2
      refine ⟨⟨(0,V),⟨by simp only; omega,by simp only; rw [show rd2.take (Int.toNat 0)=[] from rfl,List.append_nil]; exact jv⟩,by (repeat' (first | exact trivial | exact rfl | assumption | apply And.intro))⟩,?_⟩
      rintro ⟨u,W⟩ ⟨⟨u0,u1⟩,uw⟩
      simp only at u0 u1 uw
      dsimp only
      have hW:∀ c:Int,IntsB (vl W c)∧(vl W c).length≤1000000:=fun c=>by
        rw [uw]
        have h1:=vsT_sub (l:=B.take j.toNat) (q:=mky k nm t) (best:=best)
        exact w_ok hw.gd (by have h3:(B.take j.toNat).length≤B.length:=by rw [List.length_take]; omega
                             omega) (fun y hy=>List.mem_of_mem_take (h1.1 y hy)) hr2 hl2 c
      refine csx (fun hu=>?_) (fun hu=>?_)
      · obtain ⟨e,v,h3,he1,hv1⟩:=hE2.fr u.toNat (by omega)
        have hee:rE (rd2.getD u.toNat [])=e:=by rw [h3]; rfl
        have hvv:rV (rd2.getD u.toNat [])=v:=by rw [h3]; rfl
        rw [hee,hvv]
        have ms2:(me25 B P i k nm t pf pa pb pc rd g.length cs best (n+1) j (itA k2 nm2 t2 f2 a2 b2 c2 rd2 co2 ar2) false rd2).m (u+1,W++[[.int .i64 e,.int .i64 v]]) < (me25 B P i k nm t pf pa pb pc rd g.length cs best (n+1) j (itA k2 nm2 t2 f2 a2 b2 c2 rd2 co2 ar2) false rd2).m (u,W):=by simp only [me25]; omega
        have nx:Me25 B k nm t best j rd2 (u+1,W++[[.int .i64 e,.int .i64 v]]):=⟨by simp only; omega,by simp only; rw [uw,show (u+1).toNat=u.toNat+1 by omega,take_snoc (by omega),h3,List.append_assoc]⟩
        have S:=vl_snoc W e v
        have F1:inI (vl W e) v=true→∀ d,vl (W++[[.int .i64 e,.int .i64 v]]) d=vl W d:=fun h d=>by
          rw [S d]
          by_cases q:e=d
          · rw [if_pos q,← q,if_pos h]
          · rw [if_neg q]
        have F2:inI (vl W e) v=false→(∀ d,¬ e=d→vl (W++[[.int .i64 e,.int .i64 v]]) d=vl W d)∧vl (W++[[.int .i64 e,.int .i64 v]]) e=vl W e++[[.int .i64 v]]:=fun h=>⟨fun d q=>by rw [S d,if_neg q],by rw [S e,if_pos rfl,if_neg (by rw [h]; simp)]⟩
        generalize W++[[.int .i64 e,.int .i64 v]]=W2 at *
        refine ⟨cd1 (by omega) ⟨e,v,by rw [h3]; rfl,e,⟨rfl,he1⟩,by (repeat' (first | exact trivial | exact rfl | assumption | apply And.intro))⟩,fun x h=>by have:=h.fb; omega,?_⟩
        refine ⟨?_,?_,?_,?_,?_,?_,?_,?_,?_,?_,?_,trivial⟩
        · rintro ⟨he,_⟩
          rw [← he] at F1 F2
          exact ⟨⟨rfl,(hW 1).1,⟨by have:=(hW 1).2; omega⟩⟩,csplit (fun hin=>cd1 ⟨rfl,lnX (hW 1).2 _⟩ (cdI (by omega) ⟨(u+1,W2),nx,ms2,by (have G:=F2 (bn_t hin); (repeat' (first | exact trivial | exact (G.1 _ (by decide)).symm | exact congrArg List.length (G.1 _ (by decide)).symm | exact G.2.symm | exact congrArg List.length G.2.symm | exact rfl | apply And.intro)))⟩)) (fun hin=>cdI (by omega) ⟨(u+1,W2),nx,ms2,by (have G:=F1 (bn_f hin); (repeat' (first | exact trivial | exact (G _).symm | exact congrArg List.length (G _).symm | exact rfl | apply And.intro)))⟩)⟩
        · rintro ⟨he,_⟩
          rw [← he] at F1 F2
          exact ⟨⟨rfl,(hW 2).1,⟨by have:=(hW 2).2; omega⟩⟩,csplit (fun hin=>cd1 ⟨rfl,lnX (hW 2).2 _⟩ (cdI (by omega) ⟨(u+1,W2),nx,ms2,by (have G:=F2 (bn_t hin); (repeat' (first | exact trivial | exact (G.1 _ (by decide)).symm | exact congrArg List.length (G.1 _ (by decide)).symm | exact G.2.symm | exact congrArg List.length G.2.symm | exact rfl | apply And.intro)))⟩)) (fun hin=>cdI (by omega) ⟨(u+1,W2),nx,ms2,by (have G:=F1 (bn_f hin); (repeat' (first | exact trivial | exact (G _).symm | exact congrArg List.length (G _).symm | exact rfl | apply And.intro)))⟩)⟩
        · rintro ⟨he,_⟩
          rw [← he] at F1 F2
          exact ⟨⟨rfl,(hW 3).1,⟨by have:=(hW 3).2; omega⟩⟩,csplit (fun hin=>cd1 ⟨rfl,lnX (hW 3).2 _⟩ (cdI (by omega) ⟨(u+1,W2),nx,ms2,by (have G:=F2 (bn_t hin); (repeat' (first | exact trivial | exact (G.1 _ (by decide)).symm | exact congrArg List.length (G.1 _ (by decide)).symm | exact G.2.symm | exact congrArg List.length G.2.symm | exact rfl | apply And.intro)))⟩)) (fun hin=>cdI (by omega) ⟨(u+1,W2),nx,ms2,by (have G:=F1 (bn_f hin); (repeat' (first | exact trivial | exact (G _).symm | exact congrArg List.length (G _).symm | exact rfl | apply And.intro)))⟩)⟩
        · rintro ⟨he,_⟩
          rw [← he] at F1 F2
          exact ⟨⟨rfl,(hW 4).1,⟨by have:=(hW 4).2; omega⟩⟩,csplit (fun hin=>cd1 ⟨rfl,lnX (hW 4).2 _⟩ (cdI (by omega) ⟨(u+1,W2),nx,ms2,by (have G:=F2 (bn_t hin); (repeat' (first | exact trivial | exact (G.1 _ (by decide)).symm | exact congrArg List.length (G.1 _ (by decide)).symm | exact G.2.symm | exact congrArg List.length G.2.symm | exact rfl | apply And.intro)))⟩)) (fun hin=>cdI (by omega) ⟨(u+1,W2),nx,ms2,by (have G:=F1 (bn_f hin); (repeat' (first | exact trivial | exact (G _).symm | exact congrArg List.length (G _).symm | exact rfl | apply And.intro)))⟩)⟩
        · rintro ⟨he,_⟩
          rw [← he] at F1 F2
          exact ⟨⟨rfl,(hW 5).1,⟨by have:=(hW 5).2; omega⟩⟩,csplit (fun hin=>cd1 ⟨rfl,lnX (hW 5).2 _⟩ (cdI (by omega) ⟨(u+1,W2),nx,ms2,by (have G:=F2 (bn_t hin); (repeat' (first | exact trivial | exact (G.1 _ (by decide)).symm | exact congrArg List.length (G.1 _ (by decide)).symm | exact G.2.symm | exact congrArg List.length G.2.symm | exact rfl | apply And.intro)))⟩)) (fun hin=>cdI (by omega) ⟨(u+1,W2),nx,ms2,by (have G:=F1 (bn_f hin); (repeat' (first | exact trivial | exact (G _).symm | exact congrArg List.length (G _).symm | exact rfl | apply And.intro)))⟩)⟩
        · rintro ⟨he,_⟩
          rw [← he] at F1 F2
          exact ⟨⟨rfl,(hW 6).1,⟨by have:=(hW 6).2; omega⟩⟩,csplit (fun hin=>cd1 ⟨rfl,lnX (hW 6).2 _⟩ (cdI (by omega) ⟨(u+1,W2),nx,ms2,by (have G:=F2 (bn_t hin); (repeat' (first | exact trivial | exact (G.1 _ (by decide)).symm | exact congrArg List.length (G.1 _ (by decide)).symm | exact G.2.symm | exact congrArg List.length G.2.symm | exact rfl | apply And.intro)))⟩)) (fun hin=>cdI (by omega) ⟨(u+1,W2),nx,ms2,by (have G:=F1 (bn_f hin); (repeat' (first | exact trivial | exact (G _).symm | exact congrArg List.length (G _).symm | exact rfl | apply And.intro)))⟩)⟩
        · rintro ⟨he,_⟩
          rw [← he] at F1 F2
          exact ⟨⟨rfl,(hW 7).1,⟨by have:=(hW 7).2; omega⟩⟩,csplit (fun hin=>cd1 ⟨rfl,lnX (hW 7).2 _⟩ (cdI (by omega) ⟨(u+1,W2),nx,ms2,by (have G:=F2 (bn_t hin); (repeat' (first | exact trivial | exact (G.1 _ (by decide)).symm | exact congrArg List.length (G.1 _ (by decide)).symm | exact G.2.symm | exact congrArg List.length G.2.symm | exact rfl | apply And.intro)))⟩)) (fun hin=>cdI (by omega) ⟨(u+1,W2),nx,ms2,by (have G:=F1 (bn_f hin); (repeat' (first | exact trivial | exact (G _).symm | exact congrArg List.length (G _).symm | exact rfl | apply And.intro)))⟩)⟩
        · rintro ⟨he,_⟩
          rw [← he] at F1 F2
          exact ⟨⟨rfl,(hW 8).1,⟨by have:=(hW 8).2; omega⟩⟩,csplit (fun hin=>cd1 ⟨rfl,lnX (hW 8).2 _⟩ (cdI (by omega) ⟨(u+1,W2),nx,ms2,by (have G:=F2 (bn_t hin); (repeat' (first | exact trivial | exact (G.1 _ (by decide)).symm | exact congrArg List.length (G.1 _ (by decide)).symm | exact G.2.symm | exact congrArg List.length G.2.symm | exact rfl | apply And.intro)))⟩)) (fun hin=>cdI (by omega) ⟨(u+1,W2),nx,ms2,by (have G:=F1 (bn_f hin); (repeat' (first | exact trivial | exact (G _).symm | exact congrArg List.length (G _).symm | exact rfl | apply And.intro)))⟩)⟩
        · rintro ⟨he,_⟩
          rw [← he] at F1 F2
          exact ⟨⟨rfl,(hW 9).1,⟨by have:=(hW 9).2; omega⟩⟩,csplit (fun hin=>cd1 ⟨rfl,lnX (hW 9).2 _⟩ (cdI (by omega) ⟨(u+1,W2),nx,ms2,by (have G:=F2 (bn_t hin); (repeat' (first | exact trivial | exact (G.1 _ (by decide)).symm | exact congrArg List.length (G.1 _ (by decide)).symm | exact G.2.symm | exact congrArg List.length G.2.symm | exact rfl | apply And.intro)))⟩)) (fun hin=>cdI (by omega) ⟨(u+1,W2),nx,ms2,by (have G:=F1 (bn_f hin); (repeat' (first | exact trivial | exact (G _).symm | exact congrArg List.length (G _).symm | exact rfl | apply And.intro)))⟩)⟩
        · rintro ⟨he,_⟩
          rw [← he] at F1 F2
          exact ⟨⟨rfl,(hW 10).1,⟨by have:=(hW 10).2; omega⟩⟩,csplit (fun hin=>cd1 ⟨rfl,lnX (hW 10).2 _⟩ (cdI (by omega) ⟨(u+1,W2),nx,ms2,by (have G:=F2 (bn_t hin); (repeat' (first | exact trivial | exact (G.1 _ (by decide)).symm | exact congrArg List.length (G.1 _ (by decide)).symm | exact G.2.symm | exact congrArg List.length G.2.symm | exact rfl | apply And.intro)))⟩)) (fun hin=>cdI (by omega) ⟨(u+1,W2),nx,ms2,by (have G:=F1 (bn_f hin); (repeat' (first | exact trivial | exact (G _).symm | exact congrArg List.length (G _).symm | exact rfl | apply And.intro)))⟩)⟩
        · rintro ⟨he,_⟩
          rw [← he] at F1 F2
          exact ⟨⟨rfl,(hW 11).1,⟨by have:=(hW 11).2; omega⟩⟩,csplit (fun hin=>cd1 ⟨rfl,lnX (hW 11).2 _⟩ (cdI (by omega) ⟨(u+1,W2),nx,ms2,by (have G:=F2 (bn_t hin); (repeat' (first | exact trivial | exact (G.1 _ (by decide)).symm | exact congrArg List.length (G.1 _ (by decide)).symm | exact G.2.symm | exact congrArg List.length G.2.symm | exact rfl | apply And.intro)))⟩)) (fun hin=>cdI (by omega) ⟨(u+1,W2),nx,ms2,by (have G:=F1 (bn_f hin); (repeat' (first | exact trivial | exact (G _).symm | exact congrArg List.length (G _).symm | exact rfl | apply And.intro)))⟩)⟩
      · have hW2:W=rdsF (vsT (B.take (j+1).toNat) (mky k nm t) best):=by
          rw [uw,show rd2.take u.toNat=rd2 from List.take_of_length_le (by omega),hpos,rdsF_snoc]; rfl
        have nx:Me20 B k nm t best (j+1,W,n+1):=⟨by simp only; omega,hW2,by simp only; rw [hpos,List.length_append,List.length_singleton]; omega⟩
        refine csplit (fun hp=>⟨hCs,csplit (fun hq=>?_) (fun _=>cdI (by omega) ⟨(j+1,W,n+1),nx,ms _,by (repeat' (first | exact trivial | exact rfl | assumption | apply And.intro))⟩)⟩) (fun _=>cdI (by omega) ⟨(j+1,W,n+1),nx,ms _,by (repeat' (first | exact trivial | exact rfl | assumption | apply And.intro))⟩)
        exfalso
        have h5:=hpl _ hyg (bn_t hq)
        have h5:[f2,a2,b2,c2]=[pf,pa,pb,pc]:=h5
        simp only [List.cons.injEq,and_true] at h5
        obtain ⟨z1,z2,z3,z4⟩:=h5
        rw [z1,z2,z3,z4] at hp
        simp at hp
    · rw [List.take_of_length_le (by omega)] at jv jn
      rw [← hge] at jv jn
      refine ⟨⟨(1,V),⟨by simp only; omega,by simp only; rw [← hge]; exact jv⟩,by (repeat' (first | exact trivial | exact rfl | assumption | apply And.intro))⟩,?_⟩
      rintro ⟨c,V2⟩ ⟨⟨c0,c1⟩,ve⟩
      simp only at c0 c1 ve
      dsimp only
      have ve2:V2=rdsF g:=by rw [hge]; exact ve
      rw [← ve2] at hel
      refine ⟨csx (fun hc=>⟨c,⟨rfl,by omega⟩,by (repeat' (first | exact trivial | exact rfl | assumption | apply And.intro))⟩) (fun hc=>csx (fun w=>absurd jn w) (fun _=>cdI (by omega) ⟨i+1,⟨by omega,by omega⟩,by simp only [U9,me8]; omega,by (repeat' (first | exact trivial | exact rfl | assumption | apply And.intro))⟩)),fun x h=>by have:=h.fb; omega,?_⟩
      refine ⟨?_,?_,?_,?_,?_,?_,?_,?_,?_,?_,?_,trivial⟩
      · exact fun h=>el_use (hel 1 (by decide) (by decide)) hRd hCs ⟨(2,V2),⟨by simp only; omega,ve⟩,by have:=h.fe; simp only [U9,me34]; omega,by (repeat' (first | exact trivial | exact rfl | assumption | apply And.intro))⟩
      · exact fun h=>el_use (hel 2 (by decide) (by decide)) hRd hCs ⟨(3,V2),⟨by simp only; omega,ve⟩,by have:=h.fe; simp only [U9,me34]; omega,by (repeat' (first | exact trivial | exact rfl | assumption | apply And.intro))⟩
      · exact fun h=>el_use (hel 3 (by decide) (by decide)) hRd hCs ⟨(4,V2),⟨by simp only; omega,ve⟩,by have:=h.fe; simp only [U9,me34]; omega,by (repeat' (first | exact trivial | exact rfl | assumption | apply And.intro))⟩
      · exact fun h=>el_use (hel 4 (by decide) (by decide)) hRd hCs ⟨(5,V2),⟨by simp only; omega,ve⟩,by have:=h.fe; simp only [U9,me34]; omega,by (repeat' (first | exact trivial | exact rfl | assumption | apply And.intro))⟩
      · exact fun h=>el_use (hel 5 (by decide) (by decide)) hRd hCs ⟨(6,V2),⟨by simp only; omega,ve⟩,by have:=h.fe; simp only [U9,me34]; omega,by (repeat' (first | exact trivial | exact rfl | assumption | apply And.intro))⟩
      · exact fun h=>el_use (hel 6 (by decide) (by decide)) hRd hCs ⟨(7,V2),⟨by simp only; omega,ve⟩,by have:=h.fe; simp only [U9,me34]; omega,by (repeat' (first | exact trivial | exact rfl | assumption | apply And.intro))⟩
      · exact fun h=>el_use (hel 7 (by decide) (by decide)) hRd hCs ⟨(8,V2),⟨by simp only; omega,ve⟩,by have:=h.fe; simp only [U9,me34]; omega,by (repeat' (first | exact trivial | exact rfl | assumption | apply And.intro))⟩
      · exact fun h=>el_use (hel 8 (by decide) (by decide)) hRd hCs ⟨(9,V2),⟨by simp only; omega,ve⟩,by have:=h.fe; simp only [U9,me34]; omega,by (repeat' (first | exact trivial | exact rfl | assumption | apply And.intro))⟩
      · exact fun h=>el_use (hel 9 (by decide) (by decide)) hRd hCs ⟨(10,V2),⟨by simp only; omega,ve⟩,by have:=h.fe; simp only [U9,me34]; omega,by (repeat' (first | exact trivial | exact rfl | assumption | apply And.intro))⟩
      · exact fun h=>el_use (hel 10 (by decide) (by decide)) hRd hCs ⟨(11,V2),⟨by simp only; omega,ve⟩,by have:=h.fe; simp only [U9,me34]; omega,by (repeat' (first | exact trivial | exact rfl | assumption | apply And.intro))⟩
      · exact fun h=>el_use (hel 11 (by decide) (by decide)) hRd hCs ⟨(12,V2),⟨by simp only; omega,ve⟩,by have:=h.fe; simp only [U9,me34]; omega,by (repeat' (first | exact trivial | exact rfl | assumption | apply And.intro))⟩
def lmerges_S (mrE:LLA→Int→Int→Int) (mrO:LLA→Int→Int→Int→LLA) (ibO:LLA→LLA) (fdV:List (List AV)→Int→Int) (fdB:List (List AV)→Int→Bool) (adE:LLA→List AV→Int) (adO:LLA→List AV→LLA) (inV:LLA→Int) (suC:Int→ByteArray→Int→Int→ByteArray→Int→Int) (ouL:LLA→LLA→LLA) (aw1:LLA):Prop:=∀ (xs:List (List AV)),IntsA xs→fnK Tryd.prog { glob:=glb,spec:=lk [(10,(qinbox_s ibO adE adO)),(25,(imerge_s inV suC ouL mrE mrO)),(29,rfind_s),(21,(iawake_s aw1 mrE mrO adE adO))],specH:=lk [(8,newsrc_s),(28,(orSpH kinV_s kinO_s))],specQ:=lk [(9,qminute_s),(11,qitemsW_s)],shape:=[49,55,91,132,194],slz:=[(49,[2,1]),(55,[2]),(91,[2])],nowf:=true } { nt:=216,drop:=drp [(1,12582912),(2,50331648),(3,1006632960),(4,4396972769280),(5,4398046511104),(9,844424930131968),(13,54043195528445952),(14,1208925747557035136778240),(15,36267774588438875241185280),(16,38685626227668133590597632),(21,3713820117856140824697372672),(22,5316911978187903334473707141524881408),(23,31901471898837980949691369446728269824),(24,127605887595351923798765477786913079296),(26,8166776806102523123120990578362437074944),(27,1382907539166693915515154404602706011357184),(28,5706203177674023196340451913013899500342738944),(29,5708990770823839524233143877797980545530986496),(30,46756634413047245703469448359165460667898779402240),(32,93536104789177786765035829293842113257979682750464),(34,187072209578355573530071658587684226515959365500928),(35,2244866514940266882360859903052210718191512386011136),(36,763254615079690740002692367037751644185114211243786240),(37,822752277894355250644540162099501738916213341007420370582503424),(39,11518531901248442295084784277901453534879151059435059043440263168),(41,26328072917139296674479506920917608079723773850137277813577744384),(42,52656145834278593348959013841835216159447547700274555627155488768)],tys:=[32],emp:=fun id=>cond (Nat.beq id 19) [(1001400,900,3,1),(1001401,901,3,1),(1001402,902,3,1),(1001403,903,3,1),(1001404,904,3,1),(1001405,905,3,1),(1001406,906,3,1),(1001407,907,3,1),(1001408,908,3,1),(1001409,909,3,1),(1001410,910,3,1),(1001411,911,3,1)] [] } (meJ) 20 Tryd.f6 [.sl 1 false xs] (.bool true)
set_option maxRecDepth 100000 in
theorem lmerges_e (mrE:LLA→Int→Int→Int) (mrO:LLA→Int→Int→Int→LLA) (ibO:LLA→LLA) (fdV:List (List AV)→Int→Int) (fdB:List (List AV)→Int→Bool) (adE:LLA→List AV→Int) (adO:LLA→List AV→LLA) (inV:LLA→Int) (suC:Int→ByteArray→Int→Int→ByteArray→Int→Int) (ouL:LLA→LLA→LLA) (aw1:LLA):lmerges_T mrE mrO ibO fdV fdB adE adO inV suC ouL aw1=lmerges_S mrE mrO ibO fdV fdB adE adO inV suC ouL aw1:=by kernel_rfl
theorem lmerges_v:lmerges_S mrE mrO ibO fdV fdB adE adO inV suC ouL aw1:=@Eq.mp (lmerges_T mrE mrO ibO fdV fdB adE adO inV suC ouL aw1) (lmerges_S mrE mrO ibO fdV fdB adE adO inV suC ouL aw1) (lmerges_e mrE mrO ibO fdV fdB adE adO inV suC ouL aw1) (lmerges_P)
theorem lmerges_ok:SOK Tryd.prog glb 6 (lmerges_s mrE mrO ibO fdV fdB):=by
  refine ⟨fok Tryd.func6 (by kernel_rfl) (by kernel_rfl),?_⟩
  intro xs pre r h hp
  unfold lmerges_s at h
  split at h
  · simp only [Option.some.injEq,Prod.mk.injEq] at h
    obtain ⟨h1,h2⟩:=h
    subst h1 h2
    exact fnK_sound (tyOf (by kernel_rfl)) (by exact specOK rfl rfl ⟨(qinbox_ok glb),(imerge_ok),(rfind_ok glb),(iawake_ok),trivial⟩ ⟨(newsrc_ok glb),(HOK.or (kinV_ok glb) (kinO_ok glb)),trivial⟩ (d:=qsOf rfl ⟨(qminute_ok glb),(qitemsW_ok glb),trivial⟩)) (by kernel_rfl) Tryd.func6 rfl (lmerges_v  _ hp)
  · cases h
end Go.Proofs.YtgnnafneglannaaDoor
namespace Go.Proofs.YtgnnafneglannaaDoor
open Go
open Go.ChangeShapes Go.WideShapes
open Go.RowKit (Below)
set_option linter.unusedVariables false
set_option linter.unusedSimpArgs false
def pinAll (w:World):Pin:=fun b o=>match w.cell? ⟨b,o,none⟩ with | some v=>cond v.oneCell' (some v) none | none=>none
theorem pinAll_some {w:World} {b o:Nat} {v:Value} (h:w.cell? ⟨b,o,none⟩=some v) (k:v.oneCell'=true):pinAll w b o=some v:=by simp [pinAll,h,k]
theorem agree_all (w:World):Agree (pinAll w) w:=by
  intro b o v h
  unfold pinAll at h
  split at h
  · next u e =>
    cases hk:u.oneCell' with
    | true=>rw [hk] at h; simp only [cond_true,Option.some.injEq] at h; subst h; exact ⟨e,hk⟩
    | false=>rw [hk] at h; cases h
  · cases h
def tiles (P:Program):List Field→Nat→Nat→Bool
  | [],o,n=>Nat.beq o n
  | f::fs,o,n=>Nat.beq f.offset o&&tiles P fs (o+P.cellsOf f.type) n
def supp (P:Program):Nat→TypeId→Bool
  | 0,_=>false
  | n+1,t=>match P.underlying t with
    | some .bool=>true
    | some (.int _)=>true
    | some .string=>true
    | some (.slice e)=>Nat.blt 0 (P.cellsOf e)&&supp P n e
    | some (.struct fs)=>tiles P fs.toList 0 (P.cellsOf t)&&fs.toList.all fun f=>supp P n f.type
    | some (.array m e)=>Nat.beq (m*P.cellsOf e) (P.cellsOf t)&&supp P n e
    | _=>false
def ShF (P:Program) (sh:TypeId→List AV→Prop):List Field→List AV→Prop
  | [],cs=>cs=[]
  | f::fs,cs=>∃ ys zs,sh f.type ys∧ShF P sh fs zs∧cs=ys++zs
def ShE (sh:List AV→Prop):Nat→List AV→Prop
  | 0,cs=>cs=[]
  | n+1,cs=>∃ ys zs,sh ys∧ShE sh n zs∧cs=ys++zs
def Sh (P:Program):Nat→TypeId→List AV→Prop
  | 0,_,_=>False
  | n+1,t,cs=>match P.underlying t with
    | some .bool=>∃ b,cs=[.bool b]
    | some (.int k)=>∃ z,rng k z∧cs=[.int k z]
    | some .string=>∃ s:ByteArray,s.size≤9223372036854775807∧cs=[.str s]
    | some (.slice e)=>∃ xs:List (List AV),xs.length≤9223372036854775807∧(∀ x ∈ xs,Sh P n e x)∧cs=[.sl (P.cellsOf e) false xs]
    | some (.struct fs)=>ShF P (Sh P n) fs.toList cs
    | some (.array m e)=>ShE (Sh P n e) m cs
    | _=>False
theorem shF_of {P:Program} {S:Pin} {sh:TypeId→List AV→Prop} {vs:List Value}:∀ (fs:List Field) (o tot:Nat),tiles P fs o tot=true→vs.length=tot →
    (∀ f ∈ fs,∃ ys,sh f.type ys∧allOne ys=true∧CVl S ys noNm ((vs.drop f.offset).take (P.cellsOf f.type)))→∃ cs,ShF P sh fs cs∧allOne cs=true∧CVl S cs noNm (vs.drop o)
  | [],o,tot,ht,hl,_=>by
    simp only [tiles] at ht
    have:=Nat.eq_of_beq_eq_true ht
    exact ⟨[],rfl,rfl,by simp only [CVl]; exact List.drop_eq_nil_of_le (by omega)⟩
  | f::fs,o,tot,ht,hl,h=>by
    simp only [tiles,Bool.and_eq_true] at ht
    obtain ⟨ho,ht⟩:=ht
    have ho:=Nat.eq_of_beq_eq_true ho
    obtain ⟨ys,h1,h2,h3⟩:=h f (List.mem_cons_self ..)
    obtain ⟨zs,k1,k2,k3⟩:=shF_of fs _ tot ht hl (fun g hg=>h g (List.mem_cons_of_mem _ hg))
    refine ⟨ys++zs,⟨ys,zs,h1,k1,rfl⟩,allOne_append h2 k2,?_⟩
    rw [ho] at h3
    have e:vs.drop o=(vs.drop o).take (P.cellsOf f.type)++vs.drop (o+P.cellsOf f.type):=by
      rw [← List.drop_drop]; exact (List.take_append_drop _ _).symm
    rw [e]
    exact CVl.append h3 k3
where allOne_append:∀ {xs ys:List AV},allOne xs=true→allOne ys=true→allOne (xs++ys)=true
  | [],ys,_,h=>h
  | x::xs,ys,h,k=>by
    simp only [allOne,Bool.and_eq_true,List.cons_append] at h ⊢
    exact ⟨h.1,allOne_append h.2 k⟩
theorem shE_of {S:Pin} {sh:List AV→Prop} {s:Nat}:∀ (n:Nat) (vs:List Value),vs.length=n*s→(∀ i,i < n→∃ ys,sh ys∧allOne ys=true∧CVl S ys noNm ((vs.drop (i*s)).take s)) →
    ∃ cs,ShE sh n cs∧allOne cs=true∧CVl S cs noNm vs
  | 0,vs,hl,_=>⟨[],rfl,rfl,by simp only [CVl]; exact List.eq_nil_of_length_eq_zero (by omega)⟩
  | n+1,vs,hl,h=>by
    obtain ⟨ys,h1,h2,h3⟩:=h 0 (by omega)
    have hl':vs.length=n*s+s:=by rw [hl,Nat.succ_mul]
    obtain ⟨zs,k1,k2,k3⟩:=shE_of n (vs.drop s) (by rw [List.length_drop,hl',Nat.add_sub_cancel]) (fun i hi=>by
      obtain ⟨q,q1,q2,q3⟩:=h (i+1) (by omega)
      refine ⟨q,q1,q2,?_⟩
      rw [List.drop_drop,show s+i*s=(i+1)*s by rw [Nat.succ_mul]; omega]
      exact q3)
    refine ⟨ys++zs,⟨ys,zs,h1,k1,rfl⟩,shF_of.allOne_append h2 k2,?_⟩
    rw [Nat.zero_mul,List.drop_zero] at h3
    have e:vs=vs.take s++vs.drop s:=(List.take_append_drop _ _).symm
    rw [e]
    exact CVl.append h3 k3
theorem list_of {α:Type} {p:Nat→α→Prop}:∀ (n:Nat),(∀ i,i < n→∃ x,p i x)→∃ xs:List α,xs.length=n∧∀ i x,xs[i]?=some x→p i x
  | 0,_=>⟨[],rfl,by simp⟩
  | n+1,h=>by
    obtain ⟨xs,h1,h2⟩:=list_of n (fun i hi=>h i (by omega))
    obtain ⟨x,hx⟩:=h n (by omega)
    refine ⟨xs++[x],by simp [h1],fun i y hy=>?_⟩
    rcases Nat.lt_or_ge i xs.length with hi | hi
    · rw [List.getElem?_append_left hi] at hy; exact h2 i y hy
    · rw [List.getElem?_append_right hi] at hy
      rcases Nat.eq_zero_or_pos (i - xs.length) with h0 | h0
      · rw [h0] at hy
        simp only [List.getElem?_cons_zero,Option.some.injEq] at hy
        rw [← hy,show i=n by omega]; exact hx
      · rw [List.getElem?_eq_none (by simp; omega)] at hy; cases hy
section
variable {H:Type} {enc:TypeId × Value→H} {P:Program} {w:World} {base:Nat} {held:Bool}
theorem rng_wf {k:IntKind} {z:Int} (h:(Lit.int k z).wf=true):rng k z:=by
  rw [rng_iff]
  simp only [Lit.wf,Bool.and_eq_true,decide_eq_true_eq] at h
  exact h
theorem in_of_trod:∀ (n:Nat) (t:TypeId) (fuel:Nat) (vs:List Value) (x:DataW H × List MemPlace),supp P n t=true→DataW.trod enc P w base (fun _=>true) held fuel t vs=some x →
    ∃ cs,Sh P n t cs∧allOne cs=true∧CVl (pinAll w) cs noNm vs
  | 0,t,_,_,_,hs,_=>by simp [supp] at hs
  | n+1,t,fuel,vs,x,hs,h=>by
    unfold supp at hs
    unfold Sh
    split at hs
    · next ht =>
      obtain ⟨b,rfl,_⟩:=DataW.trod_bool ht h
      exact ⟨[.bool b],⟨b,rfl⟩,rfl,_,_,rfl,rfl,rfl⟩
    · next k ht =>
      obtain ⟨z,rfl,_,hw⟩:=DataW.trod_int ht h
      exact ⟨[.int k z],⟨z,rng_wf hw,rfl⟩,rfl,_,_,rfl,⟨rfl,rng_wf hw⟩,rfl⟩
    · next ht =>
      obtain ⟨s,rfl,_,hw⟩:=DataW.trod_string ht h
      exact ⟨[.str s],⟨s,hw,rfl⟩,rfl,_,_,rfl,⟨rfl,hw⟩,rfl⟩
    · next e ht =>
      simp only [Bool.and_eq_true] at hs
      have hs0:0 < P.cellsOf e:=by have:=hs.1; simp [Nat.blt] at this; omega
      rcases DataW.trod_slice ht h with ⟨rfl,_⟩ | ⟨a,len,cap,elems,rest,m,_,rfl,_,hb,hl,hc,hlen,hel,hsp,hns⟩
      · refine ⟨[.sl (P.cellsOf e) false []],⟨[],by simp,by simp,rfl⟩,rfl,_,_,rfl,⟨none,0,rfl,by simp,by simp,(fun h=>by cases h),(fun _=>rfl),(fun a ha=>by cases ha)⟩,rfl⟩
      · have each:∀ i,i < len→∃ x,(Sh P n e x)∧∃ cs',w.cells? base (a.add (i*P.cellsOf e)) (P.cellsOf e)=some cs'∧allOne x=true∧CVl (pinAll w) x noNm cs':=by
          intro i hi
          have h1:=hel i hi
          have hx:elems[i]?=some (elems[i]'(by omega)):=List.getElem?_eq_getElem (by omega)
          rw [hx,Option.bind_eq_some_iff] at h1
          obtain ⟨cs',h2,h3⟩:=h1
          obtain ⟨y,k1,k2,k3⟩:=in_of_trod n e m cs' _ hs.2 h3
          exact ⟨y,k1,cs',h2,k2,k3⟩
        obtain ⟨xs,hx1,hx2⟩:=list_of len each
        have hmem:∀ x ∈ xs,Sh P n e x:=by
          intro x hx
          obtain ⟨i,hi⟩:=List.getElem?_of_mem hx
          exact (hx2 i x hi).1
        refine ⟨[.sl (P.cellsOf e) false xs],⟨xs,by unfold maxLen at hc; omega,hmem,rfl⟩,rfl,_,_,rfl,⟨some a,cap,by rw [hx1],by omega,hc,(fun h=>by cases h),(fun h=>by cases h),fun a' ha=>?_⟩,rfl⟩
        cases ha
        have key:∀ (j:Nat) (x:List AV),xs[j]?=some x→∃ cs':List Value,cs'.length=P.cellsOf e∧CVl (pinAll w) x noNm cs'∧allOne x=true∧∀ i,i < P.cellsOf e→w.cell? ((a.add (j*P.cellsOf e)).add i)=cs'[i]?:=by
          intro j x hj
          obtain ⟨_,cs',h2,h3,h4⟩:=hx2 j x hj
          obtain ⟨_,q1,q2⟩:=World.cells?_some h2
          exact ⟨cs',q1,h4,h3,q2⟩
        have spot:cap≠0→a.spot=none:=by
          intro h0
          have h1:∃ cs',w.cells? base (a.add (0*P.cellsOf e)) (P.cellsOf e)=some cs':=by
            rcases Nat.eq_zero_or_pos len with hl0 | hl0
            · obtain ⟨hr,hr2⟩:=hsp rfl
              have h1:=hr2 0 (by omega)
              have hx:rest[0]?=some (rest[0]'(by omega)):=List.getElem?_eq_getElem (by omega)
              rw [hx,Option.bind_eq_some_iff] at h1
              obtain ⟨cs',h2,_⟩:=h1
              exact ⟨cs',by rw [← h2,hl0]⟩
            · have h1:=hel 0 hl0
              have hx:elems[0]?=some (elems[0]'(by omega)):=List.getElem?_eq_getElem (by omega)
              rw [hx,Option.bind_eq_some_iff] at h1
              obtain ⟨cs',h2,_⟩:=h1
              exact ⟨cs',h2⟩
          obtain ⟨cs',h2⟩:=h1
          obtain ⟨_,q1,q2⟩:=World.cells?_some h2
          have h3:=q2 0 hs0
          rw [List.getElem?_eq_getElem (by omega)] at h3
          have h4:=World.cell?_spot h3
          simpa [Addr.add] using h4
        refine ⟨spot,CE.mk fun j x hj=>?_⟩
        obtain ⟨cs',k1,k2,k3,k4⟩:=key j x hj
        have hxl:x.length=P.cellsOf e:=by rw [← k1]; exact (CVl.len k2).symm
        refine ⟨hxl,CC.mk fun i y hy=>?_⟩
        obtain ⟨u,hu,hcv⟩:=CVl.get k2 hy
        have hi:i < P.cellsOf e:=by have:=(List.getElem?_eq_some_iff.1 hy).1; omega
        have hj':j < len:=by have:=(List.getElem?_eq_some_iff.1 hj).1; omega
        have hsp:=spot (by omega)
        obtain ⟨b,o,sp⟩:=a
        simp only at hsp
        subst hsp
        have h5:=k4 i hi
        rw [add_none,add_none,hu] at h5
        exact ⟨u,pinAll_some h5 (allOne_cv k2 k3 u (List.mem_of_getElem? hu)),hcv⟩
    · next fs ht =>
      simp only [Bool.and_eq_true,List.all_eq_true] at hs
      obtain ⟨xs,m,_,_,hl,hxl,hf⟩:=DataW.trod_struct ht h
      obtain ⟨cs,k1,k2,k3⟩:=shF_of (S:=pinAll w) (sh:=Sh P n) (vs:=vs) fs.toList 0 _ hs.1 hl (fun f hfm=>by
        obtain ⟨i,hi⟩:=List.getElem?_of_mem hfm
        have h1:=hf i f (by simpa using hi)
        have hi':i < fs.size:=by have:=(List.getElem?_eq_some_iff.1 hi).1; simpa using this
        rw [List.getElem?_eq_getElem (by omega:i < xs.length)] at h1
        exact in_of_trod n f.type m _ _ (hs.2 f hfm) h1)
      exact ⟨cs,k1,k2,by simpa using k3⟩
    · next m e ht =>
      simp only [Bool.and_eq_true] at hs
      obtain ⟨xs,q,_,_,hl,hxl,hf⟩:=DataW.trod_array ht h
      have hsz:=Nat.eq_of_beq_eq_true hs.1
      exact shE_of (S:=pinAll w) (sh:=Sh P n e) (s:=P.cellsOf e) m vs (by omega) (fun i hi=>by
        have h1:=hf i hi
        rw [List.getElem?_eq_getElem (by omega:i < xs.length)] at h1
        exact in_of_trod n e q _ _ hs.2 h1)
    · cases hs
def mkA (P:Program) (t:TypeId) (cs:List AV):AV:=cond (isAg P t) (.agg cs) (match cs with | [x]=>x | _=>.dead)
def ShAll (P:Program):List TypeId→(List AV→Prop)→Prop
  | [],K=>K []
  | t::ts,K=>∀ cs,Sh P 50 t cs→ShAll P ts fun xs=>K (mkA P t cs::xs)
theorem in_one {r:Reach} {b0 n:Nat} {t:TypeId} {v:Value} {fuel:Nat} {x:DataW H × List MemPlace} (hs:supp P n t=true) (hv:Value.okWide P w r b0 t v) (h:DataW.trod enc P w base (fun _=>true) held fuel t v.cells.toList=some x) :
    ∃ cs,Sh P n t cs∧CV (pinAll w) (mkA P t cs) noNm v:=by
  obtain ⟨cs,h1,h2,h3⟩:=in_of_trod n t fuel _ x hs h
  refine ⟨cs,h1,?_⟩
  have one:isAg P t=false→v.cells=#[v]→CV (pinAll w) (mkA P t cs) noNm v:=by
    intro ha hc
    rw [hc] at h3
    unfold mkA
    rw [ha]
    match cs,h3 with
    | [y],h3 =>
      simp only [CVl] at h3
      obtain ⟨u,us,e,hy,hn⟩:=h3
      simp at e
      rw [e.1]; exact hy
    | [],h3=>simp [CVl] at h3
    | _::_::_,h3 =>
      simp [CVl] at h3
      obtain ⟨u,us,⟨_,e⟩,_,u',us',e',_⟩:=h3
      rw [e] at e'; cases e'
  have agg:isAg P t=true→∀ us,v=.agg us→CV (pinAll w) (mkA P t cs) noNm v:=by
    intro ha us e
    subst e
    unfold mkA
    rw [ha]
    exact ⟨us,rfl,h3⟩
  unfold Value.okWide at hv
  cases n with
  | zero=>simp [supp] at hs
  | succ n =>
    unfold supp at hs
    split at hs
    · next ht =>
      rw [ht] at hv
      simp only [Cell.okWide,Cell.ok,ht] at hv
      refine one (by unfold isAg; rw [ht]) ?_
      split at hv <;> first | rfl | (split at hv <;> first | rfl | cases hv) | cases hv
    · next k ht =>
      rw [ht] at hv
      simp only [Cell.okWide,Cell.ok,ht] at hv
      refine one (by unfold isAg; rw [ht]) ?_
      split at hv <;> first | rfl | (split at hv <;> first | rfl | cases hv) | cases hv
    · next ht =>
      rw [ht] at hv
      simp only [Cell.okWide,Cell.ok,ht] at hv
      refine one (by unfold isAg; rw [ht]) ?_
      split at hv <;> first | rfl | (split at hv <;> first | rfl | cases hv) | cases hv
    · next e ht =>
      rw [ht] at hv
      simp only [Cell.okWide,Cell.ok,ht] at hv
      refine one (by unfold isAg; rw [ht]) ?_
      split at hv <;> first | rfl | (split at hv <;> first | rfl | cases hv) | cases hv
    · next fs ht =>
      rw [ht] at hv
      obtain ⟨us,e,_⟩:=hv
      exact agg (by unfold isAg; rw [ht]) us e
    · next m e ht =>
      rw [ht] at hv
      obtain ⟨us,e,_⟩:=hv
      exact agg (by unfold isAg; rw [ht]) us e
    · cases hs
theorem in_all {r:Reach} {b0:Nat}:∀ (ts:List TypeId) (vs:List Value) (ds:List (DataW H)) (ps:List MemPlace) (K:List AV→Prop),(ts.all fun t=>supp P 50 t)=true→DataW.TrodAll enc P w base (fun _=>true) held ts vs ds ps →
    (∀ (j:Nat) t v,ts[j]?=some t→vs[j]?=some v→Value.okWide P w r b0 t v)→ShAll P ts K→∃ xs,K xs∧CVl (pinAll w) xs noNm vs
  | [],[],[],ps,K,_,h,_,hK=>⟨[],hK,by simp only [CVl]⟩
  | t::ts,v::vs,d::ds,ps,K,hs,h,hv,hK=>by
    simp only [List.all_cons,Bool.and_eq_true] at hs
    obtain ⟨p,q,⟨fuel,h1⟩,h2,_⟩:=h
    obtain ⟨cs,k1,k2⟩:=in_one hs.1 (hv 0 t v rfl rfl) h1
    obtain ⟨xs,q1,q2⟩:=in_all ts vs ds q (fun xs=>K (mkA P t cs::xs)) hs.2 h2 (fun j t v ht hv'=>hv (j+1) t v (by simpa using ht) (by simpa using hv')) (hK cs k1)
    exact ⟨_,q1,by simp only [CVl]; exact ⟨v,vs,rfl,k2,q2⟩⟩
  | [],v::vs,ds,ps,K,_,h,_,_=>by cases ds <;> simp [DataW.TrodAll] at h
  | [],[],d::ds,ps,K,_,h,_,_=>by simp [DataW.TrodAll] at h
  | t::ts,[],ds,ps,K,_,h,_,_=>by cases ds <;> simp [DataW.TrodAll] at h
  | t::ts,v::vs,[],ps,K,_,h,_,_=>by simp [DataW.TrodAll] at h
theorem law_calls {gl:Glob} {f:FuncId} {r:Reach} {b0:Nat} {ts:List TypeId} {args:Array Value} {ds:List (DataW H)} {ps:List MemPlace} (hs:(ts.all fun t=>supp P 50 t)=true) (hg:GOKg gl (pinAll w))
    (h:ShAll P ts fun xs=>PureC P gl f xs (.bool true)) (hA:DataW.TrodAll enc P w base (fun _=>true) held ts args.toList ds ps)
    (hv:∀ (j:Nat) t v,ts[j]?=some t→args.toList[j]?=some v→Value.okWide P w r b0 t v) :
    Calls P f args w fun e w'=>e=.returned (.bool true)∧Below w.heap.size w w':=by
  obtain ⟨xs,h1,h2⟩:=in_all ts _ ds ps _ hs hA hv h
  refine (h1 w (pinAll w) args hg (agree_all w) h2).mono fun e w' h=>?_
  obtain ⟨u,S',h3,h4,_,_,_,h5⟩:=h
  simp only [CV] at h5
  exact ⟨by rw [h3,h5],h4⟩
theorem trodAll_stay (hl:laidOutB P=true) {w':World} (hb:Below w.heap.size w w'):∀ (ts:List TypeId) (vs:List Value) (ds:List (DataW H)) (ps:List MemPlace),(ts.all fun t=>P.readableRec t&&decide (t < P.types.size))=true →
    DataW.TrodAll enc P w 0 (fun _=>true) true ts vs ds ps→DataW.TrodAll enc P w' 0 (fun b=>decide (b < w.heap.size)) true ts vs ds ps
  | [],[],[],ps,_,h=>h
  | t::ts,v::vs,d::ds,ps,hs,h=>by
    simp only [List.all_cons,Bool.and_eq_true,decide_eq_true_eq] at hs
    obtain ⟨p,q,h1,h2,h3⟩:=h
    have hlt:∀ x ∈ p,x.block < w.heap.size:=by obtain ⟨m,hm⟩:=h1; exact DataW.trod_lt m _ _ _ hm
    exact ⟨p,q,Below.trod hl hs.1.1 hs.1.2 h1 hb hlt,trodAll_stay hl hb ts vs ds q hs.2 h2,h3⟩
  | [],v::vs,ds,ps,_,h=>by cases ds <;> simp [DataW.TrodAll] at h
  | [],[],d::ds,ps,_,h=>by simp [DataW.TrodAll] at h
  | t::ts,[],ds,ps,_,h=>by cases ds <;> simp [DataW.TrodAll] at h
  | t::ts,v::vs,[],ps,_,h=>by simp [DataW.TrodAll] at h
def suppG (P:Program):Nat→TypeId→Bool
  | 0,_=>false
  | n+1,t=>match P.underlying t with
    | some .bool=>true
    | some (.int _)=>true
    | some .string=>true
    | some (.struct fs)=>tiles P fs.toList 0 (P.cellsOf t)&&fs.toList.all fun f=>suppG P n f.type
    | some (.array m e)=>Nat.beq (m*P.cellsOf e) (P.cellsOf t)&&suppG P n e
    | _=>false
mutual
def flatD:DataW H→List AV
  | .lit (.bool b)=>[.bool b]
  | .lit (.int k z)=>[.int k z]
  | .lit (.string l)=>[.str ⟨l.toArray⟩]
  | .agg ds=>flatDs ds
  | _=>[.dead]
def flatDs:List (DataW H)→List AV
  | []=>[]
  | d::ds=>flatD d++flatDs ds
end
theorem flatF {S:Pin} {vs:List Value}:∀ (fs:List Field) (ds:List (DataW H)) (o tot:Nat),tiles P fs o tot=true→vs.length=tot→ds.length=fs.length →
    (∀ (i:Nat) (f:Field) (d:DataW H),fs[i]?=some f→ds[i]?=some d→CVl S (flatD d) noNm ((vs.drop f.offset).take (P.cellsOf f.type)))→CVl S (flatDs ds) noNm (vs.drop o)
  | [],[],o,tot,ht,hl,_,_=>by
    simp only [tiles] at ht
    have:=Nat.eq_of_beq_eq_true ht
    simp only [flatDs,CVl]; exact List.drop_eq_nil_of_le (by omega)
  | f::fs,d::ds,o,tot,ht,hl,hd,h=>by
    simp only [tiles,Bool.and_eq_true] at ht
    obtain ⟨ho,ht⟩:=ht
    have ho:=Nat.eq_of_beq_eq_true ho
    have h1:=h 0 f d rfl rfl
    have h2:=flatF fs ds _ tot ht hl (by simpa using hd) (fun i g d' hg hd'=>h (i+1) g d' (by simpa using hg) (by simpa using hd'))
    rw [ho] at h1
    have e:vs.drop o=(vs.drop o).take (P.cellsOf f.type)++vs.drop (o+P.cellsOf f.type):=by
      rw [← List.drop_drop]; exact (List.take_append_drop _ _).symm
    rw [e]
    simp only [flatDs]
    exact CVl.append h1 h2
  | [],_::_,_,_,_,_,hd,_=>by simp at hd
  | _::_,[],_,_,_,_,hd,_=>by simp at hd
theorem flatE {S:Pin} {s:Nat}:∀ (ds:List (DataW H)) (vs:List Value),vs.length=ds.length*s→(∀ (i:Nat) (d:DataW H),ds[i]?=some d→CVl S (flatD d) noNm ((vs.drop (i*s)).take s))→CVl S (flatDs ds) noNm vs
  | [],vs,hl,_=>by simp only [flatDs,CVl]; exact List.eq_nil_of_length_eq_zero (by simpa using hl)
  | d::ds,vs,hl,h=>by
    have h1:=h 0 d rfl
    have hl':vs.length=ds.length*s+s:=by rw [hl,List.length_cons,Nat.succ_mul]
    have h2:=flatE (S:=S) (s:=s) ds (vs.drop s) (by rw [List.length_drop]; omega) (fun i d' hd=>by
      have:=h (i+1) d' (by simpa using hd)
      rw [List.drop_drop,show s+i*s=(i+1)*s by rw [Nat.succ_mul]; omega]
      exact this)
    rw [Nat.zero_mul,List.drop_zero] at h1
    have e:vs=vs.take s++vs.drop s:=(List.take_append_drop _ _).symm
    rw [e]
    simp only [flatDs]
    exact CVl.append h1 h2
theorem flat_of_trod {S:Pin} {spare:Nat→Bool}:∀ (n:Nat) (t:TypeId) (fuel:Nat) (vs:List Value) (x:DataW H × List MemPlace),suppG P n t=true→DataW.trod enc P w base spare held fuel t vs=some x→CVl S (flatD x.1) noNm vs
  | 0,t,_,_,_,hs,_=>by simp [suppG] at hs
  | n+1,t,fuel,vs,x,hs,h=>by
    unfold suppG at hs
    split at hs
    · next ht =>
      obtain ⟨b,rfl,rfl⟩:=DataW.trod_bool ht h
      exact ⟨_,_,rfl,rfl,rfl⟩
    · next k ht =>
      obtain ⟨z,rfl,rfl,hw⟩:=DataW.trod_int ht h
      exact ⟨_,_,rfl,⟨rfl,rng_wf hw⟩,rfl⟩
    · next ht =>
      obtain ⟨s,rfl,rfl,hw⟩:=DataW.trod_string ht h
      exact ⟨_,_,rfl,⟨by simp,by simpa using hw⟩,rfl⟩
    · next fs ht =>
      simp only [Bool.and_eq_true,List.all_eq_true] at hs
      obtain ⟨xs,m,_,rfl,hl,hxl,hf⟩:=DataW.trod_struct ht h
      have:=flatF (S:=S) (vs:=vs) fs.toList (xs.map (·.1)) 0 _ hs.1 hl (by simpa using hxl) (fun i f d hi hd=>by
        have h1:=hf i f (by simpa using hi)
        rw [List.getElem?_map] at hd
        cases hx:xs[i]? with
        | none=>rw [hx] at hd; cases hd
        | some y =>
          rw [hx] at hd h1
          simp only [Option.map_some,Option.some.injEq] at hd
          subst hd
          exact flat_of_trod n f.type m _ _ (hs.2 f (List.mem_of_getElem? hi)) h1)
      simpa [flatD] using this
    · next m e ht =>
      simp only [Bool.and_eq_true] at hs
      obtain ⟨xs,q,_,rfl,hl,hxl,hf⟩:=DataW.trod_array ht h
      have hsz:=Nat.eq_of_beq_eq_true hs.1
      have:=flatE (S:=S) (s:=P.cellsOf e) (xs.map (·.1)) vs (by simp only [List.length_map]; rw [hxl]; omega) (fun i d hd=>by
        rw [List.getElem?_map] at hd
        cases hx:xs[i]? with
        | none=>rw [hx] at hd; cases hd
        | some y =>
          have hi:i < m:=by have:=(List.getElem?_eq_some_iff.1 hx).1; omega
          have h1:=hf i hi
          rw [hx] at hd h1
          simp only [Option.map_some,Option.some.injEq] at hd
          subst hd
          exact flat_of_trod n e q _ _ hs.2 h1)
      simpa [flatD] using this
    · cases hs
end
theorem intsA_of {xs:List (List AV)} (h:∀ x ∈ xs,∃ z,rng .i64 z∧x=[.int .i64 z]):IntsA xs:=fun x hx=>by
  obtain ⟨z,h1,h2⟩:=h x hx
  exact ⟨z,h2,h1⟩
theorem glob_cells {W:World} {g:Nat} {cs:Array Value} {az:List AV} (hc:∀ i,W.cell? ⟨g,i,none⟩=cs[i]?) (h:CVl (pinAll W) az noNm cs.toList) (h1:allOne az=true):CC (pinAll W) az g 0:=by
  refine CC.mk fun j x hx=>?_
  obtain ⟨u,hu,hcv⟩:=CVl.get h hx
  have h2:=hc j
  rw [show cs[j]?=some u by simpa using hu] at h2
  rw [Nat.zero_add]
  exact ⟨u,pinAll_some h2 (allOne_cv h h1 u (List.mem_of_getElem? hu)),hcv⟩
end Go.Proofs.YtgnnafneglannaaDoor
