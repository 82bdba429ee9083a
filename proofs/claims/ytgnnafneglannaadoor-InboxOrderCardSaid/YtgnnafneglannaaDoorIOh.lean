import Derived.Test.YtgnnafneglannaaDoorIOe
import Derived.Test.YtgnnafneglannaaDoorIOd
import Derived.Test.YtgnnafneglannaaDoorIOf
import Derived.Test.YtgnnafneglannaaDoorIOg
import Derived.ProofKit
import Derived.OpenShut
import Derived.ShutString
import Derived.ChangeOld
import Derived.Carry
import Derived.Deep.Slices
import Derived.WideShapes
import Derived.LaidMore
namespace Go.Proofs.YtgnnafneglannaaDoor
open Go
set_option linter.unusedVariables false
set_option linter.unusedSimpArgs false
def intsEq (xs ys:List (List AV)):Bool:=decide (xs.length=ys.length∧∀ j,j < xs.length→cellI (xs.getD j [])=cellI (ys.getD j []))
theorem intsB_at {xs:List (List AV)} (h:IntsB xs) {i:Nat} (hi:i < xs.length):List.take 1 (xs.getD i [])=[.int .i64 (cellI (xs.getD i []))]:=by
  have e:xs.getD i []=xs[i]:=by rw [List.getD_eq_getElem?_getD,List.getElem?_eq_getElem hi]; rfl
  rw [e]
  obtain ⟨n,hn,_⟩:=h.fi _ (List.getElem_mem hi)
  rw [hn]; rfl
structure IntsP (xs ys:List (List AV)) (i:Int):Prop where
  flo:0≤i
  fhi:i≤xs.length
  fe:∀ j:Nat,(j:Int) < i→cellI (xs.getD j [])=cellI (ys.getD j [])
def intsL (f g:Bool) (xs ys:List (List AV)):LInv:=⟨Int,fun i=>⟨[(0,.sl 1 f xs),(1,.sl 1 g ys),(5,.int .i64 i)],[]⟩,IntsP xs ys,fun i=>(xs.length - i).toNat,none⟩
structure Ln (xs:List (List AV)):Prop where
  fl:xs.length≤9223372036854775807
def kints_s:Sp
  | [.sl 1 f xs,.sl 1 g ys]=>some ((IntsB xs∧IntsB ys)∧Ln xs∧Ln ys,.bool (intsEq xs ys))
  | _=>none
set_option maxRecDepth 100000 in
def kints_T:Prop :=
  ∀ (gl:Glob) (f g:Bool) (xs ys:List (List AV)),(IntsB xs∧IntsB ys)∧Ln xs∧Ln ys→True→True→bif decide ¬(↑xs.length:Int)=(↑ys.length:Int) then false=intsEq xs ys else (∃ x,IntsP xs ys x∧(((bif f then f=true else True)∧xs=xs)∧((bif g then g=true else True)∧ys=ys)∧(0:Int)=x∧True)∧True)∧∀ (x:Int),IntsP xs ys x→bif decide (x < (↑xs.length:Int)) then bif decide (0≤x∧x < (↑xs.length:Int)) then
 ∃ n,List.take [AV.int .i64 n].length (xs.getD x.toNat [])=[AV.int .i64 n]∧bif decide (0≤x∧x < (↑ys.length:Int)) then ∃ n_1,List.take [AV.int .i64 n_1].length (ys.getD x.toNat [])=[AV.int .i64 n_1]∧bif decide ¬n=n_1 then false=intsEq xs ys else bif decide (rng .i64 (x+(1:Int))) then ∃ y,IntsP xs ys y∧(intsL f g xs ys).m y < (intsL f g xs ys).m x∧(((bif f then f=true else True)∧xs=xs)∧((bif
 g then g=true else True)∧ys=ys)∧x+(1:Int)=y∧True)∧True else False else False else False else true=intsEq xs ys
set_option maxRecDepth 100000 in
theorem kints_P:kints_T:=by
  unfold kints_T
  intro gl f g xs ys ⟨⟨hx,hy⟩,lx,ly⟩
  intros
  have l1:=lx.fl
  have l2:=ly.fl
  have bf:cond f (f=true) True:=by cases f <;> trivial
  have bg:cond g (g=true) True:=by cases g <;> trivial
  refine cs (fun h=>?_) (fun h=>⟨⟨0,⟨by decide,by omega,fun j h=>by omega⟩,⟨⟨bf,rfl⟩,⟨bg,rfl⟩,rfl,trivial⟩,trivial⟩,?_⟩)
  · exact (decide_eq_false fun q=>by omega).symm
  rintro i ⟨h0,h1,hn⟩
  refine cs (fun hl=>cd1 (by omega) ⟨_,intsB_at hx (by omega),cd1 (by omega) ⟨_,intsB_at hy (by omega),cs (fun q=>?_) (fun q=>?_)⟩⟩) (fun hl=>?_)
  · exact (decide_eq_false fun z=>q (z.2 i.toNat (by omega))).symm
  · refine cdI (by omega) ⟨i+1,⟨by omega,by omega,fun j hj=>?_⟩,by simp only [intsL]; omega,⟨⟨bf,rfl⟩,⟨bg,rfl⟩,rfl,trivial⟩,trivial⟩
    rcases Nat.lt_or_ge j i.toNat with k | k
    · exact hn j (by omega)
    · rw [show j=i.toNat by omega]; exact Decidable.not_not.1 q
  · exact (decide_eq_true ⟨by omega,fun j hj=>hn j (by omega)⟩).symm
def kints_S:Prop:=∀ (gl:Glob) (f g:Bool) (xs ys:List (List AV)),(IntsB xs∧IntsB ys)∧Ln xs∧Ln ys→fnK Tryd.prog { glob:=gl,spec:=lk [],specH:=lk [],shape:=[20,24],nowf:=true } { nt:=26,drop:=drp [(1,960),(4,14336),(5,98304),(6,33423360)] } (invs [(4,intsL f g xs ys)]) 6 Tryd.f43 [.sl 1 f xs,.sl 1 g ys] (.bool (intsEq xs ys))
set_option maxRecDepth 100000 in
theorem kints_e:kints_T=kints_S:=by kernel_rfl
theorem kints_v:kints_S:=@Eq.mp (kints_T) (kints_S) (kints_e) (kints_P)
theorem kints_ok (gl:Glob):SOK Tryd.prog gl 43 kints_s:=by
  refine ⟨fok Tryd.func43 (by kernel_rfl) (by kernel_rfl),?_⟩
  intro xs pre r h hp
  unfold kints_s at h
  split at h
  · simp only [Option.some.injEq,Prod.mk.injEq] at h
    obtain ⟨h1,h2⟩:=h
    subst h1 h2
    exact fnK_sound tyNil (by exact specOK rfl rfl trivial trivial) (by kernel_rfl) Tryd.func43 rfl (kints_v gl _ _ _ _ hp)
  · cases h
structure InP (xs:List (List AV)) (n i:Int):Prop where
  flo:0≤i
  fhi:i≤xs.length
  fe:∀ j:Nat,(j:Int) < i→¬ cellI (xs.getD j [])=n
end Go.Proofs.YtgnnafneglannaaDoor
namespace Go.Proofs.YtgnnafneglannaaDoor
open Go
set_option linter.unusedVariables false
set_option linter.unusedSimpArgs false
def nm0:ByteArray:=⟨#[48,49,50,51,52]⟩
def rpa:List AV:=rpR 1 nm0 100 0 0 0 0 [[.int .i64 1,.int .i64 10132],[.int .i64 2,.int .i64 2800]]
def rpb:List AV:=rpR 1 nm0 100 0 0 0 0 [[.int .i64 2,.int .i64 2810]]
def aw1:LLA:=[itA 1 nm0 100 0 0 0 0 [[.int .i64 1,.int .i64 10132],[.int .i64 2,.int .i64 2800]] 0 110,itA 1 nm0 100 0 0 0 0 [[.int .i64 2,.int .i64 2810]] 0 110]
def awc:List AV:=itA 1 nm0 100 0 0 0 0 [[.int .i64 2,.int .i64 2805]] 1 120
def aw2:LLA:=aw1++[awc]
theorem aw_tE:tkE [] [rpa,rpb,rpa] 0 110=0:=by kernel_rfl
theorem aw_tN:tkN [] [rpa,rpb,rpa] 0 110=2:=by kernel_rfl
theorem aw_tO:tkO [] [rpa,rpb,rpa] 0 110=aw1:=by kernel_rfl
theorem aw_m1:mrO aw1 0 200 200=[[.int .i64 1,.str nm0,.int .i64 100,.int .i64 0,.int .i64 0,.int .i64 0,.int .i64 0,.sl 2 false [[.int .i64 1,.int .i64 10132]],.int .i64 2,.sl 1 false [[.int .i64 2]]]]:=by kernel_rfl
theorem aw_e1:mrE aw1 0 200=0:=by kernel_rfl
theorem aw_aE:adE aw1 awc=0:=by kernel_rfl
theorem aw_aO:adO aw1 awc=aw2:=by kernel_rfl
theorem aw_m2:mrO aw2 0 200 200=[[.int .i64 1,.str nm0,.int .i64 100,.int .i64 0,.int .i64 0,.int .i64 0,.int .i64 0,.sl 2 false [[.int .i64 2,.int .i64 2805]],.int .i64 1,.sl 1 false []]]:=by kernel_rfl
theorem aw_e2:mrE aw2 0 200=0:=by kernel_rfl
theorem rpa_g:RpG rpa:=⟨_,_,_,_,_,_,_,_,rfl,⟨fun i hi=>by
  have:i=0∨i=1:=by simp at hi; omega
  rcases this with rfl | rfl <;> exact ⟨_,_,rfl,by decide,by decide⟩,by decide⟩,by decide⟩
theorem rpb_g:RpG rpb:=⟨_,_,_,_,_,_,_,_,rfl,⟨fun i hi=>by
  have:i=0:=by simp at hi; omega
  subst this
  exact ⟨_,_,rfl,by decide,by decide⟩,by decide⟩,by decide⟩
theorem aw_tk:TkP [] [rpa,rpb,rpa]:=by
  have g:GdL []:=⟨by simp,by decide⟩
  refine ⟨g.p,fun _=>g,⟨fun i hi=>?_,by decide⟩⟩
  have:i=0∨i=1∨i=2:=by simp at hi; omega
  rcases this with rfl | rfl | rfl
  · exact rpa_g
  · exact rpb_g
  · exact rpa_g
structure AwP (rs:LLA) (co ar:Int):Prop where
  fr:rs=[rpa,rpb,rpa]
  fc:co=0
  fa:ar=110
def itakeN_s (aw1:LLA):Sp
  | [.nils,.sl 8 e rs,.int .i64 co,.int .i64 ar]=>some (AwP rs co ar,.tup [.sl 10 false aw1,.int .i64 2,.int .i64 0])
  | _=>none
theorem itakeN_ok:SOK Tryd.prog glb 18 (itakeN_s aw1):=by
  obtain ⟨hf,h⟩:=itake_ok
  refine ⟨hf,fun xs pre r e hp=>?_⟩
  unfold itakeN_s at e
  split at e
  · rename_i b rs co ar
    simp only [Option.some.injEq,Prod.mk.injEq] at e
    obtain ⟨rfl,rfl⟩:=e
    obtain ⟨rfl,rfl,rfl⟩:=hp
    have bb:cond b (b=true) True:=by cases b <;> trivial
    have hc:=h [.sl 10 false [],.sl 8 b [rpa,rpb,rpa],.int .i64 0,.int .i64 110] _ _ rfl aw_tk
    rw [aw_tO,aw_tN,aw_tE] at hc
    exact fun w S vs hg ha hv=>hc w S vs hg ha (leL_sound [.nils,.sl 8 b [rpa,rpb,rpa],.int .i64 0,.int .i64 110] _ noNm _ ⟨rfl,⟨bb,rfl⟩,rfl,rfl,trivial⟩ hv)
  · cases e
theorem rpc_g:RpG (rpR 1 nm0 100 0 0 0 0 [[.int .i64 2,.int .i64 2805]]):=⟨_,_,_,_,_,_,_,_,rfl,⟨fun i hi=>by
  have:i=0:=by simp at hi; omega
  subst this
  exact ⟨_,_,rfl,by decide,by decide⟩,by decide⟩,by decide⟩
theorem aw_g1:GdL aw1:=⟨fun r hr=>by
  simp only [aw1,List.mem_cons,List.not_mem_nil,or_false] at hr
  rcases hr with rfl | rfl
  · exact ItG.of rpa_g 0 110
  · exact ItG.of rpb_g 0 110,by decide⟩
theorem aw_g2:GdL aw2:=⟨fun r hr=>by
  rcases List.mem_append.1 hr with hr | hr
  · exact aw_g1.fg r hr
  · rw [List.mem_singleton.1 hr]; exact ItG.of rpc_g 1 120,by decide⟩
def iawake_s (aw1:LLA) (mrE:LLA→Int→Int→Int) (mrO:LLA→Int→Int→Int→LLA) (adE:LLA→List AV→Int) (adO:LLA→List AV→LLA):Sp
  | []=>some (True,.bool true)
  | _=>none
set_option maxRecDepth 100000 in
def iawake_T (aw1:LLA) (mrE:LLA→Int→Int→Int) (mrO:LLA→Int→Int→Int→LLA) (adE:LLA→List AV→Int) (adO:LLA→List AV→LLA) (inV:LLA→Int) (suC:Int→ByteArray→Int→Int→ByteArray→Int→Int) (ouL:LLA→LLA→LLA) (puE:LLA→List AV→Int) (puN:LLA→List AV→Int) (addI:LLA→List AV→LLA):Prop :=
  AwP [[AV.int .i64 (1:Int),.str { data:=#[(48:UInt8),(49:UInt8),(50:UInt8),(51:UInt8),(52:UInt8)] },.int .i64 (100:Int),.int .i64 (0:Int),.int .i64 (0:Int),.int .i64 (0:Int),.int .i64 (0:Int),.sl (2:Nat) false [[AV.int .i64 (1:Int),.int .i64 (10132:Int)],[AV.int .i64 (2:Int),.int .i64 (2800:Int)]]],[AV.int .i64 (1:Int),.str { data:=#[(48:UInt8),(49:UInt8),(50:UInt8),(51 :
 UInt8),(52:UInt8)] },.int .i64 (100:Int),.int .i64 (0:Int),.int .i64 (0:Int),.int .i64 (0:Int),.int .i64 (0:Int),.sl (2:Nat) false [[AV.int .i64 (2:Int),.int .i64 (2810:Int)]]],[AV.int .i64 (1:Int),.str { data:=#[(48:UInt8),(49:UInt8),(50:UInt8),(51:UInt8),(52:UInt8)] },.int .i64 (100:Int),.int .i64 (0:Int),.int .i64 (0:Int),.int .i64 (0:Int),.int .i64 (0:Int),.sl (2:Nat) false
 [[AV.int .i64 (1:Int),.int .i64 (10132:Int)],[AV.int .i64 (2:Int),.int .i64 (2800:Int)]]]] (0:Int) (110:Int)∧ItsP aw1∧AdP aw1 [[AV.int .i64 (2:Int),.int .i64 (2805:Int)]]∧ItsP (adO aw1 (itA (1:Int) { data:=#[(48:UInt8),(49:UInt8),(50:UInt8),(51:UInt8),(52:UInt8)] } (100:Int) (0:Int) (0:Int) (0:Int) (0:Int) [[AV.int .i64 (2:Int),.int .i64 (2805:Int)]] (1:Int) (120:Int)))∧bif decide (mrE
 aw1 (0:Int) (200:Int)=0) then bif decide (adE aw1 (itA (1:Int) { data:=#[(48:UInt8),(49:UInt8),(50:UInt8),(51:UInt8),(52:UInt8)] } (100:Int) (0:Int) (0:Int) (0:Int) (0:Int) [[AV.int .i64 (2:Int),.int .i64 (2805:Int)]] (1:Int) (120:Int))=(0:Int)) then bif decide (mrE (adO aw1 (itA (1:Int) { data:=#[(48:UInt8),(49:UInt8),(50:UInt8),(51:UInt8),(52:UInt8)] } (100:Int) (0:Int)
 (0:Int) (0:Int) (0:Int) [[AV.int .i64 (2:Int),.int .i64 (2805:Int)]] (1:Int) (120:Int))) (0:Int) (200:Int)=0) then bif decide ((↑(List.length (mrO aw1 (0:Int) (200:Int) (200:Int))):Int)=(1:Int)) then bif decide ((0:Int)≤(0:Int)∧(0:Int) < (↑(List.length (mrO aw1 (0:Int) (200:Int) (200:Int))):Int)) then ∃ xs,List.take [AV.sl (1:Nat) false xs].length (List.drop (9:Nat) (List.getD (mrO aw1 (0:Int)
 (200:Int) (200:Int)) (0:Nat) []))=[AV.sl (1:Nat) false xs]∧((IntsB xs∧IntsB [[AV.int .i64 (2:Int)]])∧Ln xs∧Ln [[AV.int .i64 (2:Int)]])∧bif intsEq xs [[AV.int .i64 (2:Int)]] then bif decide ((0:Int)≤(0:Int)∧(0:Int) < (↑(List.length (mrO aw1 (0:Int) (200:Int) (200:Int))):Int)) then ∃ xs,List.take [AV.sl (2:Nat) false xs].length (List.drop (7:Nat) (List.drop (0:Nat) (List.getD (mrO aw1 (0:Int)
 (200:Int) (200:Int)) (0:Nat) [])))=[AV.sl (2:Nat) false xs]∧bif decide ((↑xs.length:Int)=(1:Int)) then bif decide ((↑(List.length (mrO (adO aw1 (itA (1:Int) { data:=#[(48:UInt8),(49:UInt8),(50:UInt8),(51:UInt8),(52:UInt8)] } (100:Int) (0:Int) (0:Int) (0:Int) (0:Int) [[AV.int .i64 (2:Int),.int .i64 (2805:Int)]] (1:Int) (120:Int))) (0:Int) (200:Int) (200:Int))):Int)=(1:Int)) then bif
 decide ((0:Int)≤(0:Int)∧(0:Int) < (↑(List.length (mrO (adO aw1 (itA (1:Int) { data:=#[(48:UInt8),(49:UInt8),(50:UInt8),(51:UInt8),(52:UInt8)] } (100:Int) (0:Int) (0:Int) (0:Int) (0:Int) [[AV.int .i64 (2:Int),.int .i64 (2805:Int)]] (1:Int) (120:Int))) (0:Int) (200:Int) (200:Int))):Int)) then ∃ n,List.take [AV.int .i64 n].length (List.drop (8:Nat) (List.getD (mrO (adO aw1 (itA (1:Int) {
 data:=#[(48:UInt8),(49:UInt8),(50:UInt8),(51:UInt8),(52:UInt8)] } (100:Int) (0:Int) (0:Int) (0:Int) (0:Int) [[AV.int .i64 (2:Int),.int .i64 (2805:Int)]] (1:Int) (120:Int))) (0:Int) (200:Int) (200:Int)) (0:Nat) []))=[AV.int .i64 n]∧bif decide (n=(1:Int)) then bif decide ((0:Int)≤(0:Int)∧(0:Int) < (↑(List.length (mrO (adO aw1 (itA (1:Int) { data:=#[(48:UInt8),(49:UInt8),(50 :
 UInt8),(51:UInt8),(52:UInt8)] } (100:Int) (0:Int) (0:Int) (0:Int) (0:Int) [[AV.int .i64 (2:Int),.int .i64 (2805:Int)]] (1:Int) (120:Int))) (0:Int) (200:Int) (200:Int))):Int)) then ∃ xs,List.take [AV.sl (2:Nat) false xs].length (List.drop (7:Nat) (List.drop (0:Nat) (List.getD (mrO (adO aw1 (itA (1:Int) { data:=#[(48:UInt8),(49:UInt8),(50:UInt8),(51:UInt8),(52:UInt8)] } (100:Int)
 (0:Int) (0:Int) (0:Int) (0:Int) [[AV.int .i64 (2:Int),.int .i64 (2805:Int)]] (1:Int) (120:Int))) (0:Int) (200:Int) (200:Int)) (0:Nat) [])))=[AV.sl (2:Nat) false xs]∧bif decide ((0:Int)≤(0:Int)∧(0:Int) < (↑xs.length:Int)) then ∃ n,List.take [AV.int .i64 n].length (List.drop (1:Nat) (xs.getD (0:Nat) []))=[AV.int .i64 n]∧decide (n=(2805:Int))=true else False else False else false=true else False
 else false=true else false=true else False else false=true else False else false=true else false=true else false=true else false=true
set_option maxRecDepth 100000 in
theorem iawake_P:iawake_T aw1 mrE mrO adE adO inV suC ouL puE puN addI:=by
  unfold iawake_T
  have hO:adO aw1 (itA 1 ⟨#[48,49,50,51,52]⟩ 100 0 0 0 0 [[.int .i64 2,.int .i64 2805]] 1 120)=aw2:=aw_aO
  have hE:adE aw1 (itA 1 ⟨#[48,49,50,51,52]⟩ 100 0 0 0 0 [[.int .i64 2,.int .i64 2805]] 1 120)=0:=aw_aE
  have hi:intsEq [[.int .i64 2]] [[.int .i64 2]]=true:=by kernel_rfl
  have hb:IntsB [[.int .i64 2]]:=ints_of [2] (by decide)
  have hl:Ln [[.int .i64 2]]:=⟨by decide⟩
  refine ⟨⟨rfl,rfl,rfl⟩,aw_g1.p,⟨aw_g1.p,fun _=>aw_g1,⟨fun i hi=>?_,by decide⟩,by decide⟩,by rw [hO]; exact aw_g2.p,?_⟩
  · have:i=0:=by simp at hi; omega
    subst this
    exact ⟨_,_,rfl,by decide,by decide⟩
  rw [hO,hE,aw_e1,aw_e2,aw_m1,aw_m2]
  refine cd1 rfl (cd1 rfl (cd1 rfl (cd1 rfl (cd1 (by decide) ⟨_,rfl,⟨⟨hb,hb⟩,hl,hl⟩,?_⟩))))
  rw [hi,cond_true]
  refine cd1 (by decide) ⟨_,rfl,?_⟩
  refine cd1 rfl ?_
  refine cd1 rfl ?_
  refine cd1 (by decide) ⟨_,rfl,?_⟩
  refine cd1 rfl ?_
  refine cd1 (by decide) ⟨_,rfl,?_⟩
  refine cd1 (by decide) ⟨_,rfl,?_⟩
  rfl
def iawake_S (aw1:LLA) (mrE:LLA→Int→Int→Int) (mrO:LLA→Int→Int→Int→LLA) (adE:LLA→List AV→Int) (adO:LLA→List AV→LLA) (inV:LLA→Int) (suC:Int→ByteArray→Int→Int→ByteArray→Int→Int) (ouL:LLA→LLA→LLA) (puE:LLA→List AV→Int) (puN:LLA→List AV→Int) (addI:LLA→List AV→LLA):Prop:=fnK Tryd.prog { glob:=glb,spec:=lk [(18,(itakeN_s aw1)),(25,(imerge_s inV suC ouL mrE mrO)),(22,(iadd_s inV puE puN addI adE adO)),(43,kints_s)],specH:=lk [],shape:=[77,86,99,107,110],slz:=[(77,[1]),(86,[2]),(107,[2])],nowf:=true } { nt:=113,drop:=drp [(1,61440),(2,458752),(3,3670016),(4,2143289344),(5,135291469824),(6,17454747090944),(7,1108307720798208),(8,10384593717069655255935092751597568)],frz:=fun id=>cond (Nat.beq id 4) [1000014,1000017] (cond (Nat.beq id 6) [1000020] []) } (fun _ _=>none) 6 Tryd.f21 [] (.bool true)
set_option maxRecDepth 100000 in
theorem iawake_e (aw1:LLA) (mrE:LLA→Int→Int→Int) (mrO:LLA→Int→Int→Int→LLA) (adE:LLA→List AV→Int) (adO:LLA→List AV→LLA) (inV:LLA→Int) (suC:Int→ByteArray→Int→Int→ByteArray→Int→Int) (ouL:LLA→LLA→LLA) (puE:LLA→List AV→Int) (puN:LLA→List AV→Int) (addI:LLA→List AV→LLA):iawake_T aw1 mrE mrO adE adO inV suC ouL puE puN addI=iawake_S aw1 mrE mrO adE adO inV suC ouL puE puN addI:=by kernel_rfl
theorem iawake_v:iawake_S aw1 mrE mrO adE adO inV suC ouL puE puN addI:=@Eq.mp (iawake_T aw1 mrE mrO adE adO inV suC ouL puE puN addI) (iawake_S aw1 mrE mrO adE adO inV suC ouL puE puN addI) (iawake_e aw1 mrE mrO adE adO inV suC ouL puE puN addI) (iawake_P)
theorem iawake_ok:SOK Tryd.prog glb 21 (iawake_s aw1 mrE mrO adE adO):=by
  refine ⟨fok Tryd.func21 (by kernel_rfl) (by kernel_rfl),?_⟩
  intro xs pre r h hp
  unfold iawake_s at h
  split at h
  · simp only [Option.some.injEq,Prod.mk.injEq] at h
    obtain ⟨h1,h2⟩:=h
    subst h1 h2
    exact fnK_sound tyNil (by exact specOK rfl rfl ⟨(itakeN_ok),(imerge_ok),(iadd_ok),(kints_ok glb),trivial⟩ trivial) (by kernel_rfl) Tryd.func21 rfl (iawake_v  )
  · cases h
end Go.Proofs.YtgnnafneglannaaDoor
namespace Go.Proofs.YtgnnafneglannaaDoor
open Go
set_option linter.unusedVariables false
set_option linter.unusedSimpArgs false
end Go.Proofs.YtgnnafneglannaaDoor
namespace Go.Proofs.YtgnnafneglannaaDoor
open Go
set_option linter.unusedVariables false
set_option linter.unusedSimpArgs false
structure OrdQ (n:Int) (os:List (List AV)) (j:Int):Prop where
  fr:∀ r ∈ os,∃ k:Int,r=[.int .i64 k]∧0≤k∧k < n
  fa:∀ k:Nat,(k:Int) < n→[.int .i64 (k:Int)] ∈ os
  fl:(os.length:Int)=n
  fj:0≤j
structure OrdP (n:Int) (x:Int × Int × List (List AV)):Prop where
  fi:0≤x.1∧x.1≤n
  fq:OrdQ x.1 x.2.2 x.2.1
def ordI (xs:List (List AV)) (n:Int):LInv:=⟨Int × Int × List (List AV),fun x=>⟨[(0,.ptr 0 0),(1,.int .i64 n),(5,.rw 1 1 x.2.2.length),(6,.int .i64 x.1)],[(0,.cells [.sl 1 false xs,.int .i64 x.2.1]),(1,.row 3 1 x.2.2)]⟩,OrdP n,fun x=>(n - x.1).toNat,none⟩
def qorder_s:SpQ
  | [.ptr 0 0,.int .i64 n],[.cells [.sl 1 false xs,.int .i64 i]]=>some (fun K=>(SrcQ xs i∧0≤n∧n≤1000)∧(∀ (os:List (List AV)) (j:Int),(OrdQ n os j)→K (.rw 1 1 os.length) [.cells [.sl 1 false xs,.int .i64 j],.row 3 1 os]))
  | _,_=>none
set_option maxRecDepth 100000 in
def qorder_T:Prop :=
  ∀ (gl:Glob) (xs:List (List AV)) (i n:Int),SrcQ xs i∧0≤n∧n≤(1000:Int)→(∃ x,OrdP n x∧((0:Nat)=0∧n=n∧(0:Nat)=x.snd.snd.length∧(0:Int)=x.fst∧True)∧((True∧xs=xs)∧i=x.snd.fst∧True)∧[]=x.snd.snd∧True)∧∀ (x:Int × Int × List (List AV)),OrdP n x→bif decide (x.fst < n) then bif decide (rng .i64 ((↑x.snd.snd.length:Int)+(1:Int))) then SrcQ xs x.snd.fst∧∀ (v j:Int),NumQ
 ((↑x.snd.snd.length:Int)+(1:Int)) v j→bif decide (x.snd.snd.length=x.snd.snd.length) then bif decide ((0:Int)≤(↑x.snd.snd.length:Int)∧(↑x.snd.snd.length:Int)≤(↑x.snd.snd.length:Int)) then bif decide (0≤v∧v≤(↑x.snd.snd.length:Int)) then bif decide ((1:Nat)=[[AV.int .i64 x.fst]].length∧[[AV.int .i64 x.fst]].length+(List.drop v.toNat (List.take (↑x.snd.snd.length:Int).toNat
 x.snd.snd)).length≤(9223372036854775807:Nat)∧([[AV.int .i64 x.fst]].length+(List.drop v.toNat (List.take (↑x.snd.snd.length:Int).toNat x.snd.snd)).length)*(8:Nat)≤(140737488355328:Nat)) then bif decide (x.snd.snd.length=x.snd.snd.length) then bif decide (v=v) then bif decide (0≤v∧v≤(↑x.snd.snd.length:Int)) then bif decide ((0:Int)≤(0:Int)∧0≤v) then bif decide (([[AV.int
 .i64 x.fst]]++List.drop v.toNat (List.take (↑x.snd.snd.length:Int).toNat x.snd.snd)).length=([[AV.int .i64 x.fst]]++List.drop v.toNat (List.take (↑x.snd.snd.length:Int).toNat x.snd.snd)).length) then bif decide ((0:Nat) < ([[AV.int .i64 x.fst]]++List.drop v.toNat (List.take (↑x.snd.snd.length:Int).toNat x.snd.snd)).length∧(List.drop (0:Nat) (List.take v.toNat x.snd.snd)).length+([[AV.int
 .i64 x.fst]]++List.drop v.toNat (List.take (↑x.snd.snd.length:Int).toNat x.snd.snd)).length≤(9223372036854775807:Nat)∧((List.drop (0:Nat) (List.take v.toNat x.snd.snd)).length+([[AV.int .i64 x.fst]]++List.drop v.toNat (List.take (↑x.snd.snd.length:Int).toNat x.snd.snd)).length)*(8:Nat)≤(140737488355328:Nat)) then bif decide (rng .i64 (x.fst+(1:Int))) then ∃ y,OrdP n y∧(ordI xs n).m y
 < (ordI xs n).m x∧((0:Nat)=0∧n=n∧(List.drop (0:Nat) (List.take v.toNat x.snd.snd)++([[AV.int .i64 x.fst]]++List.drop v.toNat (List.take (↑x.snd.snd.length:Int).toNat x.snd.snd))).length=y.snd.snd.length∧x.fst+(1:Int)=y.fst∧True)∧((True∧xs=xs)∧j=y.snd.fst∧True)∧List.drop (0:Nat) (List.take v.toNat x.snd.snd)++([[AV.int .i64 x.fst]]++List.drop v.toNat (List.take
 (↑x.snd.snd.length:Int).toNat x.snd.snd))=y.snd.snd∧True else False else False else False else False else False else False else False else False else False else False else False else False else ∃ os j,OrdQ n os j∧x.snd.snd.length=os.length∧((True∧xs=xs)∧x.snd.fst=j∧True)∧x.snd.snd=os∧True
set_option maxRecDepth 100000 in
theorem qorder_P:qorder_T:=by
  unfold qorder_T
  intro gl xs i n ⟨hs,n0,n1⟩
  obtain ⟨s,hi0⟩:=hs
  refine ⟨⟨(0,i,[]),⟨by simp only; omega,⟨by simp,fun k h=>by simp only at h; omega,by simp,hi0⟩⟩,by (repeat' (first | exact trivial | exact rfl | assumption | apply And.intro))⟩,?_⟩
  rintro ⟨q,j,os⟩ ⟨fi,fq⟩
  simp only at fi fq
  dsimp only
  have hl:=fq.fl
  refine csx (fun hq=>cdI (by omega) ⟨⟨s,fq.fj⟩,fun v j2 q1=>?_⟩) (fun hq=>⟨os,j,by rw [show n=q by omega]; exact fq,rfl,by (repeat' (first | exact trivial | exact rfl | assumption | apply And.intro))⟩)
  have hv:=q1.fv (by omega)
  have e1:List.drop v.toNat (List.take (os.length:Int).toNat os)=os.drop v.toNat:=by rw [Int.toNat_natCast,List.take_length]
  rw [e1]
  refine cd1 rfl (cd1 (by omega) (cd1 (by omega) (cd1 ⟨rfl,by simp only [List.length_singleton,List.length_drop]; omega,by simp only [List.length_singleton,List.length_drop]; omega⟩ (cd1 rfl (cd1 rfl (cd1 (by omega) (cd1 (by omega) (cd1 rfl (cd1 ⟨by simp only [List.length_append,List.length_singleton]; omega,by simp only [List.length_append,List.length_singleton,List.length_drop,List.length_take]; omega,by simp only [List.length_append,List.length_singleton,List.length_drop,List.length_take]; omega⟩ (cdI (by omega) ⟨(q+1,j2,os.take v.toNat++([[.int .i64 q]]++os.drop v.toNat)),⟨by simp only; omega,⟨fun r hr=>?_,fun k hk=>?_,?_,q1.fj⟩⟩,by simp only [ordI]; omega,by (repeat' (first | exact trivial | exact rfl | assumption | apply And.intro))⟩))))))))))
  · simp only at hr
    have hm:r ∈ os∨r=[.int .i64 q]:=by
      rcases List.mem_append.1 hr with h | h
      · exact .inl (List.mem_of_mem_take h)
      · rcases List.mem_append.1 h with h | h
        · exact .inr (List.mem_singleton.1 h)
        · exact .inl (List.mem_of_mem_drop h)
    rcases hm with h | h
    · obtain ⟨k,e,a,b⟩:=fq.fr r h
      exact ⟨k,e,a,by simp only; omega⟩
    · exact ⟨q,h,by omega,by simp only; omega⟩
  · simp only at hk ⊢
    by_cases h:(k:Int)=q
    · rw [h]; simp
    · have:=fq.fa k (by omega)
      rw [← List.take_append_drop v.toNat os] at this
      rcases List.mem_append.1 this with h | h
      · exact List.mem_append_left _ h
      · exact List.mem_append_right _ (List.mem_append_right _ h)
  · simp only [List.length_append,List.length_singleton,List.length_drop,List.length_take]
    omega
def qorder_S:Prop:=∀ (gl:Glob) (xs:List (List AV)) (i n:Int),SrcQ xs i∧0≤n∧n≤1000→fnQ Tryd.prog { glob:=gl,spec:=lk [],specH:=lk [],specQ:=lk [(13,qn_s)],nowf:=true } { nt:=32,drop:=drp [(3,1536),(4,12288),(5,507904),(6,33030144),(7,2113929216),(8,2147483648)],fr:=1000,kp:=[0],frz:=fun id=>cond (Nat.beq id 6) [1000001] [],emp:=fun id=>cond (Nat.beq id 2||Nat.beq id 4) [(5,1,3,1)] [],own:=true } (invs [(3,ordI xs n)]) 6 Tryd.f23 [.ptr 0 0,.int .i64 n] [.cells [.sl 1 false xs,.int .i64 i]] (fun r2 bs2=>∃ (os:List (List AV)) (j:Int),(OrdQ n os j)∧le r2 (.rw 1 1 os.length)∧leBs bs2 [.cells [.sl 1 false xs,.int .i64 j],.row 3 1 os])
set_option maxRecDepth 100000 in
theorem qorder_e:qorder_T=qorder_S:=by kernel_rfl
theorem qorder_v:qorder_S:=@Eq.mp (qorder_T) (qorder_S) (qorder_e) (qorder_P)
theorem qorder_ok (gl:Glob):QOK Tryd.prog gl 23 qorder_s:=by
  refine ⟨fok Tryd.func23 (by kernel_rfl) (by kernel_rfl),?_⟩
  intro xs bs T h K hT
  unfold qorder_s at h
  split at h
  · simp only [Option.some.injEq] at h
    subst h
    obtain ⟨hp,hK⟩:=hT
    obtain ⟨r,bs2,⟨o0,o1,hq,hl,hb⟩,hC⟩:=fnQ_sound tyNil (by exact specOK rfl rfl trivial trivial (d:=qsOf rfl ⟨(qn_ok gl),trivial⟩)) (by kernel_rfl) Tryd.func23 (qorder_v gl _ _ _ hp)
    exact ⟨_,_,hK o0 o1 hq,hC.le hl hb⟩
  · cases h
end Go.Proofs.YtgnnafneglannaaDoor
namespace Go.Proofs.YtgnnafneglannaaDoor
open Go
set_option linter.unusedVariables false
set_option linter.unusedSimpArgs false
theorem any_no2 {P:List AV→Bool}:∀ {l:LLA},(∀ j,j < l.length→P (l.getD j [])=false)→l.any P=false
  | [],_=>rfl
  | x::l,h=>by
    rw [List.any_cons,show P x=false from h 0 (by simp),any_no2 (l:=l) fun j hj=>h (j+1) (by simpa using hj)]; rfl
theorem rdV_vd {rd:List (List AV)} (h:RdV 12 rd):vdE rd=0:=by
  have k4:ckA 4 rd=false:=any_no2 fun j hj=>by
    obtain ⟨e,v,h1,h2,h3⟩:=h.frow j hj
    rw [h1]
    refine decide_eq_false fun q=>?_
    have q:ck e v=4:=q
    unfold ck at q
    have ho:okC e=true:=decide_eq_true (by omega)
    rw [ho,if_pos rfl,if_neg (by omega)] at q
    omega
  have k1:ckA 1 rd=false:=any_no2 fun j hj=>by
    obtain ⟨e,v,h1,h2,h3⟩:=h.frow j hj
    rw [h1]
    refine decide_eq_false fun q=>?_
    have q:ck e v=1:=q
    unfold ck at q
    have ho:okC e=true:=decide_eq_true (by omega)
    rw [ho,if_pos rfl,if_neg (by omega)] at q
    omega
  have ka:ascB rd=true:=decide_eq_true fun j hj=>by
    rcases Nat.eq_zero_or_pos j with h0 | h0
    · exact .inl h0
    · exact .inr (h.fasc (j - 1) j (by omega) hj)
  unfold vdE
  rw [k4,k1,ka]; rfl
theorem nam6_ok:∀ nm ∈ nam6,nmOk nm=true:=by decide +kernel
theorem rep_ok {k:Int} {nm:ByteArray} {t f a b c:Int} {ys:LLA} {j:Int} (h:RepQ k nm t f a b c ys j):gpE k nm t f a b c ys=0:=by
  have h1:=h.fk
  have h2:=h.ft
  unfold gpE
  rw [if_neg (by omega),nam6_ok nm h.fn,if_neg (by simp),if_neg,rdV_vd h.fr]
  rintro (q | q)
  · unfold inB at q
    exact absurd h2 (of_decide_eq_false q)
  · unfold locB at q
    by_cases hk:k=1
    · rw [if_pos hk] at q
      exact absurd (h.fl hk) (of_decide_eq_false q)
    · rw [if_neg hk,(h.fp hk).2] at q
      cases q
theorem itv_ck {x:List AV} (h:ItV x):ckR x=0:=by
  obtain ⟨k,nm,t,f,a,b,c,ys,co,ar,rfl,h2,h3,h4⟩:=h.fr
  show itE k nm t f a b c ys co ar=0
  unfold itE
  rw [rep_ok h2,if_pos rfl,if_neg (by omega)]
theorem itv_g {x:List AV} (h:ItV x):ItG x:=by
  obtain ⟨k,nm,t,f,a,b,c,ys,co,ar,h1,h2,_⟩:=h.fr
  exact ⟨k,nm,t,f,a,b,c,ys,co,ar,h1,rdv_rds h2.fr,by have:=h2.fr.flen; omega⟩
theorem itv_r {x:List AV} (h:ItV x):ItR x:=by
  obtain ⟨k,nm,t,f,a,b,c,ys,co,ar,rfl,h2,_⟩:=h.fr
  refine ⟨⟨_,_,_,_,_,_,_,_,_,_,rfl⟩,fun r hr=>?_⟩
  have hr:r ∈ ys:=hr
  obtain ⟨i,hi,rfl⟩:=List.mem_iff_getElem.1 hr
  obtain ⟨e,v,h5,_⟩:=h2.fr.frow i hi
  rw [getD_lt hi] at h5
  exact ⟨e,v,h5⟩
structure AddR (ys:LLA):Prop where
  fv:inV (addsI [] ys)=0
  fg:GdL (addsI [] ys)
  fl:(addsI [] ys).length≤ys.length
theorem adds_snoc (ys:LLA) (x:List AV):addsI [] (ys++[x])=addI (addsI [] ys) x:=by unfold addsI; rw [List.foldl_append]; rfl
theorem add_pu {ys:LLA} {x:List AV} (h:AddR ys) (hl:ys.length≤100) (hx:ItV x):puE (addsI [] ys) x=0:=by
  have:=h.fl
  unfold puE
  rw [if_pos (itv_ck hx)]
  split
  · rfl
  · rw [if_neg (by omega)]
theorem adds_ok:∀ ys:LLA,(∀ r ∈ ys,ItV r)→ys.length≤100→AddR ys :=
  snoc_ind (fun _ _=>⟨inV_of (by decide) (by simp [addsI]) (by simp [addsI,Srt]),⟨by simp [addsI],by decide⟩,by decide⟩) fun l x ih h hl=>by
    rw [List.length_append,List.length_singleton] at hl
    have i1:=ih (fun r hr=>h r (by simp [hr])) (by omega)
    have hx:=h x (by simp)
    have hp:=add_pu i1 (by omega) hx
    refine ⟨?_,?_,?_⟩
    · rw [adds_snoc]; exact inV_add i1.fv i1.fg (itv_g hx) hp
    · rw [adds_snoc]; exact (addI_gd i1.fg (itv_g hx) hp (inV_ok i1.fv).1).1
    · rw [adds_snoc,List.length_append,List.length_singleton]
      have:=(addI_len (addsI [] l) x).1
      have:=i1.fl
      omega
theorem add_st {ys:LLA} {x:List AV} (h:∀ r ∈ ys,ItV r) (hl:ys.length≤100) (hx:ItV x):adE (addsI [] ys) x=0∧adO (addsI [] ys) x=addsI [] (ys++[x]):=by
  have a:=adds_ok ys h hl
  have e:adE (addsI [] ys) x=0:=by unfold adE; rw [if_pos a.fv]; exact add_pu a hl hx
  exact ⟨e,by unfold adO; rw [if_pos e,adds_snoc]⟩
def pkI (its:LLA) (r:List AV):List AV:=match r with
  | [.int _ k]=>its.getD k.toNat []
  | _=>[]
theorem pk_ext {n:Nat} {its L1 L2:LLA} {j1 j2:Int} (hi:∀ r ∈ its,ItV r) (hn:its.length=n) (h1:OrdQ n L1 j1) (h2:OrdQ n L2 j2):addsI [] ((L1++L2).map (pkI its))=addsI [] its∧(∀ r ∈ L1++L2,∃ k:Int,r=[.int .i64 k]∧0≤k∧k < n):=by
  have hL:∀ r ∈ L1++L2,∃ k:Int,r=[.int .i64 k]∧0≤k∧k < n:=fun r hr=>by
    rcases List.mem_append.1 hr with h | h
    · exact h1.fr r h
    · exact h2.fr r h
  have hm:∀ r ∈ L1++L2,pkI its r ∈ its:=fun r hr=>by
    obtain ⟨k,rfl,a,b⟩:=hL r hr
    show its.getD k.toNat [] ∈ its
    rw [getD_lt (by omega)]
    exact List.getElem_mem _
  refine ⟨addsI_ext (fun z hz=>?_) (fun z hz=>itv_r (hi z hz)) fun z=>⟨fun hz=>?_,fun hz=>?_⟩,hL⟩
  · obtain ⟨r,hr,rfl⟩:=List.mem_map.1 hz
    exact itv_r (hi _ (hm r hr))
  · obtain ⟨r,hr,rfl⟩:=List.mem_map.1 hz
    exact hm r hr
  · obtain ⟨i,hi,rfl⟩:=List.mem_iff_getElem.1 hz
    refine List.mem_map.2 ⟨[.int .i64 (i:Int)],List.mem_append_left _ (h1.fa i (by omega)),?_⟩
    show its.getD (i:Int).toNat []=_
    rw [Int.toNat_natCast,getD_lt hi]
end Go.Proofs.YtgnnafneglannaaDoor
namespace Go.Proofs.YtgnnafneglannaaDoor
open Go
set_option linter.unusedVariables false
set_option linter.unusedSimpArgs false
structure WinQ (m fr to cut j:Int):Prop where
  ff:m - 150≤fr∧fr≤m
  ft:m - 5≤to∧to≤m+150
  fc:m - 70≤cut∧cut≤m+310
  fj:0≤j
def qwindow_s:SpQ
  | [.ptr 0 0,.int .i64 m],[.cells [.sl 1 false xs,.int .i64 i]]=>some (fun K=>(SrcQ xs i∧0≤m∧m≤52595999)∧(∀ (fr to cut j:Int),(WinQ m fr to cut j)→K (.agg [.int .i64 fr,.int .i64 to,.int .i64 cut]) [.cells [.sl 1 false xs,.int .i64 j]]))
  | _,_=>none
set_option maxRecDepth 100000 in
def qwindow_T:Prop :=
  ∀ (gl:Glob) (xs:List (List AV)) (i m:Int),SrcQ xs i∧(0:Int)≤m∧m≤(52595999:Int)→SrcQ xs i∧∀ (v j:Int),NumQ (150:Int) v j→bif decide (rng IntKind.i64 (m
  - v)) then (SrcQ xs j∧(-5:Int)≤(150:Int)∧(-1000000000:Int)≤(-5:Int)∧(150:Int)≤(1000000000:Int))∧∀ (v_1 j:Int),((-5:Int)≤v_1∧v_1≤(150:Int)) ∧
  (0:Int)≤j→bif decide (rng IntKind.i64 (m+v_1)) then (SrcQ xs j∧(-70:Int)≤(310:Int)∧(-1000000000:Int)≤(-70:Int)∧(310:Int)≤(1000000000:Int))∧∀ (v_2
  j:Int),((-70:Int)≤v_2∧v_2≤(310:Int))∧(0:Int)≤j→bif decide (rng IntKind.i64 (m+v_2)) then ∃ fr to cut j_1,WinQ m fr to cut j_1∧(m - v=fr∧m+v_1=to ∧
  m+v_2=cut∧True)∧((True∧xs=xs)∧j=j_1∧True)∧True else False else False else False
set_option maxRecDepth 100000 in
theorem qwindow_P:qwindow_T:=by
  unfold qwindow_T
  intro gl xs i m ⟨hs,h1,h2⟩
  have s:=hs.s
  refine ⟨hs,fun v j q=>?_⟩
  have hv:=q.fv (by omega)
  exact cdI (by omega) ⟨⟨⟨s,q.fj⟩,by decide,by decide,by decide⟩,fun v1 j q1=>cdI (by omega) ⟨⟨⟨s,q1.2⟩,by decide,by decide,by decide⟩,fun v2 j q2=>cdI (by omega) ⟨_,_,_,j,⟨by omega,by omega,by omega,q2.2⟩,⟨rfl,rfl,rfl,trivial⟩,sT⟩⟩⟩
def qwindow_S:Prop:=∀ (gl:Glob) (xs:List (List AV)) (i m:Int),SrcQ xs i∧0≤m∧m≤52595999→fnQ Tryd.prog { glob:=gl,spec:=lk [],specH:=lk [],specQ:=lk [(13,qn_s),(16,qrange_s)],nowf:=true } { nt:=18,drop:=drp [(1,262112)],fr:=1000,kp:=[0] } (fun _ _=>none) 6 Tryd.f24 [.ptr 0 0,.int .i64 m] [.cells [.sl 1 false xs,.int .i64 i]] (fun r2 bs2=>∃ (fr to cut j:Int),(WinQ m fr to cut j)∧le r2 (.agg [.int .i64 fr,.int .i64 to,.int .i64 cut])∧leBs bs2 [.cells [.sl 1 false xs,.int .i64 j]])
set_option maxRecDepth 100000 in
theorem qwindow_e:qwindow_T=qwindow_S:=by kernel_rfl
theorem qwindow_v:qwindow_S:=@Eq.mp (qwindow_T) (qwindow_S) (qwindow_e) (qwindow_P)
theorem qwindow_ok (gl:Glob):QOK Tryd.prog gl 24 qwindow_s:=by
  refine ⟨fok Tryd.func24 (by kernel_rfl) (by kernel_rfl),?_⟩
  intro xs bs T h K hT
  unfold qwindow_s at h
  split at h
  · simp only [Option.some.injEq] at h
    subst h
    obtain ⟨hp,hK⟩:=hT
    obtain ⟨r,bs2,⟨o0,o1,o2,o3,hq,hl,hb⟩,hC⟩:=fnQ_sound tyNil (by exact specOK rfl rfl trivial trivial (d:=qsOf rfl ⟨(qn_ok gl),(qrange_ok gl),trivial⟩)) (by kernel_rfl) Tryd.func24 (qwindow_v gl _ _ _ hp)
    exact ⟨_,_,hK o0 o1 o2 o3 hq,hC.le hl hb⟩
  · cases h
end Go.Proofs.YtgnnafneglannaaDoor
namespace Go.Proofs.YtgnnafneglannaaDoor
open Go
set_option linter.unusedVariables false
set_option linter.unusedSimpArgs false
def rsame_s (rdC:LLA→LLA→Int) (cmpI:Int→Int→Int) (cmpS:ByteArray→ByteArray→Int):Sp
  | [.agg [.int .i64 k,.str n,.int .i64 t,.int .i64 f,.int .i64 a,.int .i64 b,.int .i64 c,.sl 2 h rd],.agg [.int .i64 k2,.str n2,.int .i64 t2,.int .i64 f2,.int .i64 a2,.int .i64 b2,.int .i64 c2,.sl 2 h2 rd2]]=>some (RdsP rd∧RdsP rd2,.bool (decide (orI (cmpI k k2) (orI (cmpS n n2) (orI (cmpI t t2) (orI (cmpI f f2) (orI (cmpI a a2) (orI (cmpI b b2) (orI (cmpI c c2) (rdC rd rd2)))))))=0)))
  | _=>none
set_option maxRecDepth 100000 in
def rsame_T (rdC:LLA→LLA→Int) (cmpI:Int→Int→Int) (cmpS:ByteArray→ByteArray→Int):Prop :=
  ∀ (gl:Glob) (k t f a b c k2 t2 f2 a2 b2 c2:Int) (n n2:ByteArray) (rd rd2:List (List AV)) (h h2:Bool),RdsP rd∧RdsP rd2→((-9223372036854775808:Int)≤k∧k ≤
  (9223372036854775807:Int))∧n.size.le (9223372036854775807:Nat)∧((-9223372036854775808:Int)≤t∧t≤(9223372036854775807:Int))∧((-9223372036854775808:Int)≤f∧f
 ≤(9223372036854775807:Int))∧((-9223372036854775808:Int)≤a∧a≤(9223372036854775807:Int))∧((-9223372036854775808:Int)≤b∧b≤(9223372036854775807:Int)) ∧
  ((-9223372036854775808:Int)≤c∧c≤(9223372036854775807:Int))∧True∧True→((-9223372036854775808:Int)≤k2∧k2≤(9223372036854775807:Int))∧n2.size.le
  (9223372036854775807:Nat)∧((-9223372036854775808:Int)≤t2∧t2≤(9223372036854775807:Int))∧((-9223372036854775808:Int)≤f2∧f2≤(9223372036854775807:Int)) ∧
  ((-9223372036854775808:Int)≤a2∧a2≤(9223372036854775807:Int))∧((-9223372036854775808:Int)≤b2∧b2≤(9223372036854775807:Int))∧((-9223372036854775808:Int)≤c2
 ∧c2≤(9223372036854775807:Int))∧True∧True→(RdsP rd∧RdsP rd2)∧decide (orI (cmpI k k2) (orI (cmpS n n2) (orI (cmpI t t2) (orI (cmpI f f2) (orI (cmpI a a2) (orI (cmpI b
  b2) (orI (cmpI c c2) (rdC rd rd2)))))))=(0:Int))=decide (orI (cmpI k k2) (orI (cmpS n n2) (orI (cmpI t t2) (orI (cmpI f f2) (orI (cmpI a a2) (orI (cmpI b b2) (orI (cmpI c c2)
  (rdC rd rd2)))))))=(0:Int))
set_option maxRecDepth 100000 in
theorem rsame_P:rsame_T rdC cmpI cmpS:=by
  unfold rsame_T
  intro gl k t f a b c k2 t2 f2 a2 b2 c2 n n2 rd rd2 h h2 hp _ _
  exact ⟨hp,rfl⟩
def rsame_S (rdC:LLA→LLA→Int) (cmpI:Int→Int→Int) (cmpS:ByteArray→ByteArray→Int):Prop:=∀ (gl:Glob) (k t f a b c k2 t2 f2 a2 b2 c2:Int) (n n2:ByteArray) (rd rd2:List (List AV)) (h h2:Bool),RdsP rd∧RdsP rd2→fnK Tryd.prog { glob:=gl,spec:=lk [(57,(rcmp_s rdC cmpI cmpS))],specH:=lk [],nowf:=true } { nt:=9,drop:=drp [(1,480)] } (fun _ _=>none) 6 Tryd.f48 [.agg [.int .i64 k,.str n,.int .i64 t,.int .i64 f,.int .i64 a,.int .i64 b,.int .i64 c,.sl 2 h rd],.agg [.int .i64 k2,.str n2,.int .i64 t2,.int .i64 f2,.int .i64 a2,.int .i64 b2,.int .i64 c2,.sl 2 h2 rd2]] (.bool (decide (orI (cmpI k k2) (orI (cmpS n n2) (orI (cmpI t t2) (orI (cmpI f f2) (orI (cmpI a a2) (orI (cmpI b b2) (orI (cmpI c c2) (rdC rd rd2)))))))=0)))
set_option maxRecDepth 100000 in
theorem rsame_e (rdC:LLA→LLA→Int) (cmpI:Int→Int→Int) (cmpS:ByteArray→ByteArray→Int):rsame_T rdC cmpI cmpS=rsame_S rdC cmpI cmpS:=by kernel_rfl
theorem rsame_v:rsame_S rdC cmpI cmpS:=@Eq.mp (rsame_T rdC cmpI cmpS) (rsame_S rdC cmpI cmpS) (rsame_e rdC cmpI cmpS) (rsame_P)
theorem rsame_ok (gl:Glob):SOK Tryd.prog gl 48 (rsame_s rdC cmpI cmpS):=by
  refine ⟨fok Tryd.func48 (by kernel_rfl) (by kernel_rfl),?_⟩
  intro xs pre r h hp
  unfold rsame_s at h
  split at h
  · simp only [Option.some.injEq,Prod.mk.injEq] at h
    obtain ⟨h1,h2⟩:=h
    subst h1 h2
    exact fnK_sound tyNil (by exact specOK rfl rfl ⟨(rcmp_ok gl),trivial⟩ trivial) (by kernel_rfl) Tryd.func48 rfl (rsame_v gl _ _ _ _ _ _ _ _ _ _ _ _ _ _ _ _ _ _ hp)
  · cases h
theorem or_same (k t f a b c:Int) (n:ByteArray) (rd:LLA):orI (cmpI k k) (orI (cmpS n n) (orI (cmpI t t) (orI (cmpI f f) (orI (cmpI a a) (orI (cmpI b b) (orI (cmpI c c) (rdC rd rd)))))))=0:=by
  have hc:∀ z:Int,cmpI z z=0:=fun z=>by unfold cmpI; simp
  have hs:cmpS n n=0:=by rw [← lex_nm0]; exact lexI_rfl _
  have hr:rdC rd rd=0:=lexI_rfl _
  rw [hc,hc,hc,hc,hc,hc,hs,hr]
  rfl
structure MgS (r:List AV):Prop where
  fr:∃ (k:Int) (nm:ByteArray) (t f a b c:Int) (rd:LLA) (vs:Int) (cs:LLA),r=[.int .i64 k,.str nm,.int .i64 t,.int .i64 f,.int .i64 a,.int .i64 b,.int .i64 c,.sl 2 false rd,.int .i64 vs,.sl 1 false cs]∧RdsP rd∧IntsB cs∧cs.length≤9223372036854775807
structure MgL (l:LLA):Prop where
  fr:∀ i,i < l.length→MgS (l.getD i [])
  fl:l.length≤9223372036854775807
structure SmO (a:LLA) (i:Int):Prop where
  flo:0≤i
  fhi:i≤a.length
def so4 (a b:LLA) (g h:Bool):LInv:=⟨Int,fun i=>⟨[(0,.sl 10 g a),(1,.sl 10 h b),(5,.int .i64 i)],[]⟩,SmO a,fun i=>(a.length - i).toNat,none⟩
structure SmN (cs:LLA) (q:Int):Prop where
  flo:0≤q
  fhi:q≤cs.length
def so10 (a b:LLA) (g h:Bool) (i:Int) (u v:List AV) (cs:LLA):LInv:=⟨Int,fun q=>⟨[(0,.sl 10 g a),(1,.sl 10 h b),(5,.int .i64 i),(6,.ptr 6 0),(7,.ptr 7 0),(8,.int .i64 q)],[(6,.cells u),(7,.cells v)]⟩,SmN cs,fun q=>(cs.length - q).toNat,none⟩
def soJ (a b:LLA) (g h:Bool) (id:Nat) (st:St):Option LInv:=cond (Nat.beq id 4) (some (so4 a b g h)) (cond (Nat.beq id 10) (match lk st.tmps 5,lk st.heap 6,lk st.heap 7 with
  | some (.int _ i),some (.cells [u0,u1,u2,u3,u4,u5,u6,u7,u8,.sl 1 _ cs]),some (.cells v)=>some (so10 a b g h i [u0,u1,u2,u3,u4,u5,u6,u7,u8,.sl 1 false cs] v cs)
  | _,_,_=>none) none)
def rsmm_s (rdC:LLA→LLA→Int) (cmpI:Int→Int→Int) (cmpS:ByteArray→ByteArray→Int):Sp
  | [.sl 10 g a,.sl 10 h b]=>some (MgL a∧b=a,.bool true)
  | _=>none
set_option maxRecDepth 100000 in
def rsmm_T (rdC:LLA→LLA→Int) (cmpI:Int→Int→Int) (cmpS:ByteArray→ByteArray→Int):Prop :=
  ∀ (gl:Glob) (a b:List (List AV)) (g h:Bool),MgL a∧b=a→True→True→bif decide ¬(↑a.length:Int)=(↑b.length:Int) then false=true else (∃ x,SmO a x∧(((bif g
  then g=true else True)∧a=a)∧((bif h then h=true else True)∧b=b)∧(0:Int)=x∧True)∧True)∧∀ (x:Int),SmO a x→bif decide (x < (↑a.length:Int)) then bif
  decide ((0:Int)≤x∧x < (↑a.length:Int)) then ∃ n s n_1 n_2 n_3 n_4 n_5 xs n_6 xs_1,List.take [AV.int IntKind.i64 n,AV.str s,AV.int IntKind.i64 n_1,AV.int IntKind.i64
  n_2,AV.int IntKind.i64 n_3,AV.int IntKind.i64 n_4,AV.int IntKind.i64 n_5,AV.sl (2:Nat) false xs,AV.int IntKind.i64 n_6,AV.sl (1:Nat) false xs_1].length (a.getD x.toNat
  [])=[AV.int IntKind.i64 n,AV.str s,AV.int IntKind.i64 n_1,AV.int IntKind.i64 n_2,AV.int IntKind.i64 n_3,AV.int IntKind.i64 n_4,AV.int IntKind.i64 n_5,AV.sl (2:Nat) false
  xs,AV.int IntKind.i64 n_6,AV.sl (1:Nat) false xs_1]∧bif decide ((0:Int)≤x∧x < (↑b.length:Int)) then ∃ n_7 s_1 n_8 n_9 n_10 n_11 n_12 xs_2 n_13 xs_3,List.take [AV.int
  IntKind.i64 n_7,AV.str s_1,AV.int IntKind.i64 n_8,AV.int IntKind.i64 n_9,AV.int IntKind.i64 n_10,AV.int IntKind.i64 n_11,AV.int IntKind.i64 n_12,AV.sl (2:Nat) false xs_2,
  AV.int IntKind.i64 n_13,AV.sl (1:Nat) false xs_3].length (b.getD x.toNat [])=[AV.int IntKind.i64 n_7,AV.str s_1,AV.int IntKind.i64 n_8,AV.int IntKind.i64 n_9,AV.int
  IntKind.i64 n_10,AV.int IntKind.i64 n_11,AV.int IntKind.i64 n_12,AV.sl (2:Nat) false xs_2,AV.int IntKind.i64 n_13,AV.sl (1:Nat) false xs_3]∧(RdsP xs∧RdsP xs_2)∧bif
  !decide (orI (cmpI n n_7) (orI (cmpS s s_1) (orI (cmpI n_1 n_8) (orI (cmpI n_2 n_9) (orI (cmpI n_3 n_10) (orI (cmpI n_4 n_11) (orI (cmpI n_5 n_12) (rdC xs xs_2)))))))=(0:Int))
  then false=true else bif decide ¬n_6=n_13 then false=true else bif decide ¬(↑xs_1.length:Int)=(↑xs_3.length:Int) then false=true else (∃ x_1,SmN xs_1 x_1∧(((bif g
  then g=true else True)∧a=a)∧((bif h then h=true else True)∧b=b)∧x=x∧(0:Nat)=(0:Nat)∧(0:Nat)=(0:Nat)∧(0:Int)=x_1∧True)∧(n=n∧s=s ∧
  n_1=n_1∧n_2=n_2∧n_3=n_3∧n_4=n_4∧n_5=n_5∧(True∧xs=xs)∧n_6=n_6∧(True∧xs_1=xs_1)∧True)∧(n_7=n_7∧s_1=s_1∧n_8=n_8∧n_9=n_9∧n_10 =
  n_10∧n_11=n_11∧n_12=n_12∧(True∧xs_2=xs_2)∧n_13=n_13∧(True∧xs_3=xs_3)∧True)∧True)∧∀ (x_1:Int),SmN xs_1 x_1→bif decide (x_1 < (↑xs_1.length:Int))
  then bif decide ((0:Int)≤x_1∧x_1 < (↑xs_1.length:Int)) then ∃ n_14,List.take [AV.int IntKind.i64 n_14].length (xs_1.getD x_1.toNat [])=[AV.int IntKind.i64 n_14]∧bif
  decide ((0:Int)≤x_1∧x_1 < (↑xs_3.length:Int)) then ∃ n_15,List.take [AV.int IntKind.i64 n_15].length (xs_3.getD x_1.toNat [])=[AV.int IntKind.i64 n_15]∧bif decide
  ¬n_14=n_15 then false=true else bif decide (rng IntKind.i64 (x_1+(1:Int))) then ∃ y,SmN xs_1 y∧(so10 a b g h x [AV.int IntKind.i64 n,AV.str s,AV.int IntKind.i64 n_1,
  AV.int IntKind.i64 n_2,AV.int IntKind.i64 n_3,AV.int IntKind.i64 n_4,AV.int IntKind.i64 n_5,AV.sl (2:Nat) false xs,AV.int IntKind.i64 n_6,AV.sl (1:Nat) false xs_1]
  [AV.int IntKind.i64 n_7,AV.str s_1,AV.int IntKind.i64 n_8,AV.int IntKind.i64 n_9,AV.int IntKind.i64 n_10,AV.int IntKind.i64 n_11,AV.int IntKind.i64 n_12,AV.sl (2:Nat)
  false xs_2,AV.int IntKind.i64 n_13,AV.sl (1:Nat) false xs_3] xs_1).m y < (so10 a b g h x [AV.int IntKind.i64 n,AV.str s,AV.int IntKind.i64 n_1,AV.int IntKind.i64 n_2,AV.int
  IntKind.i64 n_3,AV.int IntKind.i64 n_4,AV.int IntKind.i64 n_5,AV.sl (2:Nat) false xs,AV.int IntKind.i64 n_6,AV.sl (1:Nat) false xs_1] [AV.int IntKind.i64 n_7,AV.str s_1,
  AV.int IntKind.i64 n_8,AV.int IntKind.i64 n_9,AV.int IntKind.i64 n_10,AV.int IntKind.i64 n_11,AV.int IntKind.i64 n_12,AV.sl (2:Nat) false xs_2,AV.int IntKind.i64 n_13,
  AV.sl (1:Nat) false xs_3] xs_1).m x_1∧(((bif g then g=true else True)∧a=a)∧((bif h then h=true else True)∧b=b)∧x=x∧(0:Nat)=(0:Nat)∧(0:Nat)=(0 :
  Nat)∧x_1+(1:Int)=y∧True)∧(n=n∧s=s∧n_1=n_1∧n_2=n_2∧n_3=n_3∧n_4=n_4∧n_5=n_5∧(True∧xs=xs)∧n_6=n_6∧(True∧xs_1=xs_1)∧True)∧(n_7
 =n_7∧s_1=s_1∧n_8=n_8∧n_9=n_9∧n_10=n_10∧n_11=n_11∧n_12=n_12∧(True∧xs_2=xs_2)∧n_13=n_13∧(True∧xs_3=xs_3)∧True)∧True else False else False
  else False else bif decide (rng IntKind.i64 (x+(1:Int))) then ∃ y,SmO a y∧(so4 a b g h).m y < (so4 a b g h).m x∧(((bif g then g=true else True)∧a=a)∧((bif h then h
 =true else True)∧b=b)∧x+(1:Int)=y∧True)∧True else False else False else False else true=true
set_option maxRecDepth 100000 in
theorem rsmm_P:rsmm_T rdC cmpI cmpS:=by
  unfold rsmm_T
  intro gl a b g h ⟨hp,e⟩ _ _
  subst e
  have bg:cond g (g=true) True:=by cases g <;> trivial
  have bh:cond h (h=true) True:=by cases h <;> trivial
  have ln:=hp.fl
  refine csx (fun w=>absurd rfl w) (fun _=>⟨⟨0,⟨by decide,by omega⟩,⟨⟨bg,rfl⟩,⟨bh,rfl⟩,rfl,trivial⟩,trivial⟩,?_⟩)
  rintro i ⟨i0,i1⟩
  refine csx (fun hi=>cd1 (by omega) ?_) (fun _=>rfl)
  obtain ⟨k,nm,t,f,x,y,c,rd,vs,cs,h1,h2,h3,h4⟩:=(hp.fr i.toNat (by omega)).fr
  refine ⟨k,nm,t,f,x,y,c,rd,vs,cs,by rw [h1]; rfl,cd1 (by omega) ⟨k,nm,t,f,x,y,c,rd,vs,cs,by rw [h1]; rfl,⟨h2,h2⟩,?_⟩⟩
  rw [or_same,decide_eq_true rfl,Bool.not_true,cond_false]
  refine csx (fun w=>absurd rfl w) (fun _=>csx (fun w=>absurd rfl w) (fun _=>⟨⟨0,⟨by decide,by omega⟩,?_⟩,?_⟩))
  · (repeat' (first | exact trivial | exact rfl | assumption | apply And.intro))
  rintro q ⟨q0,q1⟩
  refine csx (fun hq=>cd1 (by omega) ⟨_,intsB_at h3 (by omega),cd1 (by omega) ⟨_,intsB_at h3 (by omega),csx (fun w=>absurd rfl w) (fun _=>cdI (by omega) ⟨q+1,⟨by omega,by omega⟩,by simp only [so10]; omega,?_⟩)⟩⟩) (fun _=>cdI (by omega) ⟨i+1,⟨by omega,by omega⟩,by simp only [so4]; omega,⟨⟨bg,rfl⟩,⟨bh,rfl⟩,rfl,trivial⟩,trivial⟩)
  (repeat' (first | exact trivial | exact rfl | assumption | apply And.intro))
def rsmm_S (rdC:LLA→LLA→Int) (cmpI:Int→Int→Int) (cmpS:ByteArray→ByteArray→Int):Prop:=∀ (gl:Glob) (a b:List (List AV)) (g h:Bool),MgL a∧b=a→fnK Tryd.prog { glob:=gl,spec:=lk [(48,(rsame_s rdC cmpI cmpS))],specH:=lk [],shape:=[23,27,61,66],slz:=[(23,[2,1]),(27,[2,1])],nowf:=true } { nt:=68,drop:=drp [(1,7680),(4,114688),(5,786432),(6,267386880),(7,562949684985856),(10,16888498602639360),(11,108086391056891904),(12,147429837401600557056)] } (soJ a b g h) 6 Tryd.f27 [.sl 10 g a,.sl 10 h b] (.bool true)
set_option maxRecDepth 100000 in
theorem rsmm_e (rdC:LLA→LLA→Int) (cmpI:Int→Int→Int) (cmpS:ByteArray→ByteArray→Int):rsmm_T rdC cmpI cmpS=rsmm_S rdC cmpI cmpS:=by kernel_rfl
theorem rsmm_v:rsmm_S rdC cmpI cmpS:=@Eq.mp (rsmm_T rdC cmpI cmpS) (rsmm_S rdC cmpI cmpS) (rsmm_e rdC cmpI cmpS) (rsmm_P)
theorem rsmm_ok (gl:Glob):SOK Tryd.prog gl 27 (rsmm_s rdC cmpI cmpS):=by
  refine ⟨fok Tryd.func27 (by kernel_rfl) (by kernel_rfl),?_⟩
  intro xs pre r h hp
  unfold rsmm_s at h
  split at h
  · simp only [Option.some.injEq,Prod.mk.injEq] at h
    obtain ⟨h1,h2⟩:=h
    subst h1 h2
    exact fnK_sound tyNil (by exact specOK rfl rfl ⟨(rsame_ok gl),trivial⟩ trivial) (by kernel_rfl) Tryd.func27 rfl (rsmm_v gl _ _ _ _ hp)
  · cases h
end Go.Proofs.YtgnnafneglannaaDoor
namespace Go.Proofs.YtgnnafneglannaaDoor
open Go
set_option linter.unusedVariables false
set_option linter.unusedSimpArgs false
theorem OkL.its {l:LLA} (h:OkL l):∀ x ∈ l,ItS x:=fun x hx=>by
  obtain ⟨k,nm,t,f,a,b,c,rd,co,ar,e,_⟩:=h.row hx
  exact ⟨_,_,_,_,_,_,_,_,_,_,e⟩
theorem mrF_ord {l:LLA} {fr to cut:Int} (h:OkL l):(mrF l fr to cut).Pairwise OrdR∧∀ x ∈ mrF l fr to cut,0≤itCo x:=by
  refine ⟨?_,fun x hx=>?_⟩
  · refine List.Pairwise.filter _ ?_
    have hs:=(inV_ok h.fv).2.2
    exact List.Pairwise.imp_of_mem (fun {a b} ha hb hab=>itC_ord (h.its a ha) (h.its b hb) hab) hs
  · obtain ⟨k,nm,t,f,a,b,c,rd,co,ar,rfl,_,_,hco⟩:=h.row (List.mem_filter.1 hx).1
    exact hco
end Go.Proofs.YtgnnafneglannaaDoor
namespace Go.Proofs.YtgnnafneglannaaDoor
open Go
set_option linter.unusedVariables false
set_option linter.unusedSimpArgs false
theorem lasI_rng {G:LLA} (h:MgP G) (c:Int):rng .i64 (lasI (cvs (rdsF G) c)):=by
  unfold lasI
  cases e:(cvs (rdsF G) c).getLast? with
  | none=>exact ⟨by decide,by decide⟩
  | some v =>
    have hv:=List.mem_of_getLast? e
    unfold cvs at hv
    obtain ⟨r,hr,rfl⟩:=List.mem_map.1 hv
    have hr:=(List.mem_filter.1 hr).1
    unfold rdsF at hr
    rw [List.mem_flatten] at hr
    obtain ⟨l,hl,hr⟩:=hr
    obtain ⟨x,hx,rfl⟩:=List.mem_map.1 hl
    obtain ⟨i,hi,rfl⟩:=List.mem_iff_getElem.1 hx
    obtain ⟨k,nm,t,f,a,b,c,rd,co,ar,h1,h2⟩:=h.fr i hi
    rw [getD_lt hi] at h1
    rw [h1] at hr
    have hr:r ∈ rd:=hr
    obtain ⟨j,hj,rfl⟩:=List.mem_iff_getElem.1 hr
    obtain ⟨e,v,h3,_,h4⟩:=h2.fr j hj
    rw [getD_lt hj] at h3
    rw [h3]
    exact h4
theorem rdN_mem {G:LLA}:∀ (n:Nat) (r:List AV),r ∈ rdN G n→∃ k:Nat,k < n∧r=[.int .i64 (k:Int),.int .i64 (lasI (cvs (rdsF G) k))]
  | 0,r,h=>by simp [rdN] at h
  | n+1,r,h=>by
    simp only [rdN] at h
    rcases List.mem_append.1 h with h | h
    · obtain ⟨k,hk,e⟩:=rdN_mem n r h
      exact ⟨k,by omega,e⟩
    · split at h
      · simp at h
      · split at h
        · simp at h
        · exact ⟨n,by omega,by simpa using h⟩
theorem gR_rds {G:LLA} (h:MgP G):RdsP (gR G):=⟨fun i hi=>by
  rw [getD_lt hi]
  obtain ⟨k,hk,e⟩:=rdN_mem 12 _ (List.getElem_mem hi)
  exact ⟨_,_,e,by show _∧_; omega,lasI_rng h _⟩,by have:=rdN_len G 12; unfold gR; omega⟩
theorem ctN_mem {G:LLA}:∀ (n:Nat) (r:List AV),r ∈ ctN G n→∃ k:Nat,k < n∧r=[.int .i64 (k:Int)]
  | 0,r,h=>by simp [ctN] at h
  | n+1,r,h=>by
    simp only [ctN] at h
    rcases List.mem_append.1 h with h | h
    · obtain ⟨k,hk,e⟩:=ctN_mem n r h
      exact ⟨k,by omega,e⟩
    · split at h
      · exact ⟨n,by omega,by simpa using h⟩
      · simp at h
theorem gC_len (G:LLA):(gC G).length≤12:=ctN_len G 12
theorem mgRow_ok {G:LLA} (h:MgP G) (hi:IntsB (gC G)):MgS (mgRow G):=⟨_,_,_,_,_,_,_,_,_,_,rfl,gR_rds h,hi,by have:=gC_len G; omega⟩
theorem mgRow_s {G:LLA} (h:MgP G):MgS (mgRow G):=mgRow_ok h ⟨fun x hx=>by
  obtain ⟨k,hk,e⟩:=ctN_mem 12 x hx
  exact ⟨_,e,by show _∧_; omega⟩⟩
theorem gr_sub (F:LLA):∀ g ∈ grF F,∀ x ∈ g,x ∈ F:=by
  refine snoc_ind (P:=fun F=>∀ g ∈ grF F,∀ x ∈ g,x ∈ F) (fun g hg=>by simp [grF,gsF,grS] at hg) (fun l x ih=>?_) F
  intro g hg z hz
  unfold grF at ih hg
  rw [gsF_snoc] at hg
  generalize gsF l=s at *
  obtain ⟨o,q⟩:=s
  cases q with
  | nil =>
    have hg:g ∈ o++[[x]]:=hg
    rcases List.mem_append.1 hg with h | h
    · exact List.mem_append_left _ (ih g h z hz)
    · rw [List.mem_singleton.1 h] at hz; rw [List.mem_singleton.1 hz]; simp
  | cons y q =>
    have io:∀ g ∈ o,∀ x ∈ g,x ∈ l:=fun g hg=>ih g (by simp [grS,hg])
    have iq:∀ x ∈ y::q,x ∈ l:=ih (y::q) (by simp [grS])
    simp only [gs1] at hg
    split at hg
    · split at hg
      · have hg:g ∈ o++[[x]]:=hg
        rcases List.mem_append.1 hg with h | h
        · exact List.mem_append_left _ (io g h z hz)
        · rw [List.mem_singleton.1 h] at hz; rw [List.mem_singleton.1 hz]; simp
      · have hg:g ∈ o++[y::q++[x]]:=hg
        rcases List.mem_append.1 hg with h | h
        · exact List.mem_append_left _ (io g h z hz)
        · rw [List.mem_singleton.1 h] at hz
          rcases List.mem_append.1 hz with hz | hz
          · exact List.mem_append_left _ (iq z hz)
          · exact List.mem_append_right _ hz
    · have hg:g ∈ (o++[y::q])++[[x]]:=hg
      rcases List.mem_append.1 hg with h | h
      · rcases List.mem_append.1 h with h | h
        · exact List.mem_append_left _ (io g h z hz)
        · rw [List.mem_singleton.1 h] at hz; exact List.mem_append_left _ (iq z hz)
      · rw [List.mem_singleton.1 h] at hz; rw [List.mem_singleton.1 hz]; simp
theorem mrF_sub {l:LLA} {fr to cut:Int}:(∀ x ∈ mrF l fr to cut,x ∈ l)∧(mrF l fr to cut).length≤l.length:=⟨fun x hx=>(List.mem_filter.1 hx).1,List.length_filter_le _ _⟩
theorem gr_mgp {l:LLA} {fr to cut:Int} (h:OkL l) {g:LLA} (hg:g ∈ grF (mrF l fr to cut)):MgP g:=by
  have h9:=(inV_ok h.fv).1
  obtain ⟨a,b⟩:=(grF_ok (mrF_ord h).1 (mrF_ord h).2).fg g hg
  refine h.mgp (fun x hx=>mrF_sub.1 x (gr_sub _ g hg x hx)) ?_ a
  rw [b]
  have:=(mrF_sub (l:=l) (fr:=fr) (to:=to) (cut:=cut)).2
  have:=List.length_filter_le (fun y=>decide (itKy y=hdK g)&&decide (itCo y=bsF (mrF l fr to cut) (hdK g))) (mrF l fr to cut)
  unfold vsF
  omega
theorem grF_len (F:LLA):(grF F).length≤F.length+1:=by
  obtain ⟨_,_,h,_⟩:=gs_sub F
  unfold grF grS
  split
  · omega
  · simp; omega
theorem mr_mgl {l:LLA} {fr to cut:Int} (h:OkL l):MgL ((grF (mrF l fr to cut)).map mgRow):=⟨fun i hi=>by
  rw [getD_lt hi,List.getElem_map]
  exact mgRow_s (gr_mgp h (List.getElem_mem _)),by
  rw [List.length_map]
  have:=grF_len (mrF l fr to cut)
  have:=(mrF_sub (l:=l) (fr:=fr) (to:=to) (cut:=cut)).2
  have:=(inV_ok h.fv).1
  omega⟩
def tLe (cut:Int) (r:List AV):Bool:=decide (itTm r≤cut)
def tGt (cut:Int) (r:List AV):Bool:=decide (cut < itTm r)
structure WdP (p q r:LLA) (cut:Int):Prop where
  fq:q=p.filter (tLe cut)
  fr:r=p.filter (tGt cut)
  fm:MgL p
  fl:p.length≤200
  fk:∀ n:Nat,0 < n→n < p.length→itKy (p.getD (n - 1) [])≠itKy (p.getD n [])
end Go.Proofs.YtgnnafneglannaaDoor
namespace Go.Proofs.YtgnnafneglannaaDoor
open Go
set_option linter.unusedVariables false
set_option linter.unusedSimpArgs false
structure OrI6 (its:LLA) (x:Int × LLA):Prop where
  flo:0≤x.1
  fhi:x.1≤its.length
  fe:x.2=addsI [] (its.take x.1.toNat)
structure OrI13 (its L:LLA) (x:Int × LLA):Prop where
  flo:0≤x.1
  fhi:x.1≤L.length
  fe:x.2=addsI [] ((L.take x.1.toNat).map (pkI its))
def od6 (xs its:LLA) (m j:Int):LInv:=⟨Int × LLA,fun x=>⟨[(3,.ptr 21 0),(4,.int .i64 m),(5,.sl 10 false its),(6,.sl 10 false x.2),(7,.nils),(8,.int .i64 x.1)],[(21,.cells [.sl 1 false xs,.int .i64 j])]⟩,OrI6 its,fun x=>(its.length - x.1).toNat,none⟩
def od13 (xs its A L:LLA) (m j:Int):LInv:=⟨Int × LLA,fun x=>⟨[(3,.ptr 21 0),(4,.int .i64 m),(5,.sl 10 false its),(6,.sl 10 false A),(7,.sl 10 false x.2),(53,.rw 48 1 L.length),(54,.int .i64 L.length),(55,.int .i64 x.1)],[(21,.cells [.sl 1 false xs,.int .i64 j]),(48,.row 3 1 L)]⟩,OrI13 its L,fun x=>(L.length - x.1).toNat,none⟩
def odJ (id:Nat) (st:St):Option LInv:=match lk st.tmps 4,lk st.tmps 5,lk st.heap 21 with
  | some (.int _ m),some (.sl _ _ its),some (.cells [.sl _ _ xs,.int _ j])=>cond (Nat.beq id 6) (some (od6 xs its m j)) (cond (Nat.beq id 13) (match lk st.tmps 6,lk st.heap 48 with
    | some (.sl _ _ A),some (.row _ _ L)=>some (od13 xs its A L m j)
    | _,_=>none) none)
  | _,_,_=>none
def lorder_s (mrE:LLA→Int→Int→Int) (mrO:LLA→Int→Int→Int→LLA) (adE:LLA→List AV→Int) (adO:LLA→List AV→LLA) (smI:LLA→LLA→Bool) (inV:LLA→Int):Sp
  | [.sl 1 false xs]=>some (IntsA xs,.bool true)
  | _=>none
set_option maxRecDepth 100000 in
def lorder_T (mrE:LLA→Int→Int→Int) (mrO:LLA→Int→Int→Int→LLA) (adE:LLA→List AV→Int) (adO:LLA→List AV→LLA) (smI:LLA→LLA→Bool) (inV:LLA→Int) (puE:LLA→List AV→Int) (puN:LLA→List AV→Int) (addI:LLA→List AV→LLA) (suC:Int→ByteArray→Int→Int→ByteArray→Int→Int) (ouL:LLA→LLA→LLA) (itC:List AV→List AV→Int) (itE:Int→ByteArray→Int→Int→Int→Int→Int→LLA→Int→Int→Int) (rdC:LLA→LLA→Int) (cmpI:Int→Int→Int) (cmpS:ByteArray→ByteArray→Int) (aw1:LLA):Prop :=
  ∀ (xs:List (List AV)),(∀ (x:List AV),List.Mem x xs→∃ n,x=[AV.int .i64 n]∧rng .i64 n)→True→True∧SrcQ (List.take (2000:Nat) xs) (0:Int)∧∀ (m j:Int),MinQ m j→(SrcQ (List.take (2000:Nat) xs) j∧(0≤m∧m≤(52595999:Int))∧(0:Int)≤(8:Int)∧(8:Int)≤(100:Int))∧∀ (os:List (List AV)) (j:Int),ItmQ (8:Int) os j→(∃ x,OrI6 os
 x∧((0:Nat)=0∧m=m∧(True∧os=os)∧x.snd=[]∧True∧(0:Int)=x.fst∧True)∧((True∧List.take (2000:Nat) xs=List.take (2000:Nat) xs)∧j=j∧True)∧True)∧∀ (x:Int × LLA),OrI6 os x→bif decide (x.fst < (↑os.length:Int)) then bif decide (0≤x.fst∧x.fst < (↑os.length:Int)) then ∃ n s n_1 n_2 n_3 n_4 n_5 xs_1 n_6 n_7,List.take [AV.int .i64 n,.str s,.int .i64 n_1,.int .i64 n_2,.int .i64 n_3,.int .i64 n_4,.int
 .i64 n_5,.sl (2:Nat) false xs_1,.int .i64 n_6,.int .i64 n_7].length (os.getD x.fst.toNat [])=[AV.int .i64 n,.str s,.int .i64 n_1,.int .i64 n_2,.int .i64 n_3,.int .i64 n_4,.int .i64 n_5,.sl (2:Nat) false xs_1,.int .i64 n_6,.int .i64 n_7]∧AdP x.snd xs_1∧bif decide ¬adE x.snd (itA n s n_1 n_2 n_3 n_4 n_5 xs_1 n_6 n_7)=(0:Int) then false=true else bif decide (rng .i64 (x.fst+(1:Int))) then ∃ y,OrI6
 os y∧(od6 (List.take (2000:Nat) xs) os m j).m y < (od6 (List.take (2000:Nat) xs) os m j).m x∧((0:Nat)=0∧m=m∧(True∧os=os)∧(True∧adO x.snd (itA n s n_1 n_2 n_3 n_4 n_5 xs_1 n_6 n_7)=y.snd)∧True∧x.fst+(1:Int)=y.fst∧True)∧((True∧List.take (2000:Nat) xs=List.take (2000:Nat) xs)∧j=j∧True)∧True else False else False else (SrcQ (List.take (2000:Nat) xs) j∧(0:Int)≤(↑os.length:Int)∧(↑os.length:Int) ≤
 (1000:Int))∧∀ (os_1:List (List AV)) (j:Int),OrdQ (↑os.length:Int) os_1 j→(SrcQ (List.take (2000:Nat) xs) j∧(0:Int)≤(↑os.length:Int)∧(↑os.length:Int)≤(1000:Int))∧∀ (os_2:List (List AV)) (j:Int),OrdQ (↑os.length:Int) os_2 j→bif decide (os_2.length=os_2.length) then bif decide (os_1.length=os_1.length∧os_1.length+os_2.length≤(9223372036854775807:Nat)∧(os_1.length+os_2.length)*(8:Nat) ≤
 (140737488355328:Nat)) then (∃ x_1,OrI13 os (os_1++os_2) x_1∧((0:Nat)=0∧m=m∧(True∧os=os)∧(True∧x.snd=x.snd)∧x_1.snd=[]∧(os_1++os_2).length=(os_1++os_2).length∧(↑(os_1++os_2).length:Int)=(↑(os_1++os_2).length:Int)∧(0:Int)=x_1.fst∧True)∧((True∧List.take (2000:Nat) xs=List.take (2000:Nat) xs)∧j=j∧True)∧os_1++os_2=os_1++os_2∧True)∧∀ (x_1:Int × LLA),OrI13 os (os_1++os_2) x_1→bif decide
 (x_1.fst < (↑(os_1++os_2).length:Int)) then bif decide (0≤x_1.fst∧x_1.fst < (↑(os_1++os_2).length:Int)) then bif decide ((os_1++os_2).length=(os_1++os_2).length∧x_1.fst.toNat < (os_1++os_2).length) then ∃ n,List.take [AV.int .i64 n].length (List.drop (0:Nat) ((os_1++os_2).getD x_1.fst.toNat []))=[AV.int .i64 n]∧bif decide (0≤n∧n < (↑os.length:Int)) then ∃ n_1 s n_2 n_3
 n_4 n_5 n_6 xs_1 n_7 n_8,List.take [AV.int .i64 n_1,.str s,.int .i64 n_2,.int .i64 n_3,.int .i64 n_4,.int .i64 n_5,.int .i64 n_6,.sl (2:Nat) false xs_1,.int .i64 n_7,.int .i64 n_8].length (os.getD n.toNat [])=[AV.int .i64 n_1,.str s,.int .i64 n_2,.int .i64 n_3,.int .i64 n_4,.int .i64 n_5,.int .i64 n_6,.sl (2:Nat) false xs_1,.int .i64 n_7,.int .i64 n_8]∧AdP x_1.snd xs_1∧bif decide ¬adE x_1.snd (itA
 n_1 s n_2 n_3 n_4 n_5 n_6 xs_1 n_7 n_8)=(0:Int) then false=true else bif decide (rng .i64 (x_1.fst+(1:Int))) then ∃ y,OrI13 os (os_1++os_2) y∧(od13 (List.take (2000:Nat) xs) os x.snd (os_1++os_2) m j).m y < (od13 (List.take (2000:Nat) xs) os x.snd (os_1++os_2) m j).m x_1∧((0:Nat)=0∧m=m∧(True∧os=os)∧(True∧x.snd=x.snd)∧(True∧adO x_1.snd (itA n_1 s n_2 n_3 n_4 n_5 n_6 xs_1 n_7
 n_8)=y.snd)∧(os_1++os_2).length=(os_1++os_2).length∧(↑(os_1++os_2).length:Int)=(↑(os_1++os_2).length:Int)∧x_1.fst+(1:Int)=y.fst∧True)∧((True∧List.take (2000:Nat) xs=List.take (2000:Nat) xs)∧j=j∧True)∧os_1++os_2=os_1++os_2∧True else False else False else False else False else (SrcQ (List.take (2000:Nat) xs) j∧0≤m∧m≤(52595999:Int))∧∀ (fr to cut j:Int),WinQ m fr to cut j→ItsP
 x.snd∧ItsP x_1.snd∧bif decide (mrE x.snd fr to=mrE x_1.snd fr to) then (ItsP x.snd∧ItsP x_1.snd)∧bif smI x.snd x_1.snd then ItsP x.snd∧bif decide (inV x.snd=(0:Int)) then (MgL (mrO x.snd fr to cut)∧mrO x_1.snd fr to cut=mrO x.snd fr to cut)∧True∧true=true else false=true else false=true else false=true else False else False
set_option maxRecDepth 100000 in
theorem lorder_P:lorder_T mrE mrO adE adO smI inV puE puN addI suC ouL itC itE rdC cmpI cmpS aw1:=by
  unfold lorder_T
  intro xs hz _
  have hs:SrcI (List.take 2000 xs):=SrcI.take hz
  refine ⟨trivial,⟨hs,by decide⟩,fun m j q1=>⟨⟨⟨hs,q1.fj⟩,q1.fm,by decide,by decide⟩,fun os j q2=>?_⟩⟩
  have hm:=q1.fm
  have hv:=q2.fr
  have hl:=q2.fl
  have row:∀ i:Nat,i < os.length→ItV (os.getD i []):=fun i hi=>by rw [getD_lt hi]; exact hv _ (List.getElem_mem hi)
  refine ⟨⟨(0,[]),⟨by decide,by simp only; omega,rfl⟩,by (repeat' (first | exact trivial | exact rfl | assumption | apply And.intro))⟩,?_⟩
  rintro ⟨i,acc⟩ ⟨i0,i1,ie⟩
  simp only at i0 i1 ie
  dsimp only
  subst ie
  have hti:∀ r ∈ os.take i.toNat,ItV r:=fun r hr=>hv r (List.mem_of_mem_take hr)
  have htl:(os.take i.toNat).length≤100:=by rw [List.length_take]; omega
  refine csx (fun hi=>cd1 (by omega) ?_) (fun hi=>?_)
  · have hr:=row i.toNat (by omega)
    obtain ⟨k,nm,t,f,a,b,c,rd,co,ar,h1,hrd,hrl⟩:=(itv_g hr).fr
    have hsn:os.take (i+1).toNat=os.take i.toNat++[os.getD i.toNat []]:=by rw [show (i+1).toNat=i.toNat+1 by omega]; exact take_snoc (by omega)
    obtain ⟨e,eo⟩:=add_st hti htl hr
    have ad:=adds_ok _ hti htl
    rw [h1] at e eo hsn
    exact ⟨k,nm,t,f,a,b,c,rd,co,ar,by rw [h1]; rfl,⟨ad.fg.p,fun _=>ad.fg,hrd,hrl⟩,csx (fun w=>absurd e w) (fun _=>cdI (by omega) ⟨(i+1,adO (addsI [] (os.take i.toNat)) (itA k nm t f a b c rd co ar)),⟨by simp only; omega,by simp only; omega,by simp only; rw [eo,hsn]⟩,by simp only [od6]; omega,by (repeat' (first | exact trivial | exact rfl | assumption | apply And.intro))⟩)⟩
  · rw [show os.take i.toNat=os from List.take_of_length_le (by omega)]
    refine ⟨⟨⟨hs,q2.fj⟩,by omega,by omega⟩,fun o1 j1 p1=>⟨⟨⟨hs,p1.fj⟩,by omega,by omega⟩,fun o2 j2 p2=>?_⟩⟩
    have l1:=p1.fl
    have l2:=p2.fl
    refine cd1 rfl (cd1 ⟨rfl,by omega,by omega⟩ ?_)
    obtain ⟨hx,hL⟩:=pk_ext (n:=os.length) hv rfl p1 p2
    have hLl:(o1++o2).length≤16:=by rw [List.length_append]; omega
    generalize o1++o2=L at *
    refine ⟨⟨(0,[]),⟨by decide,by simp only; omega,rfl⟩,by (repeat' (first | exact trivial | exact rfl | assumption | apply And.intro))⟩,?_⟩
    rintro ⟨q,acc⟩ ⟨q0,q3,qe⟩
    simp only at q0 q3 qe
    dsimp only
    subst qe
    have hpk:∀ r ∈ L,ItV (pkI os r):=fun r hr=>by
      obtain ⟨v,rfl,v0,v1⟩:=hL r hr
      exact row v.toNat (by omega)
    have hti:∀ r ∈ (L.take q.toNat).map (pkI os),ItV r:=fun r hr=>by
      obtain ⟨z,hz,rfl⟩:=List.mem_map.1 hr
      exact hpk z (List.mem_of_mem_take hz)
    have htl:((L.take q.toNat).map (pkI os)).length≤100:=by rw [List.length_map,List.length_take]; omega
    refine csx (fun hq=>cd1 (by omega) (cd1 ⟨rfl,by omega⟩ ?_)) (fun hq=>?_)
    · obtain ⟨v,hv1,v0,v1⟩:=hL (L.getD q.toNat []) (by rw [getD_lt (by omega)]; exact List.getElem_mem _)
      have hr:=row v.toNat (by omega)
      obtain ⟨k,nm,t,f,a,b,c,rd,co,ar,h1,hrd,hrl⟩:=(itv_g hr).fr
      have hsn:(L.take (q+1).toNat).map (pkI os)=(L.take q.toNat).map (pkI os)++[os.getD v.toNat []]:=by
        rw [show (q+1).toNat=q.toNat+1 by omega,take_snoc (by omega),List.map_append,hv1]; rfl
      obtain ⟨e,eo⟩:=add_st hti htl hr
      have ad:=adds_ok _ hti htl
      rw [h1] at e eo hsn
      exact ⟨v,by rw [hv1]; rfl,cd1 ⟨v0,v1⟩ ⟨k,nm,t,f,a,b,c,rd,co,ar,by rw [h1]; rfl,⟨ad.fg.p,fun _=>ad.fg,hrd,hrl⟩,csx (fun w=>absurd e w) (fun _=>cdI (by omega) ⟨(q+1,adO (addsI [] ((L.take q.toNat).map (pkI os))) (itA k nm t f a b c rd co ar)),⟨by simp only; omega,by simp only; omega,by simp only; rw [eo,hsn]⟩,by simp only [od13]; omega,by (repeat' (first | exact trivial | exact rfl | assumption | apply And.intro))⟩)⟩⟩
    · rw [show L.take q.toNat=L from List.take_of_length_le (by omega),hx]
      have ad:=adds_ok os hv (by omega)
      have ok:OkL (addsI [] os):=⟨ad.fg.p,ad.fv⟩
      refine ⟨⟨⟨hs,p2.fj⟩,hm.1,hm.2⟩,fun fr to cut j3 w=>⟨ok.fp,ok.fp,cd1 rfl ⟨⟨ok.fp,ok.fp⟩,?_⟩⟩⟩
      have hmg:MgL (mrO (addsI [] os) fr to cut):=by
        unfold mrO
        split
        · exact mr_mgl ok
        · exact ⟨fun i hi=>by simp at hi,by simp⟩
      rw [smI_rfl]
      exact ⟨ok.fp,cd1 ad.fv ⟨⟨hmg,rfl⟩,trivial,rfl⟩⟩
def lorder_S (mrE:LLA→Int→Int→Int) (mrO:LLA→Int→Int→Int→LLA) (adE:LLA→List AV→Int) (adO:LLA→List AV→LLA) (smI:LLA→LLA→Bool) (inV:LLA→Int) (puE:LLA→List AV→Int) (puN:LLA→List AV→Int) (addI:LLA→List AV→LLA) (suC:Int→ByteArray→Int→Int→ByteArray→Int→Int) (ouL:LLA→LLA→LLA) (itC:List AV→List AV→Int) (itE:Int→ByteArray→Int→Int→Int→Int→Int→LLA→Int→Int→Int) (rdC:LLA→LLA→Int) (cmpI:Int→Int→Int) (cmpS:ByteArray→ByteArray→Int) (aw1:LLA):Prop:=∀ (xs:List (List AV)),IntsA xs→fnK Tryd.prog { glob:=glb,spec:=lk [(22,(iadd_s inV puE puN addI adE adO)),(25,(imerge_s inV suC ouL mrE mrO)),(20,(isame_s itC smI)),(26,(ivalidR_s inV itC itE)),(27,(rsmm_s rdC cmpI cmpS)),(21,(iawake_s aw1 mrE mrO adE adO))],specH:=lk [(8,newsrc_s)],specQ:=lk [(9,qminute_s),(11,qitems_s),(23,qorder_s),(24,qwindow_s)],shape:=[38,58,64],slz:=[(38,[2]),(64,[2])],nowf:=true } { nt:=108,drop:=drp [(1,3145728),(2,12582912),(3,117440512),(6,939524096),(7,6442450944),(8,4389456576512),(9,4398046511104),(11,17592186044416),(12,8972014882652160),(14,432345564227567616),(15,294571444427049402368),(16,295147905179352825856),(18,1180591620717411303424),(19,2361183241434822606848),(20,33056565380087516495872),(21,2380072707366301187702784),(22,152324653271443276012978176),(23,324518398915921816110621658185728)] } (odJ) 6 Tryd.f4 [.sl 1 false xs] (.bool true)
set_option maxRecDepth 100000 in
theorem lorder_e (mrE:LLA→Int→Int→Int) (mrO:LLA→Int→Int→Int→LLA) (adE:LLA→List AV→Int) (adO:LLA→List AV→LLA) (smI:LLA→LLA→Bool) (inV:LLA→Int) (puE:LLA→List AV→Int) (puN:LLA→List AV→Int) (addI:LLA→List AV→LLA) (suC:Int→ByteArray→Int→Int→ByteArray→Int→Int) (ouL:LLA→LLA→LLA) (itC:List AV→List AV→Int) (itE:Int→ByteArray→Int→Int→Int→Int→Int→LLA→Int→Int→Int) (rdC:LLA→LLA→Int) (cmpI:Int→Int→Int) (cmpS:ByteArray→ByteArray→Int) (aw1:LLA):lorder_T mrE mrO adE adO smI inV puE puN addI suC ouL itC itE rdC cmpI cmpS aw1=lorder_S mrE mrO adE adO smI inV puE puN addI suC ouL itC itE rdC cmpI cmpS aw1:=by kernel_rfl
theorem lorder_v:lorder_S mrE mrO adE adO smI inV puE puN addI suC ouL itC itE rdC cmpI cmpS aw1:=@Eq.mp (lorder_T mrE mrO adE adO smI inV puE puN addI suC ouL itC itE rdC cmpI cmpS aw1) (lorder_S mrE mrO adE adO smI inV puE puN addI suC ouL itC itE rdC cmpI cmpS aw1) (lorder_e mrE mrO adE adO smI inV puE puN addI suC ouL itC itE rdC cmpI cmpS aw1) (lorder_P)
theorem lorder_ok:SOK Tryd.prog glb 4 (lorder_s mrE mrO adE adO smI inV):=by
  refine ⟨fok Tryd.func4 (by kernel_rfl) (by kernel_rfl),?_⟩
  intro xs pre r h hp
  unfold lorder_s at h
  split at h
  · simp only [Option.some.injEq,Prod.mk.injEq] at h
    obtain ⟨h1,h2⟩:=h
    subst h1 h2
    exact fnK_sound tyNil (by exact specOK rfl rfl ⟨(iadd_ok),(imerge_ok),(isame_ok glb),(ivalidR_ok glb),(rsmm_ok glb),(iawake_ok),trivial⟩ ⟨(newsrc_ok glb),trivial⟩ (d:=qsOf rfl ⟨(qminute_ok glb),(qitems_ok glb),(qorder_ok glb),(qwindow_ok glb),trivial⟩)) (by kernel_rfl) Tryd.func4 rfl (lorder_v  _ hp)
  · cases h
end Go.Proofs.YtgnnafneglannaaDoor
namespace Go.Proofs.YtgnnafneglannaaDoor
open Go
open Go.ChangeShapes Go.WideShapes
open Go.RowKit (Below)
set_option linter.unusedVariables false
set_option linter.unusedSimpArgs false
def pinAll (w:World):Pin:=fun b o=>match w.cell? ⟨b,o,none⟩ with | some v=>cond v.oneCell' (some v) none | none=>none
theorem pinAll_some {w:World} {b o:Nat} {v:Value} (h:w.cell? ⟨b,o,none⟩=some v) (k:v.oneCell'=true):pinAll w b o=some v:=by simp [pinAll,h,k]
theorem agree_all (w:World):Agree (pinAll w) w:=by
  intro b o v h
  unfold pinAll at h
  split at h
  · next u e =>
    cases hk:u.oneCell' with
    | true=>rw [hk] at h; simp only [cond_true,Option.some.injEq] at h; subst h; exact ⟨e,hk⟩
    | false=>rw [hk] at h; cases h
  · cases h
def tiles (P:Program):List Field→Nat→Nat→Bool
  | [],o,n=>Nat.beq o n
  | f::fs,o,n=>Nat.beq f.offset o&&tiles P fs (o+P.cellsOf f.type) n
def supp (P:Program):Nat→TypeId→Bool
  | 0,_=>false
  | n+1,t=>match P.underlying t with
    | some .bool=>true
    | some (.int _)=>true
    | some .string=>true
    | some (.slice e)=>Nat.blt 0 (P.cellsOf e)&&supp P n e
    | some (.struct fs)=>tiles P fs.toList 0 (P.cellsOf t)&&fs.toList.all fun f=>supp P n f.type
    | some (.array m e)=>Nat.beq (m*P.cellsOf e) (P.cellsOf t)&&supp P n e
    | _=>false
def ShF (P:Program) (sh:TypeId→List AV→Prop):List Field→List AV→Prop
  | [],cs=>cs=[]
  | f::fs,cs=>∃ ys zs,sh f.type ys∧ShF P sh fs zs∧cs=ys++zs
def ShE (sh:List AV→Prop):Nat→List AV→Prop
  | 0,cs=>cs=[]
  | n+1,cs=>∃ ys zs,sh ys∧ShE sh n zs∧cs=ys++zs
def Sh (P:Program):Nat→TypeId→List AV→Prop
  | 0,_,_=>False
  | n+1,t,cs=>match P.underlying t with
    | some .bool=>∃ b,cs=[.bool b]
    | some (.int k)=>∃ z,rng k z∧cs=[.int k z]
    | some .string=>∃ s:ByteArray,s.size≤9223372036854775807∧cs=[.str s]
    | some (.slice e)=>∃ xs:List (List AV),xs.length≤9223372036854775807∧(∀ x ∈ xs,Sh P n e x)∧cs=[.sl (P.cellsOf e) false xs]
    | some (.struct fs)=>ShF P (Sh P n) fs.toList cs
    | some (.array m e)=>ShE (Sh P n e) m cs
    | _=>False
theorem shF_of {P:Program} {S:Pin} {sh:TypeId→List AV→Prop} {vs:List Value}:∀ (fs:List Field) (o tot:Nat),tiles P fs o tot=true→vs.length=tot →
    (∀ f ∈ fs,∃ ys,sh f.type ys∧allOne ys=true∧CVl S ys noNm ((vs.drop f.offset).take (P.cellsOf f.type)))→∃ cs,ShF P sh fs cs∧allOne cs=true∧CVl S cs noNm (vs.drop o)
  | [],o,tot,ht,hl,_=>by
    simp only [tiles] at ht
    have:=Nat.eq_of_beq_eq_true ht
    exact ⟨[],rfl,rfl,by simp only [CVl]; exact List.drop_eq_nil_of_le (by omega)⟩
  | f::fs,o,tot,ht,hl,h=>by
    simp only [tiles,Bool.and_eq_true] at ht
    obtain ⟨ho,ht⟩:=ht
    have ho:=Nat.eq_of_beq_eq_true ho
    obtain ⟨ys,h1,h2,h3⟩:=h f (List.mem_cons_self ..)
    obtain ⟨zs,k1,k2,k3⟩:=shF_of fs _ tot ht hl (fun g hg=>h g (List.mem_cons_of_mem _ hg))
    refine ⟨ys++zs,⟨ys,zs,h1,k1,rfl⟩,allOne_append h2 k2,?_⟩
    rw [ho] at h3
    have e:vs.drop o=(vs.drop o).take (P.cellsOf f.type)++vs.drop (o+P.cellsOf f.type):=by
      rw [← List.drop_drop]; exact (List.take_append_drop _ _).symm
    rw [e]
    exact CVl.append h3 k3
where allOne_append:∀ {xs ys:List AV},allOne xs=true→allOne ys=true→allOne (xs++ys)=true
  | [],ys,_,h=>h
  | x::xs,ys,h,k=>by
    simp only [allOne,Bool.and_eq_true,List.cons_append] at h ⊢
    exact ⟨h.1,allOne_append h.2 k⟩
theorem shE_of {S:Pin} {sh:List AV→Prop} {s:Nat}:∀ (n:Nat) (vs:List Value),vs.length=n*s→(∀ i,i < n→∃ ys,sh ys∧allOne ys=true∧CVl S ys noNm ((vs.drop (i*s)).take s)) →
    ∃ cs,ShE sh n cs∧allOne cs=true∧CVl S cs noNm vs
  | 0,vs,hl,_=>⟨[],rfl,rfl,by simp only [CVl]; exact List.eq_nil_of_length_eq_zero (by omega)⟩
  | n+1,vs,hl,h=>by
    obtain ⟨ys,h1,h2,h3⟩:=h 0 (by omega)
    have hl':vs.length=n*s+s:=by rw [hl,Nat.succ_mul]
    obtain ⟨zs,k1,k2,k3⟩:=shE_of n (vs.drop s) (by rw [List.length_drop,hl',Nat.add_sub_cancel]) (fun i hi=>by
      obtain ⟨q,q1,q2,q3⟩:=h (i+1) (by omega)
      refine ⟨q,q1,q2,?_⟩
      rw [List.drop_drop,show s+i*s=(i+1)*s by rw [Nat.succ_mul]; omega]
      exact q3)
    refine ⟨ys++zs,⟨ys,zs,h1,k1,rfl⟩,shF_of.allOne_append h2 k2,?_⟩
    rw [Nat.zero_mul,List.drop_zero] at h3
    have e:vs=vs.take s++vs.drop s:=(List.take_append_drop _ _).symm
    rw [e]
    exact CVl.append h3 k3
theorem list_of {α:Type} {p:Nat→α→Prop}:∀ (n:Nat),(∀ i,i < n→∃ x,p i x)→∃ xs:List α,xs.length=n∧∀ i x,xs[i]?=some x→p i x
  | 0,_=>⟨[],rfl,by simp⟩
  | n+1,h=>by
    obtain ⟨xs,h1,h2⟩:=list_of n (fun i hi=>h i (by omega))
    obtain ⟨x,hx⟩:=h n (by omega)
    refine ⟨xs++[x],by simp [h1],fun i y hy=>?_⟩
    rcases Nat.lt_or_ge i xs.length with hi | hi
    · rw [List.getElem?_append_left hi] at hy; exact h2 i y hy
    · rw [List.getElem?_append_right hi] at hy
      rcases Nat.eq_zero_or_pos (i - xs.length) with h0 | h0
      · rw [h0] at hy
        simp only [List.getElem?_cons_zero,Option.some.injEq] at hy
        rw [← hy,show i=n by omega]; exact hx
      · rw [List.getElem?_eq_none (by simp; omega)] at hy; cases hy
section
variable {H:Type} {enc:TypeId × Value→H} {P:Program} {w:World} {base:Nat} {held:Bool}
theorem rng_wf {k:IntKind} {z:Int} (h:(Lit.int k z).wf=true):rng k z:=by
  rw [rng_iff]
  simp only [Lit.wf,Bool.and_eq_true,decide_eq_true_eq] at h
  exact h
theorem in_of_trod:∀ (n:Nat) (t:TypeId) (fuel:Nat) (vs:List Value) (x:DataW H × List MemPlace),supp P n t=true→DataW.trod enc P w base (fun _=>true) held fuel t vs=some x →
    ∃ cs,Sh P n t cs∧allOne cs=true∧CVl (pinAll w) cs noNm vs
  | 0,t,_,_,_,hs,_=>by simp [supp] at hs
  | n+1,t,fuel,vs,x,hs,h=>by
    unfold supp at hs
    unfold Sh
    split at hs
    · next ht =>
      obtain ⟨b,rfl,_⟩:=DataW.trod_bool ht h
      exact ⟨[.bool b],⟨b,rfl⟩,rfl,_,_,rfl,rfl,rfl⟩
    · next k ht =>
      obtain ⟨z,rfl,_,hw⟩:=DataW.trod_int ht h
      exact ⟨[.int k z],⟨z,rng_wf hw,rfl⟩,rfl,_,_,rfl,⟨rfl,rng_wf hw⟩,rfl⟩
    · next ht =>
      obtain ⟨s,rfl,_,hw⟩:=DataW.trod_string ht h
      exact ⟨[.str s],⟨s,hw,rfl⟩,rfl,_,_,rfl,⟨rfl,hw⟩,rfl⟩
    · next e ht =>
      simp only [Bool.and_eq_true] at hs
      have hs0:0 < P.cellsOf e:=by have:=hs.1; simp [Nat.blt] at this; omega
      rcases DataW.trod_slice ht h with ⟨rfl,_⟩ | ⟨a,len,cap,elems,rest,m,_,rfl,_,hb,hl,hc,hlen,hel,hsp,hns⟩
      · refine ⟨[.sl (P.cellsOf e) false []],⟨[],by simp,by simp,rfl⟩,rfl,_,_,rfl,⟨none,0,rfl,by simp,by simp,(fun h=>by cases h),(fun _=>rfl),(fun a ha=>by cases ha)⟩,rfl⟩
      · have each:∀ i,i < len→∃ x,(Sh P n e x)∧∃ cs',w.cells? base (a.add (i*P.cellsOf e)) (P.cellsOf e)=some cs'∧allOne x=true∧CVl (pinAll w) x noNm cs':=by
          intro i hi
          have h1:=hel i hi
          have hx:elems[i]?=some (elems[i]'(by omega)):=List.getElem?_eq_getElem (by omega)
          rw [hx,Option.bind_eq_some_iff] at h1
          obtain ⟨cs',h2,h3⟩:=h1
          obtain ⟨y,k1,k2,k3⟩:=in_of_trod n e m cs' _ hs.2 h3
          exact ⟨y,k1,cs',h2,k2,k3⟩
        obtain ⟨xs,hx1,hx2⟩:=list_of len each
        have hmem:∀ x ∈ xs,Sh P n e x:=by
          intro x hx
          obtain ⟨i,hi⟩:=List.getElem?_of_mem hx
          exact (hx2 i x hi).1
        refine ⟨[.sl (P.cellsOf e) false xs],⟨xs,by unfold maxLen at hc; omega,hmem,rfl⟩,rfl,_,_,rfl,⟨some a,cap,by rw [hx1],by omega,hc,(fun h=>by cases h),(fun h=>by cases h),fun a' ha=>?_⟩,rfl⟩
        cases ha
        have key:∀ (j:Nat) (x:List AV),xs[j]?=some x→∃ cs':List Value,cs'.length=P.cellsOf e∧CVl (pinAll w) x noNm cs'∧allOne x=true∧∀ i,i < P.cellsOf e→w.cell? ((a.add (j*P.cellsOf e)).add i)=cs'[i]?:=by
          intro j x hj
          obtain ⟨_,cs',h2,h3,h4⟩:=hx2 j x hj
          obtain ⟨_,q1,q2⟩:=World.cells?_some h2
          exact ⟨cs',q1,h4,h3,q2⟩
        have spot:cap≠0→a.spot=none:=by
          intro h0
          have h1:∃ cs',w.cells? base (a.add (0*P.cellsOf e)) (P.cellsOf e)=some cs':=by
            rcases Nat.eq_zero_or_pos len with hl0 | hl0
            · obtain ⟨hr,hr2⟩:=hsp rfl
              have h1:=hr2 0 (by omega)
              have hx:rest[0]?=some (rest[0]'(by omega)):=List.getElem?_eq_getElem (by omega)
              rw [hx,Option.bind_eq_some_iff] at h1
              obtain ⟨cs',h2,_⟩:=h1
              exact ⟨cs',by rw [← h2,hl0]⟩
            · have h1:=hel 0 hl0
              have hx:elems[0]?=some (elems[0]'(by omega)):=List.getElem?_eq_getElem (by omega)
              rw [hx,Option.bind_eq_some_iff] at h1
              obtain ⟨cs',h2,_⟩:=h1
              exact ⟨cs',h2⟩
          obtain ⟨cs',h2⟩:=h1
          obtain ⟨_,q1,q2⟩:=World.cells?_some h2
          have h3:=q2 0 hs0
          rw [List.getElem?_eq_getElem (by omega)] at h3
          have h4:=World.cell?_spot h3
          simpa [Addr.add] using h4
        refine ⟨spot,CE.mk fun j x hj=>?_⟩
        obtain ⟨cs',k1,k2,k3,k4⟩:=key j x hj
        have hxl:x.length=P.cellsOf e:=by rw [← k1]; exact (CVl.len k2).symm
        refine ⟨hxl,CC.mk fun i y hy=>?_⟩
        obtain ⟨u,hu,hcv⟩:=CVl.get k2 hy
        have hi:i < P.cellsOf e:=by have:=(List.getElem?_eq_some_iff.1 hy).1; omega
        have hj':j < len:=by have:=(List.getElem?_eq_some_iff.1 hj).1; omega
        have hsp:=spot (by omega)
        obtain ⟨b,o,sp⟩:=a
        simp only at hsp
        subst hsp
        have h5:=k4 i hi
        rw [add_none,add_none,hu] at h5
        exact ⟨u,pinAll_some h5 (allOne_cv k2 k3 u (List.mem_of_getElem? hu)),hcv⟩
    · next fs ht =>
      simp only [Bool.and_eq_true,List.all_eq_true] at hs
      obtain ⟨xs,m,_,_,hl,hxl,hf⟩:=DataW.trod_struct ht h
      obtain ⟨cs,k1,k2,k3⟩:=shF_of (S:=pinAll w) (sh:=Sh P n) (vs:=vs) fs.toList 0 _ hs.1 hl (fun f hfm=>by
        obtain ⟨i,hi⟩:=List.getElem?_of_mem hfm
        have h1:=hf i f (by simpa using hi)
        have hi':i < fs.size:=by have:=(List.getElem?_eq_some_iff.1 hi).1; simpa using this
        rw [List.getElem?_eq_getElem (by omega:i < xs.length)] at h1
        exact in_of_trod n f.type m _ _ (hs.2 f hfm) h1)
      exact ⟨cs,k1,k2,by simpa using k3⟩
    · next m e ht =>
      simp only [Bool.and_eq_true] at hs
      obtain ⟨xs,q,_,_,hl,hxl,hf⟩:=DataW.trod_array ht h
      have hsz:=Nat.eq_of_beq_eq_true hs.1
      exact shE_of (S:=pinAll w) (sh:=Sh P n e) (s:=P.cellsOf e) m vs (by omega) (fun i hi=>by
        have h1:=hf i hi
        rw [List.getElem?_eq_getElem (by omega:i < xs.length)] at h1
        exact in_of_trod n e q _ _ hs.2 h1)
    · cases hs
def mkA (P:Program) (t:TypeId) (cs:List AV):AV:=cond (isAg P t) (.agg cs) (match cs with | [x]=>x | _=>.dead)
def ShAll (P:Program):List TypeId→(List AV→Prop)→Prop
  | [],K=>K []
  | t::ts,K=>∀ cs,Sh P 50 t cs→ShAll P ts fun xs=>K (mkA P t cs::xs)
theorem in_one {r:Reach} {b0 n:Nat} {t:TypeId} {v:Value} {fuel:Nat} {x:DataW H × List MemPlace} (hs:supp P n t=true) (hv:Value.okWide P w r b0 t v) (h:DataW.trod enc P w base (fun _=>true) held fuel t v.cells.toList=some x) :
    ∃ cs,Sh P n t cs∧CV (pinAll w) (mkA P t cs) noNm v:=by
  obtain ⟨cs,h1,h2,h3⟩:=in_of_trod n t fuel _ x hs h
  refine ⟨cs,h1,?_⟩
  have one:isAg P t=false→v.cells=#[v]→CV (pinAll w) (mkA P t cs) noNm v:=by
    intro ha hc
    rw [hc] at h3
    unfold mkA
    rw [ha]
    match cs,h3 with
    | [y],h3 =>
      simp only [CVl] at h3
      obtain ⟨u,us,e,hy,hn⟩:=h3
      simp at e
      rw [e.1]; exact hy
    | [],h3=>simp [CVl] at h3
    | _::_::_,h3 =>
      simp [CVl] at h3
      obtain ⟨u,us,⟨_,e⟩,_,u',us',e',_⟩:=h3
      rw [e] at e'; cases e'
  have agg:isAg P t=true→∀ us,v=.agg us→CV (pinAll w) (mkA P t cs) noNm v:=by
    intro ha us e
    subst e
    unfold mkA
    rw [ha]
    exact ⟨us,rfl,h3⟩
  unfold Value.okWide at hv
  cases n with
  | zero=>simp [supp] at hs
  | succ n =>
    unfold supp at hs
    split at hs
    · next ht =>
      rw [ht] at hv
      simp only [Cell.okWide,Cell.ok,ht] at hv
      refine one (by unfold isAg; rw [ht]) ?_
      split at hv <;> first | rfl | (split at hv <;> first | rfl | cases hv) | cases hv
    · next k ht =>
      rw [ht] at hv
      simp only [Cell.okWide,Cell.ok,ht] at hv
      refine one (by unfold isAg; rw [ht]) ?_
      split at hv <;> first | rfl | (split at hv <;> first | rfl | cases hv) | cases hv
    · next ht =>
      rw [ht] at hv
      simp only [Cell.okWide,Cell.ok,ht] at hv
      refine one (by unfold isAg; rw [ht]) ?_
      split at hv <;> first | rfl | (split at hv <;> first | rfl | cases hv) | cases hv
    · next e ht =>
      rw [ht] at hv
      simp only [Cell.okWide,Cell.ok,ht] at hv
      refine one (by unfold isAg; rw [ht]) ?_
      split at hv <;> first | rfl | (split at hv <;> first | rfl | cases hv) | cases hv
    · next fs ht =>
      rw [ht] at hv
      obtain ⟨us,e,_⟩:=hv
      exact agg (by unfold isAg; rw [ht]) us e
    · next m e ht =>
      rw [ht] at hv
      obtain ⟨us,e,_⟩:=hv
      exact agg (by unfold isAg; rw [ht]) us e
    · cases hs
theorem in_all {r:Reach} {b0:Nat}:∀ (ts:List TypeId) (vs:List Value) (ds:List (DataW H)) (ps:List MemPlace) (K:List AV→Prop),(ts.all fun t=>supp P 50 t)=true→DataW.TrodAll enc P w base (fun _=>true) held ts vs ds ps →
    (∀ (j:Nat) t v,ts[j]?=some t→vs[j]?=some v→Value.okWide P w r b0 t v)→ShAll P ts K→∃ xs,K xs∧CVl (pinAll w) xs noNm vs
  | [],[],[],ps,K,_,h,_,hK=>⟨[],hK,by simp only [CVl]⟩
  | t::ts,v::vs,d::ds,ps,K,hs,h,hv,hK=>by
    simp only [List.all_cons,Bool.and_eq_true] at hs
    obtain ⟨p,q,⟨fuel,h1⟩,h2,_⟩:=h
    obtain ⟨cs,k1,k2⟩:=in_one hs.1 (hv 0 t v rfl rfl) h1
    obtain ⟨xs,q1,q2⟩:=in_all ts vs ds q (fun xs=>K (mkA P t cs::xs)) hs.2 h2 (fun j t v ht hv'=>hv (j+1) t v (by simpa using ht) (by simpa using hv')) (hK cs k1)
    exact ⟨_,q1,by simp only [CVl]; exact ⟨v,vs,rfl,k2,q2⟩⟩
  | [],v::vs,ds,ps,K,_,h,_,_=>by cases ds <;> simp [DataW.TrodAll] at h
  | [],[],d::ds,ps,K,_,h,_,_=>by simp [DataW.TrodAll] at h
  | t::ts,[],ds,ps,K,_,h,_,_=>by cases ds <;> simp [DataW.TrodAll] at h
  | t::ts,v::vs,[],ps,K,_,h,_,_=>by simp [DataW.TrodAll] at h
theorem law_calls {gl:Glob} {f:FuncId} {r:Reach} {b0:Nat} {ts:List TypeId} {args:Array Value} {ds:List (DataW H)} {ps:List MemPlace} (hs:(ts.all fun t=>supp P 50 t)=true) (hg:GOKg gl (pinAll w))
    (h:ShAll P ts fun xs=>PureC P gl f xs (.bool true)) (hA:DataW.TrodAll enc P w base (fun _=>true) held ts args.toList ds ps)
    (hv:∀ (j:Nat) t v,ts[j]?=some t→args.toList[j]?=some v→Value.okWide P w r b0 t v) :
    Calls P f args w fun e w'=>e=.returned (.bool true)∧Below w.heap.size w w':=by
  obtain ⟨xs,h1,h2⟩:=in_all ts _ ds ps _ hs hA hv h
  refine (h1 w (pinAll w) args hg (agree_all w) h2).mono fun e w' h=>?_
  obtain ⟨u,S',h3,h4,_,_,_,h5⟩:=h
  simp only [CV] at h5
  exact ⟨by rw [h3,h5],h4⟩
theorem trodAll_stay (hl:laidOutB P=true) {w':World} (hb:Below w.heap.size w w'):∀ (ts:List TypeId) (vs:List Value) (ds:List (DataW H)) (ps:List MemPlace),(ts.all fun t=>P.readableRec t&&decide (t < P.types.size))=true →
    DataW.TrodAll enc P w 0 (fun _=>true) true ts vs ds ps→DataW.TrodAll enc P w' 0 (fun b=>decide (b < w.heap.size)) true ts vs ds ps
  | [],[],[],ps,_,h=>h
  | t::ts,v::vs,d::ds,ps,hs,h=>by
    simp only [List.all_cons,Bool.and_eq_true,decide_eq_true_eq] at hs
    obtain ⟨p,q,h1,h2,h3⟩:=h
    have hlt:∀ x ∈ p,x.block < w.heap.size:=by obtain ⟨m,hm⟩:=h1; exact DataW.trod_lt m _ _ _ hm
    exact ⟨p,q,Below.trod hl hs.1.1 hs.1.2 h1 hb hlt,trodAll_stay hl hb ts vs ds q hs.2 h2,h3⟩
  | [],v::vs,ds,ps,_,h=>by cases ds <;> simp [DataW.TrodAll] at h
  | [],[],d::ds,ps,_,h=>by simp [DataW.TrodAll] at h
  | t::ts,[],ds,ps,_,h=>by cases ds <;> simp [DataW.TrodAll] at h
  | t::ts,v::vs,[],ps,_,h=>by simp [DataW.TrodAll] at h
def suppG (P:Program):Nat→TypeId→Bool
  | 0,_=>false
  | n+1,t=>match P.underlying t with
    | some .bool=>true
    | some (.int _)=>true
    | some .string=>true
    | some (.struct fs)=>tiles P fs.toList 0 (P.cellsOf t)&&fs.toList.all fun f=>suppG P n f.type
    | some (.array m e)=>Nat.beq (m*P.cellsOf e) (P.cellsOf t)&&suppG P n e
    | _=>false
mutual
def flatD:DataW H→List AV
  | .lit (.bool b)=>[.bool b]
  | .lit (.int k z)=>[.int k z]
  | .lit (.string l)=>[.str ⟨l.toArray⟩]
  | .agg ds=>flatDs ds
  | _=>[.dead]
def flatDs:List (DataW H)→List AV
  | []=>[]
  | d::ds=>flatD d++flatDs ds
end
theorem flatF {S:Pin} {vs:List Value}:∀ (fs:List Field) (ds:List (DataW H)) (o tot:Nat),tiles P fs o tot=true→vs.length=tot→ds.length=fs.length →
    (∀ (i:Nat) (f:Field) (d:DataW H),fs[i]?=some f→ds[i]?=some d→CVl S (flatD d) noNm ((vs.drop f.offset).take (P.cellsOf f.type)))→CVl S (flatDs ds) noNm (vs.drop o)
  | [],[],o,tot,ht,hl,_,_=>by
    simp only [tiles] at ht
    have:=Nat.eq_of_beq_eq_true ht
    simp only [flatDs,CVl]; exact List.drop_eq_nil_of_le (by omega)
  | f::fs,d::ds,o,tot,ht,hl,hd,h=>by
    simp only [tiles,Bool.and_eq_true] at ht
    obtain ⟨ho,ht⟩:=ht
    have ho:=Nat.eq_of_beq_eq_true ho
    have h1:=h 0 f d rfl rfl
    have h2:=flatF fs ds _ tot ht hl (by simpa using hd) (fun i g d' hg hd'=>h (i+1) g d' (by simpa using hg) (by simpa using hd'))
    rw [ho] at h1
    have e:vs.drop o=(vs.drop o).take (P.cellsOf f.type)++vs.drop (o+P.cellsOf f.type):=by
      rw [← List.drop_drop]; exact (List.take_append_drop _ _).symm
    rw [e]
    simp only [flatDs]
    exact CVl.append h1 h2
  | [],_::_,_,_,_,_,hd,_=>by simp at hd
  | _::_,[],_,_,_,_,hd,_=>by simp at hd
theorem flatE {S:Pin} {s:Nat}:∀ (ds:List (DataW H)) (vs:List Value),vs.length=ds.length*s→(∀ (i:Nat) (d:DataW H),ds[i]?=some d→CVl S (flatD d) noNm ((vs.drop (i*s)).take s))→CVl S (flatDs ds) noNm vs
  | [],vs,hl,_=>by simp only [flatDs,CVl]; exact List.eq_nil_of_length_eq_zero (by simpa using hl)
  | d::ds,vs,hl,h=>by
    have h1:=h 0 d rfl
    have hl':vs.length=ds.length*s+s:=by rw [hl,List.length_cons,Nat.succ_mul]
    have h2:=flatE (S:=S) (s:=s) ds (vs.drop s) (by rw [List.length_drop]; omega) (fun i d' hd=>by
      have:=h (i+1) d' (by simpa using hd)
      rw [List.drop_drop,show s+i*s=(i+1)*s by rw [Nat.succ_mul]; omega]
      exact this)
    rw [Nat.zero_mul,List.drop_zero] at h1
    have e:vs=vs.take s++vs.drop s:=(List.take_append_drop _ _).symm
    rw [e]
    simp only [flatDs]
    exact CVl.append h1 h2
theorem flat_of_trod {S:Pin} {spare:Nat→Bool}:∀ (n:Nat) (t:TypeId) (fuel:Nat) (vs:List Value) (x:DataW H × List MemPlace),suppG P n t=true→DataW.trod enc P w base spare held fuel t vs=some x→CVl S (flatD x.1) noNm vs
  | 0,t,_,_,_,hs,_=>by simp [suppG] at hs
  | n+1,t,fuel,vs,x,hs,h=>by
    unfold suppG at hs
    split at hs
    · next ht =>
      obtain ⟨b,rfl,rfl⟩:=DataW.trod_bool ht h
      exact ⟨_,_,rfl,rfl,rfl⟩
    · next k ht =>
      obtain ⟨z,rfl,rfl,hw⟩:=DataW.trod_int ht h
      exact ⟨_,_,rfl,⟨rfl,rng_wf hw⟩,rfl⟩
    · next ht =>
      obtain ⟨s,rfl,rfl,hw⟩:=DataW.trod_string ht h
      exact ⟨_,_,rfl,⟨by simp,by simpa using hw⟩,rfl⟩
    · next fs ht =>
      simp only [Bool.and_eq_true,List.all_eq_true] at hs
      obtain ⟨xs,m,_,rfl,hl,hxl,hf⟩:=DataW.trod_struct ht h
      have:=flatF (S:=S) (vs:=vs) fs.toList (xs.map (·.1)) 0 _ hs.1 hl (by simpa using hxl) (fun i f d hi hd=>by
        have h1:=hf i f (by simpa using hi)
        rw [List.getElem?_map] at hd
        cases hx:xs[i]? with
        | none=>rw [hx] at hd; cases hd
        | some y =>
          rw [hx] at hd h1
          simp only [Option.map_some,Option.some.injEq] at hd
          subst hd
          exact flat_of_trod n f.type m _ _ (hs.2 f (List.mem_of_getElem? hi)) h1)
      simpa [flatD] using this
    · next m e ht =>
      simp only [Bool.and_eq_true] at hs
      obtain ⟨xs,q,_,rfl,hl,hxl,hf⟩:=DataW.trod_array ht h
      have hsz:=Nat.eq_of_beq_eq_true hs.1
      have:=flatE (S:=S) (s:=P.cellsOf e) (xs.map (·.1)) vs (by simp only [List.length_map]; rw [hxl]; omega) (fun i d hd=>by
        rw [List.getElem?_map] at hd
        cases hx:xs[i]? with
        | none=>rw [hx] at hd; cases hd
        | some y =>
          have hi:i < m:=by have:=(List.getElem?_eq_some_iff.1 hx).1; omega
          have h1:=hf i hi
          rw [hx] at hd h1
          simp only [Option.map_some,Option.some.injEq] at hd
          subst hd
          exact flat_of_trod n e q _ _ hs.2 h1)
      simpa [flatD] using this
    · cases hs
end
theorem intsA_of {xs:List (List AV)} (h:∀ x ∈ xs,∃ z,rng .i64 z∧x=[.int .i64 z]):IntsA xs:=fun x hx=>by
  obtain ⟨z,h1,h2⟩:=h x hx
  exact ⟨z,h2,h1⟩
theorem glob_cells {W:World} {g:Nat} {cs:Array Value} {az:List AV} (hc:∀ i,W.cell? ⟨g,i,none⟩=cs[i]?) (h:CVl (pinAll W) az noNm cs.toList) (h1:allOne az=true):CC (pinAll W) az g 0:=by
  refine CC.mk fun j x hx=>?_
  obtain ⟨u,hu,hcv⟩:=CVl.get h hx
  have h2:=hc j
  rw [show cs[j]?=some u by simpa using hu] at h2
  rw [Nat.zero_add]
  exact ⟨u,pinAll_some h2 (allOne_cv h h1 u (List.mem_of_getElem? hu)),hcv⟩
end Go.Proofs.YtgnnafneglannaaDoor
