import Derived.Test.YtgnnafneglannaaDoorITe
import Derived.Test.YtgnnafneglannaaDoorITd
import Derived.Test.YtgnnafneglannaaDoorITg
import Derived.Test.YtgnnafneglannaaDoorITh
import Derived.ProofKit
import Derived.OpenShut
import Derived.ShutString
import Derived.ChangeOld
import Derived.Carry
import Derived.Deep.Slices
import Derived.WideShapes
import Derived.LaidMore
namespace Go.Proofs.YtgnnafneglannaaDoor
open Go
set_option linter.unusedVariables false
set_option linter.unusedSimpArgs false
def intsEq (xs ys : List (List AV)) : Bool := decide (xs.length=ys.length∧∀ j,j < xs.length→cellI (xs.getD j [])=cellI (ys.getD j []))
theorem intsB_at {xs : List (List AV)} (h : IntsB xs) {i : Nat} (hi : i < xs.length) : List.take 1 (xs.getD i [])=[.int .i64 (cellI (xs.getD i []))] := by
  have e : xs.getD i []=xs[i] := by rw [List.getD_eq_getElem?_getD,List.getElem?_eq_getElem hi]; rfl
  rw [e]
  obtain ⟨n,hn,_⟩ := h.fi _ (List.getElem_mem hi)
  rw [hn]; rfl
structure IntsP (xs ys : List (List AV)) (i : Int) : Prop where
  flo : 0≤i
  fhi : i≤xs.length
  fe : ∀ j : Nat,(j : Int) < i→cellI (xs.getD j [])=cellI (ys.getD j [])
def intsL (f g : Bool) (xs ys : List (List AV)) : LInv := ⟨Int,fun i => ⟨[(0,.sl 1 f xs),(1,.sl 1 g ys),(5,.int .i64 i)],[]⟩,IntsP xs ys,fun i => (xs.length - i).toNat,none⟩
structure Ln (xs : List (List AV)) : Prop where
  fl : xs.length≤9223372036854775807
def kints_s : Sp
  | [.sl 1 f xs,.sl 1 g ys] => some ((IntsB xs∧IntsB ys)∧Ln xs∧Ln ys,.bool (intsEq xs ys))
  | _ => none
set_option maxRecDepth 100000 in
def kints_T : Prop :=
  ∀ (gl : Glob) (f g : Bool) (xs ys : List (List AV)),(IntsB xs∧IntsB ys)∧Ln xs∧Ln ys→True→True→bif decide ¬(↑xs.length:Int)=(↑ys.length:Int) then false=intsEq xs ys else (∃ x,IntsP xs ys x∧(((bif f then f=true else True)∧xs=xs)∧((bif g then g=true else True)∧ys=ys)∧(0:Int)=x∧True)∧True)∧∀ (x:Int),IntsP xs ys x→bif decide (x < (↑xs.length:Int)) then bif decide ((0:Int)≤x∧x < (↑xs.length:Int)) then
 ∃ n,List.take [AV.int .i64 n].length (xs.getD x.toNat [])=[AV.int .i64 n]∧bif decide ((0:Int)≤x∧x < (↑ys.length:Int)) then ∃ n_1,List.take [AV.int .i64 n_1].length (ys.getD x.toNat [])=[AV.int .i64 n_1]∧bif decide ¬n=n_1 then false=intsEq xs ys else bif decide (rng .i64 (x + (1:Int))) then ∃ y,IntsP xs ys y∧(intsL f g xs ys).m y < (intsL f g xs ys).m x∧(((bif f then f=true else True)∧xs=xs)∧((bif
 g then g=true else True)∧ys=ys)∧x + (1:Int)=y∧True)∧True else False else False else False else true=intsEq xs ys
set_option maxRecDepth 100000 in
theorem kints_P : kints_T := by
  unfold kints_T
  intro gl f g xs ys ⟨⟨hx,hy⟩,lx,ly⟩
  intros
  have l1 := lx.fl
  have l2 := ly.fl
  have bf : cond f (f=true) True := by cases f <;> trivial
  have bg : cond g (g=true) True := by cases g <;> trivial
  refine cs (fun h => ?_) (fun h => ⟨⟨0,⟨by decide,by omega,fun j h => by omega⟩,⟨⟨bf,rfl⟩,⟨bg,rfl⟩,rfl,trivial⟩,trivial⟩,?_⟩)
  · exact (decide_eq_false fun q => by omega).symm
  rintro i ⟨h0,h1,hn⟩
  refine cs (fun hl => cd1 (by omega) ⟨_,intsB_at hx (by omega),cd1 (by omega) ⟨_,intsB_at hy (by omega),cs (fun q => ?_) (fun q => ?_)⟩⟩) (fun hl => ?_)
  · exact (decide_eq_false fun z => q (z.2 i.toNat (by omega))).symm
  · refine cdI (by omega) ⟨i + 1,⟨by omega,by omega,fun j hj => ?_⟩,by simp only [intsL]; omega,⟨⟨bf,rfl⟩,⟨bg,rfl⟩,rfl,trivial⟩,trivial⟩
    rcases Nat.lt_or_ge j i.toNat with k | k
    · exact hn j (by omega)
    · rw [show j=i.toNat by omega]; exact Decidable.not_not.1 q
  · exact (decide_eq_true ⟨by omega,fun j hj => hn j (by omega)⟩).symm
def kints_S : Prop := ∀ (gl : Glob) (f g : Bool) (xs ys : List (List AV)),(IntsB xs∧IntsB ys)∧Ln xs∧Ln ys→fnK Tryd.prog { glob := gl,spec := lk [],specH := lk [],shape := [20,24],nowf := true } { nt := 26,drop := drp [(1,960),(4,14336),(5,98304),(6,33423360)] } (invs [(4,intsL f g xs ys)]) 6 Tryd.f43 [.sl 1 f xs,.sl 1 g ys] (.bool (intsEq xs ys))
set_option maxRecDepth 100000 in
theorem kints_e : kints_T=kints_S := by kernel_rfl
theorem kints_v : kints_S := @Eq.mp (kints_T) (kints_S) (kints_e) (kints_P)
theorem kints_ok (gl : Glob) : SOK Tryd.prog gl 43 kints_s := by
  refine ⟨fok Tryd.func43 (by kernel_rfl) (by kernel_rfl),?_⟩
  intro xs pre r h hp
  unfold kints_s at h
  split at h
  · simp only [Option.some.injEq,Prod.mk.injEq] at h
    obtain ⟨h1,h2⟩ := h
    subst h1 h2
    exact fnK_sound tyNil (by exact specOK rfl rfl trivial trivial) (by kernel_rfl) Tryd.func43 rfl (kints_v gl _ _ _ _ hp)
  · cases h
structure InP (xs : List (List AV)) (n i : Int) : Prop where
  flo : 0≤i
  fhi : i≤xs.length
  fe : ∀ j : Nat,(j : Int) < i→¬ cellI (xs.getD j [])=n
end Go.Proofs.YtgnnafneglannaaDoor
namespace Go.Proofs.YtgnnafneglannaaDoor
open Go
set_option linter.unusedVariables false
set_option linter.unusedSimpArgs false
def nm0 : ByteArray := ⟨#[48,49,50,51,52]⟩
def rpa : List AV := rpR 1 nm0 100 0 0 0 0 [[.int .i64 1,.int .i64 10132],[.int .i64 2,.int .i64 2800]]
def rpb : List AV := rpR 1 nm0 100 0 0 0 0 [[.int .i64 2,.int .i64 2810]]
def aw1 : LLA := [itA 1 nm0 100 0 0 0 0 [[.int .i64 1,.int .i64 10132],[.int .i64 2,.int .i64 2800]] 0 110,itA 1 nm0 100 0 0 0 0 [[.int .i64 2,.int .i64 2810]] 0 110]
def awc : List AV := itA 1 nm0 100 0 0 0 0 [[.int .i64 2,.int .i64 2805]] 1 120
def aw2 : LLA := aw1 ++ [awc]
theorem aw_tE : tkE [] [rpa,rpb,rpa] 0 110=0 := by kernel_rfl
theorem aw_tN : tkN [] [rpa,rpb,rpa] 0 110=2 := by kernel_rfl
theorem aw_tO : tkO [] [rpa,rpb,rpa] 0 110=aw1 := by kernel_rfl
theorem aw_m1 : mrO aw1 0 200 200=[[.int .i64 1,.str nm0,.int .i64 100,.int .i64 0,.int .i64 0,.int .i64 0,.int .i64 0,.sl 2 false [[.int .i64 1,.int .i64 10132]],.int .i64 2,.sl 1 false [[.int .i64 2]]]] := by kernel_rfl
theorem aw_e1 : mrE aw1 0 200=0 := by kernel_rfl
theorem aw_aE : adE aw1 awc=0 := by kernel_rfl
theorem aw_aO : adO aw1 awc=aw2 := by kernel_rfl
theorem aw_m2 : mrO aw2 0 200 200=[[.int .i64 1,.str nm0,.int .i64 100,.int .i64 0,.int .i64 0,.int .i64 0,.int .i64 0,.sl 2 false [[.int .i64 2,.int .i64 2805]],.int .i64 1,.sl 1 false []]] := by kernel_rfl
theorem aw_e2 : mrE aw2 0 200=0 := by kernel_rfl
theorem rpa_g : RpG rpa := ⟨_,_,_,_,_,_,_,_,rfl,⟨fun i hi => by
  have : i=0∨i=1 := by simp at hi; omega
  rcases this with rfl | rfl <;> exact ⟨_,_,rfl,by decide,by decide⟩,by decide⟩,by decide⟩
theorem rpb_g : RpG rpb := ⟨_,_,_,_,_,_,_,_,rfl,⟨fun i hi => by
  have : i=0 := by simp at hi; omega
  subst this
  exact ⟨_,_,rfl,by decide,by decide⟩,by decide⟩,by decide⟩
theorem aw_tk : TkP [] [rpa,rpb,rpa] := by
  have g : GdL [] := ⟨by simp,by decide⟩
  refine ⟨g.p,fun _ => g,⟨fun i hi => ?_,by decide⟩⟩
  have : i=0∨i=1∨i=2 := by simp at hi; omega
  rcases this with rfl | rfl | rfl
  · exact rpa_g
  · exact rpb_g
  · exact rpa_g
structure AwP (rs : LLA) (co ar : Int) : Prop where
  fr : rs=[rpa,rpb,rpa]
  fc : co=0
  fa : ar=110
def itakeN_s (aw1 : LLA) : Sp
  | [.nils,.sl 8 e rs,.int .i64 co,.int .i64 ar] => some (AwP rs co ar,.tup [.sl 10 false aw1,.int .i64 2,.int .i64 0])
  | _ => none
theorem itakeN_ok : SOK Tryd.prog glb 18 (itakeN_s aw1) := by
  obtain ⟨hf,h⟩ := itake_ok
  refine ⟨hf,fun xs pre r e hp => ?_⟩
  unfold itakeN_s at e
  split at e
  · rename_i b rs co ar
    simp only [Option.some.injEq,Prod.mk.injEq] at e
    obtain ⟨rfl,rfl⟩ := e
    obtain ⟨rfl,rfl,rfl⟩ := hp
    have bb : cond b (b=true) True := by cases b <;> trivial
    have hc := h [.sl 10 false [],.sl 8 b [rpa,rpb,rpa],.int .i64 0,.int .i64 110] _ _ rfl aw_tk
    rw [aw_tO,aw_tN,aw_tE] at hc
    exact fun w S vs hg ha hv => hc w S vs hg ha (leL_sound [.nils,.sl 8 b [rpa,rpb,rpa],.int .i64 0,.int .i64 110] _ noNm _ ⟨rfl,⟨bb,rfl⟩,rfl,rfl,trivial⟩ hv)
  · cases e
theorem rpc_g : RpG (rpR 1 nm0 100 0 0 0 0 [[.int .i64 2,.int .i64 2805]]) := ⟨_,_,_,_,_,_,_,_,rfl,⟨fun i hi => by
  have : i=0 := by simp at hi; omega
  subst this
  exact ⟨_,_,rfl,by decide,by decide⟩,by decide⟩,by decide⟩
theorem aw_g1 : GdL aw1 := ⟨fun r hr => by
  simp only [aw1,List.mem_cons,List.not_mem_nil,or_false] at hr
  rcases hr with rfl | rfl
  · exact ItG.of rpa_g 0 110
  · exact ItG.of rpb_g 0 110,by decide⟩
theorem aw_g2 : GdL aw2 := ⟨fun r hr => by
  rcases List.mem_append.1 hr with hr | hr
  · exact aw_g1.fg r hr
  · rw [List.mem_singleton.1 hr]; exact ItG.of rpc_g 1 120,by decide⟩
def iawake_s (aw1 : LLA) (mrE : LLA→Int→Int→Int) (mrO : LLA→Int→Int→Int→LLA) (adE : LLA→List AV→Int) (adO : LLA→List AV→LLA) : Sp
  | [] => some (True,.bool true)
  | _ => none
set_option maxRecDepth 100000 in
def iawake_T (aw1 : LLA) (mrE : LLA→Int→Int→Int) (mrO : LLA→Int→Int→Int→LLA) (adE : LLA→List AV→Int) (adO : LLA→List AV→LLA) (inV : LLA→Int) (suC : Int→ByteArray→Int→Int→ByteArray→Int→Int) (ouL : LLA→LLA→LLA) (puE : LLA→List AV→Int) (puN : LLA→List AV→Int) (addI : LLA→List AV→LLA) : Prop :=
  AwP [[AV.int .i64 (1:Int),.str { data := #[(48 : UInt8),(49 : UInt8),(50 : UInt8),(51 : UInt8),(52 : UInt8)] },.int .i64 (100:Int),.int .i64 (0:Int),.int .i64 (0:Int),.int .i64 (0:Int),.int .i64 (0:Int),.sl (2:Nat) false [[AV.int .i64 (1:Int),.int .i64 (10132:Int)],[AV.int .i64 (2:Int),.int .i64 (2800:Int)]]],[AV.int .i64 (1:Int),.str { data := #[(48 : UInt8),(49 : UInt8),(50 : UInt8),(51 :
 UInt8),(52 : UInt8)] },.int .i64 (100:Int),.int .i64 (0:Int),.int .i64 (0:Int),.int .i64 (0:Int),.int .i64 (0:Int),.sl (2:Nat) false [[AV.int .i64 (2:Int),.int .i64 (2810:Int)]]],[AV.int .i64 (1:Int),.str { data := #[(48 : UInt8),(49 : UInt8),(50 : UInt8),(51 : UInt8),(52 : UInt8)] },.int .i64 (100:Int),.int .i64 (0:Int),.int .i64 (0:Int),.int .i64 (0:Int),.int .i64 (0:Int),.sl (2:Nat) false
 [[AV.int .i64 (1:Int),.int .i64 (10132:Int)],[AV.int .i64 (2:Int),.int .i64 (2800:Int)]]]] (0:Int) (110:Int)∧ItsP aw1∧AdP aw1 [[AV.int .i64 (2:Int),.int .i64 (2805:Int)]]∧ItsP (adO aw1 (itA (1:Int) { data := #[(48 : UInt8),(49 : UInt8),(50 : UInt8),(51 : UInt8),(52 : UInt8)] } (100:Int) (0:Int) (0:Int) (0:Int) (0:Int) [[AV.int .i64 (2:Int),.int .i64 (2805:Int)]] (1:Int) (120:Int)))∧bif decide (mrE
 aw1 (0:Int) (200:Int)=0) then bif decide (adE aw1 (itA (1:Int) { data := #[(48 : UInt8),(49 : UInt8),(50 : UInt8),(51 : UInt8),(52 : UInt8)] } (100:Int) (0:Int) (0:Int) (0:Int) (0:Int) [[AV.int .i64 (2:Int),.int .i64 (2805:Int)]] (1:Int) (120:Int))=(0:Int)) then bif decide (mrE (adO aw1 (itA (1:Int) { data := #[(48 : UInt8),(49 : UInt8),(50 : UInt8),(51 : UInt8),(52 : UInt8)] } (100:Int) (0:Int)
 (0:Int) (0:Int) (0:Int) [[AV.int .i64 (2:Int),.int .i64 (2805:Int)]] (1:Int) (120:Int))) (0:Int) (200:Int)=0) then bif decide ((↑(List.length (mrO aw1 (0:Int) (200:Int) (200:Int))):Int)=(1:Int)) then bif decide ((0:Int)≤(0:Int)∧(0:Int) < (↑(List.length (mrO aw1 (0:Int) (200:Int) (200:Int))):Int)) then ∃ xs,List.take [AV.sl (1:Nat) false xs].length (List.drop (9:Nat) (List.getD (mrO aw1 (0:Int)
 (200:Int) (200:Int)) (0:Nat) []))=[AV.sl (1:Nat) false xs]∧((IntsB xs∧IntsB [[AV.int .i64 (2:Int)]])∧Ln xs∧Ln [[AV.int .i64 (2:Int)]])∧bif intsEq xs [[AV.int .i64 (2:Int)]] then bif decide ((0:Int)≤(0:Int)∧(0:Int) < (↑(List.length (mrO aw1 (0:Int) (200:Int) (200:Int))):Int)) then ∃ xs,List.take [AV.sl (2:Nat) false xs].length (List.drop (7:Nat) (List.drop (0:Nat) (List.getD (mrO aw1 (0:Int)
 (200:Int) (200:Int)) (0:Nat) [])))=[AV.sl (2:Nat) false xs]∧bif decide ((↑xs.length:Int)=(1:Int)) then bif decide ((↑(List.length (mrO (adO aw1 (itA (1:Int) { data := #[(48 : UInt8),(49 : UInt8),(50 : UInt8),(51 : UInt8),(52 : UInt8)] } (100:Int) (0:Int) (0:Int) (0:Int) (0:Int) [[AV.int .i64 (2:Int),.int .i64 (2805:Int)]] (1:Int) (120:Int))) (0:Int) (200:Int) (200:Int))):Int)=(1:Int)) then bif
 decide ((0:Int)≤(0:Int)∧(0:Int) < (↑(List.length (mrO (adO aw1 (itA (1:Int) { data := #[(48 : UInt8),(49 : UInt8),(50 : UInt8),(51 : UInt8),(52 : UInt8)] } (100:Int) (0:Int) (0:Int) (0:Int) (0:Int) [[AV.int .i64 (2:Int),.int .i64 (2805:Int)]] (1:Int) (120:Int))) (0:Int) (200:Int) (200:Int))):Int)) then ∃ n,List.take [AV.int .i64 n].length (List.drop (8:Nat) (List.getD (mrO (adO aw1 (itA (1:Int) {
 data := #[(48 : UInt8),(49 : UInt8),(50 : UInt8),(51 : UInt8),(52 : UInt8)] } (100:Int) (0:Int) (0:Int) (0:Int) (0:Int) [[AV.int .i64 (2:Int),.int .i64 (2805:Int)]] (1:Int) (120:Int))) (0:Int) (200:Int) (200:Int)) (0:Nat) []))=[AV.int .i64 n]∧bif decide (n=(1:Int)) then bif decide ((0:Int)≤(0:Int)∧(0:Int) < (↑(List.length (mrO (adO aw1 (itA (1:Int) { data := #[(48 : UInt8),(49 : UInt8),(50 :
 UInt8),(51 : UInt8),(52 : UInt8)] } (100:Int) (0:Int) (0:Int) (0:Int) (0:Int) [[AV.int .i64 (2:Int),.int .i64 (2805:Int)]] (1:Int) (120:Int))) (0:Int) (200:Int) (200:Int))):Int)) then ∃ xs,List.take [AV.sl (2:Nat) false xs].length (List.drop (7:Nat) (List.drop (0:Nat) (List.getD (mrO (adO aw1 (itA (1:Int) { data := #[(48 : UInt8),(49 : UInt8),(50 : UInt8),(51 : UInt8),(52 : UInt8)] } (100:Int)
 (0:Int) (0:Int) (0:Int) (0:Int) [[AV.int .i64 (2:Int),.int .i64 (2805:Int)]] (1:Int) (120:Int))) (0:Int) (200:Int) (200:Int)) (0:Nat) [])))=[AV.sl (2:Nat) false xs]∧bif decide ((0:Int)≤(0:Int)∧(0:Int) < (↑xs.length:Int)) then ∃ n,List.take [AV.int .i64 n].length (List.drop (1:Nat) (xs.getD (0:Nat) []))=[AV.int .i64 n]∧decide (n=(2805:Int))=true else False else False else false=true else False
 else false=true else false=true else False else false=true else False else false=true else false=true else false=true else false=true
set_option maxRecDepth 100000 in
theorem iawake_P : iawake_T aw1 mrE mrO adE adO inV suC ouL puE puN addI := by
  unfold iawake_T
  have hO : adO aw1 (itA 1 ⟨#[48,49,50,51,52]⟩ 100 0 0 0 0 [[.int .i64 2,.int .i64 2805]] 1 120)=aw2 := aw_aO
  have hE : adE aw1 (itA 1 ⟨#[48,49,50,51,52]⟩ 100 0 0 0 0 [[.int .i64 2,.int .i64 2805]] 1 120)=0 := aw_aE
  have hi : intsEq [[.int .i64 2]] [[.int .i64 2]]=true := by kernel_rfl
  have hb : IntsB [[.int .i64 2]] := ints_of [2] (by decide)
  have hl : Ln [[.int .i64 2]] := ⟨by decide⟩
  refine ⟨⟨rfl,rfl,rfl⟩,aw_g1.p,⟨aw_g1.p,fun _ => aw_g1,⟨fun i hi => ?_,by decide⟩,by decide⟩,by rw [hO]; exact aw_g2.p,?_⟩
  · have : i=0 := by simp at hi; omega
    subst this
    exact ⟨_,_,rfl,by decide,by decide⟩
  rw [hO,hE,aw_e1,aw_e2,aw_m1,aw_m2]
  refine cd1 rfl (cd1 rfl (cd1 rfl (cd1 rfl (cd1 (by decide) ⟨_,rfl,⟨⟨hb,hb⟩,hl,hl⟩,?_⟩))))
  rw [hi,cond_true]
  refine cd1 (by decide) ⟨_,rfl,?_⟩
  refine cd1 rfl ?_
  refine cd1 rfl ?_
  refine cd1 (by decide) ⟨_,rfl,?_⟩
  refine cd1 rfl ?_
  refine cd1 (by decide) ⟨_,rfl,?_⟩
  refine cd1 (by decide) ⟨_,rfl,?_⟩
  rfl
def iawake_S (aw1 : LLA) (mrE : LLA→Int→Int→Int) (mrO : LLA→Int→Int→Int→LLA) (adE : LLA→List AV→Int) (adO : LLA→List AV→LLA) (inV : LLA→Int) (suC : Int→ByteArray→Int→Int→ByteArray→Int→Int) (ouL : LLA→LLA→LLA) (puE : LLA→List AV→Int) (puN : LLA→List AV→Int) (addI : LLA→List AV→LLA) : Prop := fnK Tryd.prog { glob := glb,spec := lk [(18,(itakeN_s aw1)),(25,(imerge_s inV suC ouL mrE mrO)),(22,(iadd_s inV puE puN addI adE adO)),(43,kints_s)],specH := lk [],shape := [77,86,99,107,110],slz := [(77,[1]),(86,[2]),(107,[2])],nowf := true } { nt := 113,drop := drp [(1,61440),(2,458752),(3,3670016),(4,2143289344),(5,135291469824),(6,17454747090944),(7,1108307720798208),(8,10384593717069655255935092751597568)],frz := fun id => cond (Nat.beq id 4) [1000014,1000017] (cond (Nat.beq id 6) [1000020] []) } (fun _ _ => none) 6 Tryd.f21 [] (.bool true)
set_option maxRecDepth 100000 in
theorem iawake_e (aw1 : LLA) (mrE : LLA→Int→Int→Int) (mrO : LLA→Int→Int→Int→LLA) (adE : LLA→List AV→Int) (adO : LLA→List AV→LLA) (inV : LLA→Int) (suC : Int→ByteArray→Int→Int→ByteArray→Int→Int) (ouL : LLA→LLA→LLA) (puE : LLA→List AV→Int) (puN : LLA→List AV→Int) (addI : LLA→List AV→LLA) : iawake_T aw1 mrE mrO adE adO inV suC ouL puE puN addI=iawake_S aw1 mrE mrO adE adO inV suC ouL puE puN addI := by kernel_rfl
theorem iawake_v : iawake_S aw1 mrE mrO adE adO inV suC ouL puE puN addI := @Eq.mp (iawake_T aw1 mrE mrO adE adO inV suC ouL puE puN addI) (iawake_S aw1 mrE mrO adE adO inV suC ouL puE puN addI) (iawake_e aw1 mrE mrO adE adO inV suC ouL puE puN addI) (iawake_P)
theorem iawake_ok : SOK Tryd.prog glb 21 (iawake_s aw1 mrE mrO adE adO) := by
  refine ⟨fok Tryd.func21 (by kernel_rfl) (by kernel_rfl),?_⟩
  intro xs pre r h hp
  unfold iawake_s at h
  split at h
  · simp only [Option.some.injEq,Prod.mk.injEq] at h
    obtain ⟨h1,h2⟩ := h
    subst h1 h2
    exact fnK_sound tyNil (by exact specOK rfl rfl ⟨(itakeN_ok),(imerge_ok),(iadd_ok),(kints_ok glb),trivial⟩ trivial) (by kernel_rfl) Tryd.func21 rfl (iawake_v  )
  · cases h
end Go.Proofs.YtgnnafneglannaaDoor
namespace Go.Proofs.YtgnnafneglannaaDoor
open Go
set_option linter.unusedVariables false
set_option linter.unusedSimpArgs false
theorem tkL_gd (co ar : Int) : ∀ (rs l : LLA),inV l=0→GdL l→(∀ r ∈ rs,RpG r)→GdL (tkL co ar l rs).1
  | [],l,_,hl,_ => hl
  | r :: rs,l,hv,hl,hr => by
    unfold tkL
    have hx := ItG.of (hr r (by simp)) co ar
    split
    · next e => exact tkL_gd co ar rs _ (inV_add hv hl hx e) (addI_gd hl hx e (inV_ok hv).1).1 fun q hq => hr q (by simp [hq])
    · exact ⟨by simp,by simp⟩
theorem tkO_its {l rs : LLA} (co ar : Int) (hv : inV l=0) (hl : GdL l) (hr : ∀ r ∈ rs,RpG r) : ItsP (tkO l rs co ar) := by
  unfold tkO
  rw [if_pos hv]
  exact (tkL_gd co ar rs l hv hl hr).p
theorem itm_gd {os : LLA} {n j : Int} (h : ItmQ n os j) (hn : n≤100) : GdL os := ⟨fun r hr => by
  obtain ⟨k,nm,t,f,a,b,c,ys,co,ar,h1,h2,_⟩ := (h.fr r hr).fr
  exact ⟨k,nm,t,f,a,b,c,ys,co,ar,h1,rdv_rds h2.fr,by have := h2.fr.flen; omega⟩,by have := h.fl; omega⟩
theorem rep_bnt {k : Int} {nm : ByteArray} {t f a b c : Int} {ys : LLA} {j : Int} (h : RepQ k nm t f a b c ys j) : BntP ys c := ⟨rdv_rds h.fr,by have := h.fr.flen; omega,by
  by_cases hk : k=1
  · have := h.fl hk; omega
  · have := (h.fp hk).1.wc; omega⟩
def ltakes_s (tkE : LLA→LLA→Int→Int→Int) (tkN : LLA→LLA→Int→Int→Int) (tkO : LLA→LLA→Int→Int→LLA) (smI : LLA→LLA→Bool) (ibO : LLA→LLA) : Sp
  | [.sl 1 false xs] => some (IntsA xs,.bool true)
  | _ => none
set_option maxRecDepth 100000 in
def ltakes_T (tkE : LLA→LLA→Int→Int→Int) (tkN : LLA→LLA→Int→Int→Int) (tkO : LLA→LLA→Int→Int→LLA) (smI : LLA→LLA→Bool) (ibO : LLA→LLA) (adE : LLA→List AV→Int) (adO : LLA→List AV→LLA) (inV : LLA→Int) (puE : LLA→List AV→Int) (puN : LLA→List AV→Int) (addI : LLA→List AV→LLA) (itC : List AV→List AV→Int) (aw1 : LLA) (mrE : LLA→Int→Int→Int) (mrO : LLA→Int→Int→Int→LLA) : Prop :=
  ∀ (xs : List (List AV)),(∀ (x : List AV),List.Mem x xs→∃ n,x=[AV.int .i64 n]∧rng .i64 n)→True→True∧SrcQ (List.take (2000:Nat) xs) (0:Int)∧∀ (m j:Int),MinQ m j→(SrcQ (List.take (2000:Nat) xs) j∧((0:Int)≤m∧m≤(52595999:Int))∧(0:Int)≤(6:Int)∧(6:Int)≤(100:Int))∧∀ (os : List (List AV)) (j:Int),ItmQ (6:Int) os j→GdL os∧(SrcQ (List.take (2000:Nat) xs) j∧((0:Int)≤m∧m≤(52595999:Int))∧(0:Int) ≤
 (4:Int)∧(4:Int)≤(100:Int))∧∀ (os_1 : List (List AV)) (j:Int),RpsQ (4:Int) os_1 j→bif decide ((0:Int) < (↑os_1.length:Int)) then SrcQ (List.take (2000:Nat) xs) j∧∀ (v j:Int),NumQ (↑os_1.length:Int) v j→bif decide ((0:Int)≤v∧v < (↑os_1.length:Int)) then bif decide (os_1.length=os_1.length∧v.toNat < os_1.length) then ∃ n s n_1 n_2 n_3 n_4 n_5 xs_1,List.take [AV.int .i64 n,.str s,.int .i64 n_1,.int
 .i64 n_2,.int .i64 n_3,.int .i64 n_4,.int .i64 n_5,.sl (2:Nat) false xs_1].length (List.drop (0:Nat) (os_1.getD v.toNat []))=[AV.int .i64 n,.str s,.int .i64 n_1,.int .i64 n_2,.int .i64 n_3,.int .i64 n_4,.int .i64 n_5,.sl (2:Nat) false xs_1]∧bif decide (os_1.length=os_1.length∧os_1.length + [[AV.int .i64 n,.str s,.int .i64 n_1,.int .i64 n_2,.int .i64 n_3,.int .i64 n_4,.int .i64 n_5,.sl (2:Nat) false
 xs_1]].length≤(9223372036854775807:Nat)∧(os_1.length + [[AV.int .i64 n,.str s,.int .i64 n_1,.int .i64 n_2,.int .i64 n_3,.int .i64 n_4,.int .i64 n_5,.sl (2:Nat) false xs_1]].length) * (88:Nat)≤(140737488355328:Nat)) then SrcQ (List.take (2000:Nat) xs) j∧∀ (v j:Int),NumQ (5:Int) v j→bif decide (v=(0:Int)) then (SrcQ (List.take (2000:Nat) xs) j∧(0:Int)≤m∧m≤(52595999:Int))∧∀ (k:Int) (nm :
 ByteArray) (t f a b c:Int) (ys : List (List AV)) (j:Int),RepQ k nm t f a b c ys j→(SrcQ (List.take (2000:Nat) xs) j∧BntP ys c)∧∀ (k:Int) (nm : ByteArray) (t f a b c:Int) (zs : List (List AV)) (j:Int),BntQ zs j→bif decide ((os_1 ++ [[AV.int .i64 n,.str s,.int .i64 n_1,.int .i64 n_2,.int .i64 n_3,.int .i64 n_4,.int .i64 n_5,.sl (2:Nat) false xs_1]]).length=(os_1 ++ [[AV.int .i64 n,.str s,.int .i64
 n_1,.int .i64 n_2,.int .i64 n_3,.int .i64 n_4,.int .i64 n_5,.sl (2:Nat) false xs_1]]).length∧(os_1 ++ [[AV.int .i64 n,.str s,.int .i64 n_1,.int .i64 n_2,.int .i64 n_3,.int .i64 n_4,.int .i64 n_5,.sl (2:Nat) false xs_1]]).length + [[AV.int .i64 k,.str nm,.int .i64 t,.int .i64 f,.int .i64 a,.int .i64 b,.int .i64 c,.sl (2:Nat) false zs]].length≤(9223372036854775807:Nat)∧((os_1 ++ [[AV.int .i64
 n,.str s,.int .i64 n_1,.int .i64 n_2,.int .i64 n_3,.int .i64 n_4,.int .i64 n_5,.sl (2:Nat) false xs_1]]).length + [[AV.int .i64 k,.str nm,.int .i64 t,.int .i64 f,.int .i64 a,.int .i64 b,.int .i64 c,.sl (2:Nat) false zs]].length) * (88:Nat)≤(140737488355328:Nat)) then (SrcQ (List.take (2000:Nat) xs) j∧(0:Int)≤(2:Int)∧(-1000000000:Int)≤(0:Int)∧(2:Int)≤(1000000000:Int))∧∀ (v j:Int),((0:Int) ≤
 v∧v≤(2:Int))∧(0:Int)≤j→(SrcQ (List.take (2000:Nat) xs) j∧(0:Int)≤m∧m≤(52595999:Int))∧∀ (m j:Int),MinQ m j→bif decide ((os_1 ++ [[AV.int .i64 n,.str s,.int .i64 n_1,.int .i64 n_2,.int .i64 n_3,.int .i64 n_4,.int .i64 n_5,.sl (2:Nat) false xs_1]] ++ [[AV.int .i64 k,.str nm,.int .i64 t,.int .i64 f,.int .i64 a,.int .i64 b,.int .i64 c,.sl (2:Nat) false zs]]).length=(os_1 ++ [[AV.int .i64 n,.str
 s,.int .i64 n_1,.int .i64 n_2,.int .i64 n_3,.int .i64 n_4,.int .i64 n_5,.sl (2:Nat) false xs_1]] ++ [[AV.int .i64 k,.str nm,.int .i64 t,.int .i64 f,.int .i64 a,.int .i64 b,.int .i64 c,.sl (2:Nat) false zs]]).length) then TkP (ibO os) (os_1 ++ [[AV.int .i64 n,.str s,.int .i64 n_1,.int .i64 n_2,.int .i64 n_3,.int .i64 n_4,.int .i64 n_5,.sl (2:Nat) false xs_1]] ++ [[AV.int .i64 k,.str nm,.int .i64
 t,.int .i64 f,.int .i64 a,.int .i64 b,.int .i64 c,.sl (2:Nat) false zs]])∧bif decide ((os_1 ++ [[AV.int .i64 n,.str s,.int .i64 n_1,.int .i64 n_2,.int .i64 n_3,.int .i64 n_4,.int .i64 n_5,.sl (2:Nat) false xs_1]] ++ [[AV.int .i64 k,.str nm,.int .i64 t,.int .i64 f,.int .i64 a,.int .i64 b,.int .i64 c,.sl (2:Nat) false zs]]).length=(os_1 ++ [[AV.int .i64 n,.str s,.int .i64 n_1,.int .i64 n_2,.int .i64
 n_3,.int .i64 n_4,.int .i64 n_5,.sl (2:Nat) false xs_1]] ++ [[AV.int .i64 k,.str nm,.int .i64 t,.int .i64 f,.int .i64 a,.int .i64 b,.int .i64 c,.sl (2:Nat) false zs]]).length) then TrP (ibO os) (os_1 ++ [[AV.int .i64 n,.str s,.int .i64 n_1,.int .i64 n_2,.int .i64 n_3,.int .i64 n_4,.int .i64 n_5,.sl (2:Nat) false xs_1]] ++ [[AV.int .i64 k,.str nm,.int .i64 t,.int .i64 f,.int .i64 a,.int .i64 b,.int
 .i64 c,.sl (2:Nat) false zs]])∧bif decide (tkE (ibO os) (os_1 ++ [[AV.int .i64 n,.str s,.int .i64 n_1,.int .i64 n_2,.int .i64 n_3,.int .i64 n_4,.int .i64 n_5,.sl (2:Nat) false xs_1]] ++ [[AV.int .i64 k,.str nm,.int .i64 t,.int .i64 f,.int .i64 a,.int .i64 b,.int .i64 c,.sl (2:Nat) false zs]]) v m=tkE (ibO os) (os_1 ++ [[AV.int .i64 n,.str s,.int .i64 n_1,.int .i64 n_2,.int .i64 n_3,.int .i64
 n_4,.int .i64 n_5,.sl (2:Nat) false xs_1]] ++ [[AV.int .i64 k,.str nm,.int .i64 t,.int .i64 f,.int .i64 a,.int .i64 b,.int .i64 c,.sl (2:Nat) false zs]]) v m) then bif decide (tkN (ibO os) (os_1 ++ [[AV.int .i64 n,.str s,.int .i64 n_1,.int .i64 n_2,.int .i64 n_3,.int .i64 n_4,.int .i64 n_5,.sl (2:Nat) false xs_1]] ++ [[AV.int .i64 k,.str nm,.int .i64 t,.int .i64 f,.int .i64 a,.int .i64 b,.int .i64
 c,.sl (2:Nat) false zs]]) v m=tkN (ibO os) (os_1 ++ [[AV.int .i64 n,.str s,.int .i64 n_1,.int .i64 n_2,.int .i64 n_3,.int .i64 n_4,.int .i64 n_5,.sl (2:Nat) false xs_1]] ++ [[AV.int .i64 k,.str nm,.int .i64 t,.int .i64 f,.int .i64 a,.int .i64 b,.int .i64 c,.sl (2:Nat) false zs]]) v m) then (ItsP (tkO (ibO os) (os_1 ++ [[AV.int .i64 n,.str s,.int .i64 n_1,.int .i64 n_2,.int .i64 n_3,.int .i64
 n_4,.int .i64 n_5,.sl (2:Nat) false xs_1]] ++ [[AV.int .i64 k,.str nm,.int .i64 t,.int .i64 f,.int .i64 a,.int .i64 b,.int .i64 c,.sl (2:Nat) false zs]]) v m)∧ItsP (tkO (ibO os) (os_1 ++ [[AV.int .i64 n,.str s,.int .i64 n_1,.int .i64 n_2,.int .i64 n_3,.int .i64 n_4,.int .i64 n_5,.sl (2:Nat) false xs_1]] ++ [[AV.int .i64 k,.str nm,.int .i64 t,.int .i64 f,.int .i64 a,.int .i64 b,.int .i64 c,.sl
 (2:Nat) false zs]]) v m))∧bif smI (tkO (ibO os) (os_1 ++ [[AV.int .i64 n,.str s,.int .i64 n_1,.int .i64 n_2,.int .i64 n_3,.int .i64 n_4,.int .i64 n_5,.sl (2:Nat) false xs_1]] ++ [[AV.int .i64 k,.str nm,.int .i64 t,.int .i64 f,.int .i64 a,.int .i64 b,.int .i64 c,.sl (2:Nat) false zs]]) v m) (tkO (ibO os) (os_1 ++ [[AV.int .i64 n,.str s,.int .i64 n_1,.int .i64 n_2,.int .i64 n_3,.int .i64 n_4,.int
 .i64 n_5,.sl (2:Nat) false xs_1]] ++ [[AV.int .i64 k,.str nm,.int .i64 t,.int .i64 f,.int .i64 a,.int .i64 b,.int .i64 c,.sl (2:Nat) false zs]]) v m) then True∧true=true else false=true else false=true else false=true else False else False else False else (SrcQ (List.take (2000:Nat) xs) j∧(0:Int)≤(2:Int)∧(-1000000000:Int)≤(0:Int)∧(2:Int)≤(1000000000:Int))∧∀ (v j:Int),((0:Int)≤v∧v ≤
 (2:Int))∧(0:Int)≤j→(SrcQ (List.take (2000:Nat) xs) j∧(0:Int)≤m∧m≤(52595999:Int))∧∀ (m j:Int),MinQ m j→bif decide ((os_1 ++ [[AV.int .i64 n,.str s,.int .i64 n_1,.int .i64 n_2,.int .i64 n_3,.int .i64 n_4,.int .i64 n_5,.sl (2:Nat) false xs_1]]).length=(os_1 ++ [[AV.int .i64 n,.str s,.int .i64 n_1,.int .i64 n_2,.int .i64 n_3,.int .i64 n_4,.int .i64 n_5,.sl (2:Nat) false xs_1]]).length) then TkP
 (ibO os) (os_1 ++ [[AV.int .i64 n,.str s,.int .i64 n_1,.int .i64 n_2,.int .i64 n_3,.int .i64 n_4,.int .i64 n_5,.sl (2:Nat) false xs_1]])∧bif decide ((os_1 ++ [[AV.int .i64 n,.str s,.int .i64 n_1,.int .i64 n_2,.int .i64 n_3,.int .i64 n_4,.int .i64 n_5,.sl (2:Nat) false xs_1]]).length=(os_1 ++ [[AV.int .i64 n,.str s,.int .i64 n_1,.int .i64 n_2,.int .i64 n_3,.int .i64 n_4,.int .i64 n_5,.sl (2:Nat)
 false xs_1]]).length) then TrP (ibO os) (os_1 ++ [[AV.int .i64 n,.str s,.int .i64 n_1,.int .i64 n_2,.int .i64 n_3,.int .i64 n_4,.int .i64 n_5,.sl (2:Nat) false xs_1]])∧bif decide (tkE (ibO os) (os_1 ++ [[AV.int .i64 n,.str s,.int .i64 n_1,.int .i64 n_2,.int .i64 n_3,.int .i64 n_4,.int .i64 n_5,.sl (2:Nat) false xs_1]]) v m=tkE (ibO os) (os_1 ++ [[AV.int .i64 n,.str s,.int .i64 n_1,.int .i64
 n_2,.int .i64 n_3,.int .i64 n_4,.int .i64 n_5,.sl (2:Nat) false xs_1]]) v m) then bif decide (tkN (ibO os) (os_1 ++ [[AV.int .i64 n,.str s,.int .i64 n_1,.int .i64 n_2,.int .i64 n_3,.int .i64 n_4,.int .i64 n_5,.sl (2:Nat) false xs_1]]) v m=tkN (ibO os) (os_1 ++ [[AV.int .i64 n,.str s,.int .i64 n_1,.int .i64 n_2,.int .i64 n_3,.int .i64 n_4,.int .i64 n_5,.sl (2:Nat) false xs_1]]) v m) then (ItsP (tkO
 (ibO os) (os_1 ++ [[AV.int .i64 n,.str s,.int .i64 n_1,.int .i64 n_2,.int .i64 n_3,.int .i64 n_4,.int .i64 n_5,.sl (2:Nat) false xs_1]]) v m)∧ItsP (tkO (ibO os) (os_1 ++ [[AV.int .i64 n,.str s,.int .i64 n_1,.int .i64 n_2,.int .i64 n_3,.int .i64 n_4,.int .i64 n_5,.sl (2:Nat) false xs_1]]) v m))∧bif smI (tkO (ibO os) (os_1 ++ [[AV.int .i64 n,.str s,.int .i64 n_1,.int .i64 n_2,.int .i64 n_3,.int .i64
 n_4,.int .i64 n_5,.sl (2:Nat) false xs_1]]) v m) (tkO (ibO os) (os_1 ++ [[AV.int .i64 n,.str s,.int .i64 n_1,.int .i64 n_2,.int .i64 n_3,.int .i64 n_4,.int .i64 n_5,.sl (2:Nat) false xs_1]]) v m) then True∧true=true else false=true else false=true else false=true else False else False else False else False else False else SrcQ (List.take (2000:Nat) xs) j∧∀ (v j:Int),NumQ (5:Int) v j→bif decide
 (v=(0:Int)) then (SrcQ (List.take (2000:Nat) xs) j∧(0:Int)≤m∧m≤(52595999:Int))∧∀ (k:Int) (nm : ByteArray) (t f a b c:Int) (ys : List (List AV)) (j:Int),RepQ k nm t f a b c ys j→(SrcQ (List.take (2000:Nat) xs) j∧BntP ys c)∧∀ (k:Int) (nm : ByteArray) (t f a b c:Int) (zs : List (List AV)) (j:Int),BntQ zs j→bif decide (os_1.length=os_1.length∧os_1.length + [[AV.int .i64 k,.str nm,.int .i64 t,.int
 .i64 f,.int .i64 a,.int .i64 b,.int .i64 c,.sl (2:Nat) false zs]].length≤(9223372036854775807:Nat)∧(os_1.length + [[AV.int .i64 k,.str nm,.int .i64 t,.int .i64 f,.int .i64 a,.int .i64 b,.int .i64 c,.sl (2:Nat) false zs]].length) * (88:Nat)≤(140737488355328:Nat)) then (SrcQ (List.take (2000:Nat) xs) j∧(0:Int)≤(2:Int)∧(-1000000000:Int)≤(0:Int)∧(2:Int)≤(1000000000:Int))∧∀ (v j:Int),((0:Int)
≤v∧v≤(2:Int))∧(0:Int)≤j→(SrcQ (List.take (2000:Nat) xs) j∧(0:Int)≤m∧m≤(52595999:Int))∧∀ (m j:Int),MinQ m j→bif decide ((os_1 ++ [[AV.int .i64 k,.str nm,.int .i64 t,.int .i64 f,.int .i64 a,.int .i64 b,.int .i64 c,.sl (2:Nat) false zs]]).length=(os_1 ++ [[AV.int .i64 k,.str nm,.int .i64 t,.int .i64 f,.int .i64 a,.int .i64 b,.int .i64 c,.sl (2:Nat) false zs]]).length) then TkP (ibO os) (os_1
 ++ [[AV.int .i64 k,.str nm,.int .i64 t,.int .i64 f,.int .i64 a,.int .i64 b,.int .i64 c,.sl (2:Nat) false zs]])∧bif decide ((os_1 ++ [[AV.int .i64 k,.str nm,.int .i64 t,.int .i64 f,.int .i64 a,.int .i64 b,.int .i64 c,.sl (2:Nat) false zs]]).length=(os_1 ++ [[AV.int .i64 k,.str nm,.int .i64 t,.int .i64 f,.int .i64 a,.int .i64 b,.int .i64 c,.sl (2:Nat) false zs]]).length) then TrP (ibO os) (os_1 ++
 [[AV.int .i64 k,.str nm,.int .i64 t,.int .i64 f,.int .i64 a,.int .i64 b,.int .i64 c,.sl (2:Nat) false zs]])∧bif decide (tkE (ibO os) (os_1 ++ [[AV.int .i64 k,.str nm,.int .i64 t,.int .i64 f,.int .i64 a,.int .i64 b,.int .i64 c,.sl (2:Nat) false zs]]) v m=tkE (ibO os) (os_1 ++ [[AV.int .i64 k,.str nm,.int .i64 t,.int .i64 f,.int .i64 a,.int .i64 b,.int .i64 c,.sl (2:Nat) false zs]]) v m) then bif
 decide (tkN (ibO os) (os_1 ++ [[AV.int .i64 k,.str nm,.int .i64 t,.int .i64 f,.int .i64 a,.int .i64 b,.int .i64 c,.sl (2:Nat) false zs]]) v m=tkN (ibO os) (os_1 ++ [[AV.int .i64 k,.str nm,.int .i64 t,.int .i64 f,.int .i64 a,.int .i64 b,.int .i64 c,.sl (2:Nat) false zs]]) v m) then (ItsP (tkO (ibO os) (os_1 ++ [[AV.int .i64 k,.str nm,.int .i64 t,.int .i64 f,.int .i64 a,.int .i64 b,.int .i64 c,.sl
 (2:Nat) false zs]]) v m)∧ItsP (tkO (ibO os) (os_1 ++ [[AV.int .i64 k,.str nm,.int .i64 t,.int .i64 f,.int .i64 a,.int .i64 b,.int .i64 c,.sl (2:Nat) false zs]]) v m))∧bif smI (tkO (ibO os) (os_1 ++ [[AV.int .i64 k,.str nm,.int .i64 t,.int .i64 f,.int .i64 a,.int .i64 b,.int .i64 c,.sl (2:Nat) false zs]]) v m) (tkO (ibO os) (os_1 ++ [[AV.int .i64 k,.str nm,.int .i64 t,.int .i64 f,.int .i64 a,.int
 .i64 b,.int .i64 c,.sl (2:Nat) false zs]]) v m) then True∧true=true else false=true else false=true else false=true else False else False else False else (SrcQ (List.take (2000:Nat) xs) j∧(0:Int)≤(2:Int)∧(-1000000000:Int)≤(0:Int)∧(2:Int)≤(1000000000:Int))∧∀ (v j:Int),((0:Int)≤v∧v≤(2:Int))∧(0:Int)≤j→(SrcQ (List.take (2000:Nat) xs) j∧(0:Int)≤m∧m≤(52595999:Int))∧∀ (m j:Int),MinQ m
 j→bif decide (os_1.length=os_1.length) then TkP (ibO os) os_1∧bif decide (os_1.length=os_1.length) then TrP (ibO os) os_1∧bif decide (tkE (ibO os) os_1 v m=tkE (ibO os) os_1 v m) then bif decide (tkN (ibO os) os_1 v m=tkN (ibO os) os_1 v m) then (ItsP (tkO (ibO os) os_1 v m)∧ItsP (tkO (ibO os) os_1 v m))∧bif smI (tkO (ibO os) os_1 v m) (tkO (ibO os) os_1 v m) then True∧true=true else false=true
 else false=true else false=true else False else False
set_option maxRecDepth 100000 in
theorem ltakes_P : ltakes_T tkE tkN tkO smI ibO adE adO inV puE puN addI itC aw1 mrE mrO := by
  unfold ltakes_T
  intro xs hz _
  have hs : SrcI (List.take 2000 xs) := SrcI.take hz
  refine ⟨trivial,⟨hs,by decide⟩,fun m j q1 => ⟨⟨⟨hs,q1.fj⟩,q1.fm,by decide,by decide⟩,fun os j q2 => ⟨itm_gd q2 (by decide),⟨⟨hs,q2.fj⟩,q1.fm,by decide,by decide⟩,fun r0 j q3 => ?_⟩⟩⟩
  have hib := ibO_ok os (itm_gd q2 (by decide)).fg
  have hm := q1.fm
  have hr0 := q3.fr
  have hl0 := q3.fl
  generalize ibO os=B at *
  have fin : ∀ (rs : LLA) (j : Int),(∀ r ∈ rs,RpG r)→rs.length≤10→0≤j→(SrcQ (List.take 2000 xs) j∧(0 : Int)≤2∧(-1000000000 : Int)≤0∧(2 : Int)≤1000000000)∧∀ (v j : Int),(0≤v∧v≤2)∧0≤j→(SrcQ (List.take 2000 xs) j∧0≤m∧m≤52595999)∧∀ (m j : Int),MinQ m j→cond (decide (rs.length=rs.length)) (TkP B rs∧cond (decide (rs.length=rs.length)) (TrP B rs∧cond (decide (tkE B rs v m=tkE B rs v m)) (cond (decide (tkN B rs v m=tkN B rs v m)) ((ItsP (tkO B rs v m)∧ItsP (tkO B rs v m))∧cond (smI (tkO B rs v m) (tkO B rs v m)) (True∧true=true) (false=true)) (false=true)) (false=true)) False) False := fun rs j hr hl hj =>
    have hR : RpL rs := ⟨fun i hi => by rw [getD_lt hi]; exact hr _ (List.getElem_mem hi),by omega⟩
    ⟨⟨⟨hs,hj⟩,by decide,by decide,by decide⟩,fun v j p => ⟨⟨⟨hs,p.2⟩,hm⟩,fun m j p2 => cd1 rfl ⟨⟨hib.fg.p,fun _ => hib.fg,hR⟩,cd1 rfl ⟨⟨hib.fg.p,hib.fg.fl,fun _ => hib.fg,hR⟩,cd1 rfl (cd1 rfl ⟨⟨tkO_its v m hib.fv hib.fg hr,tkO_its v m hib.fv hib.fg hr⟩,by rw [smI_rfl,cond_true]; exact ⟨trivial,rfl⟩⟩)⟩⟩⟩⟩
  have add : ∀ {rs : LLA} {x : List AV},(∀ r ∈ rs,RpG r)→RpG x→∀ r ∈ rs ++ [x],RpG r := fun h hx r hr => by
    rcases List.mem_append.1 hr with z | z
    · exact h r z
    · rw [List.mem_singleton.1 z]; exact hx
  have main : ∀ (rs : LLA) (j : Int),(∀ r ∈ rs,RpG r)→rs.length≤5→0≤j→SrcQ (List.take 2000 xs) j∧∀ v j : Int,NumQ 5 v j→cond (decide (v=0)) ((SrcQ (List.take 2000 xs) j∧0≤m∧m≤52595999)∧∀ (k : Int) (nm : ByteArray) (t f a b c : Int) (ys : LLA) (j : Int),RepQ k nm t f a b c ys j→(SrcQ (List.take 2000 xs) j∧BntP ys c)∧∀ (k : Int) (nm : ByteArray) (t f a b c : Int) (zs : LLA) (j : Int),BntQ zs j→cond (decide (rs.length=rs.length∧rs.length + [rpR k nm t f a b c zs].length≤9223372036854775807∧(rs.length + [rpR k nm t f a b c zs].length) * 88≤140737488355328)) ((SrcQ (List.take 2000 xs) j∧(0 : Int)≤2∧(-1000000000 : Int)≤0∧(2 : Int)≤1000000000)∧∀ (v j : Int),(0≤v∧v≤2)∧0≤j→(SrcQ (List.take 2000 xs) j∧0≤m∧m≤52595999)∧∀ (m j : Int),MinQ m j→cond (decide ((rs ++ [rpR k nm t f a b c zs]).length=(rs ++ [rpR k nm t f a b c zs]).length)) (TkP B (rs ++ [rpR k nm t f a b c zs])∧cond (decide ((rs ++ [rpR k nm t f a b c zs]).length=(rs ++ [rpR k nm t f a b c zs]).length)) (TrP B (rs ++ [rpR k nm t f a b c zs])∧cond (decide (tkE B (rs ++ [rpR k nm t f a b c zs]) v m=tkE B (rs ++ [rpR k nm t f a b c zs]) v m)) (cond (decide (tkN B (rs ++ [rpR k nm t f a b c zs]) v m=tkN B (rs ++ [rpR k nm t f a b c zs]) v m)) ((ItsP (tkO B (rs ++ [rpR k nm t f a b c zs]) v m)∧ItsP (tkO B (rs ++ [rpR k nm t f a b c zs]) v m))∧cond (smI (tkO B (rs ++ [rpR k nm t f a b c zs]) v m) (tkO B (rs ++ [rpR k nm t f a b c zs]) v m)) (True∧true=true) (false=true)) (false=true)) (false=true)) False) False) False) ((SrcQ (List.take 2000 xs) j∧(0 : Int)≤2∧(-1000000000 : Int)≤0∧(2 : Int)≤1000000000)∧∀ (v j : Int),(0≤v∧v≤2)∧0≤j→(SrcQ (List.take 2000 xs) j∧0≤m∧m≤52595999)∧∀ (m j : Int),MinQ m j→cond (decide (rs.length=rs.length)) (TkP B rs∧cond (decide (rs.length=rs.length)) (TrP B rs∧cond (decide (tkE B rs v m=tkE B rs v m)) (cond (decide (tkN B rs v m=tkN B rs v m)) ((ItsP (tkO B rs v m)∧ItsP (tkO B rs v m))∧cond (smI (tkO B rs v m) (tkO B rs v m)) (True∧true=true) (false=true)) (false=true)) (false=true)) False) False) := fun rs j hr hl hj =>
    ⟨⟨hs,hj⟩,fun v j p => csx (fun _ => ⟨⟨⟨hs,p.fj⟩,hm⟩,fun k nm t f a b c ys j p2 => ⟨⟨⟨hs,p2.fj⟩,rep_bnt p2⟩,fun k nm t f a b c zs j p3 => cd1 ⟨rfl,by simp; omega,by simp; omega⟩ (fin _ j (add hr ⟨_,_,_,_,_,_,_,_,rfl,p3.fr,p3.fl⟩) (by simp; omega) p3.fj)⟩⟩) (fun _ => fin rs j hr (by omega) p.fj)⟩
  refine csx (fun h0 => ⟨⟨hs,q3.fj⟩,fun v j q4 => ?_⟩) (fun _ => main r0 j hr0 (by omega) q3.fj)
  have hv := q4.fv (by omega)
  have hx : RpG (r0.getD v.toNat []) := by rw [getD_lt (by omega)]; exact hr0 _ (List.getElem_mem _)
  obtain ⟨k,nm,t,f,a,b,c,rd,e,h2,h3⟩ := hx.fr
  refine cd1 (by omega) (cd1 ⟨rfl,by omega⟩ ⟨k,nm,t,f,a,b,c,rd,by rw [e]; rfl,cd1 ⟨rfl,by simp; omega,by simp; omega⟩ ?_⟩)
  exact main (r0 ++ [rpR k nm t f a b c rd]) j (add hr0 ⟨_,_,_,_,_,_,_,_,rfl,h2,h3⟩) (by simp; omega) q4.fj
def ltakes_S (tkE : LLA→LLA→Int→Int→Int) (tkN : LLA→LLA→Int→Int→Int) (tkO : LLA→LLA→Int→Int→LLA) (smI : LLA→LLA→Bool) (ibO : LLA→LLA) (adE : LLA→List AV→Int) (adO : LLA→List AV→LLA) (inV : LLA→Int) (puE : LLA→List AV→Int) (puN : LLA→List AV→Int) (addI : LLA→List AV→LLA) (itC : List AV→List AV→Int) (aw1 : LLA) (mrE : LLA→Int→Int→Int) (mrO : LLA→Int→Int→Int→LLA) : Prop := ∀ (xs : List (List AV)),IntsA xs→fnK Tryd.prog { glob := glb,spec := lk [(10,(qinbox_s ibO adE adO)),(18,(itake_s inV puE puN addI tkE tkN tkO)),(19,(rtake_s inV adE adO tkE tkN tkO)),(20,(isame_s itC smI)),(21,(iawake_s aw1 mrE mrO adE adO))],specH := lk [(8,newsrc_s)],specQ := lk [(9,qminute_s),(11,qitems_s),(12,qreports_s),(13,qn_s),(15,qreport_s),(14,qbent_s),(16,qrange_s),(17,qnear_s)],shape := [36],slz := [(36,[2])],nowf := true } { nt := 89,drop := drp [(1,98304),(2,393216),(3,7864320),(4,58720256),(5,201326592),(6,549218942976),(7,1649267441664),(8,1121501860331520),(9,34902897112121344),(10,18410715276690587648),(11,9426286221665580875776),(12,618960574909724398159134720)],frz := fun id => cond (Nat.beq id 10) [6] [] } (fun _ _ => none) 6 Tryd.f3 [.sl 1 false xs] (.bool true)
set_option maxRecDepth 100000 in
theorem ltakes_e (tkE : LLA→LLA→Int→Int→Int) (tkN : LLA→LLA→Int→Int→Int) (tkO : LLA→LLA→Int→Int→LLA) (smI : LLA→LLA→Bool) (ibO : LLA→LLA) (adE : LLA→List AV→Int) (adO : LLA→List AV→LLA) (inV : LLA→Int) (puE : LLA→List AV→Int) (puN : LLA→List AV→Int) (addI : LLA→List AV→LLA) (itC : List AV→List AV→Int) (aw1 : LLA) (mrE : LLA→Int→Int→Int) (mrO : LLA→Int→Int→Int→LLA) : ltakes_T tkE tkN tkO smI ibO adE adO inV puE puN addI itC aw1 mrE mrO=ltakes_S tkE tkN tkO smI ibO adE adO inV puE puN addI itC aw1 mrE mrO := by kernel_rfl
theorem ltakes_v : ltakes_S tkE tkN tkO smI ibO adE adO inV puE puN addI itC aw1 mrE mrO := @Eq.mp (ltakes_T tkE tkN tkO smI ibO adE adO inV puE puN addI itC aw1 mrE mrO) (ltakes_S tkE tkN tkO smI ibO adE adO inV puE puN addI itC aw1 mrE mrO) (ltakes_e tkE tkN tkO smI ibO adE adO inV puE puN addI itC aw1 mrE mrO) (ltakes_P)
theorem ltakes_ok : SOK Tryd.prog glb 3 (ltakes_s tkE tkN tkO smI ibO) := by
  refine ⟨fok Tryd.func3 (by kernel_rfl) (by kernel_rfl),?_⟩
  intro xs pre r h hp
  unfold ltakes_s at h
  split at h
  · simp only [Option.some.injEq,Prod.mk.injEq] at h
    obtain ⟨h1,h2⟩ := h
    subst h1 h2
    exact fnK_sound tyNil (by exact specOK rfl rfl ⟨(qinbox_ok glb),(itake_ok),(rtake_ok glb),(isame_ok glb),(iawake_ok),trivial⟩ ⟨(newsrc_ok glb),trivial⟩ (d := qsOf rfl ⟨(qminute_ok glb),(qitems_ok glb),(qreports_ok glb),(qn_ok glb),(qreport_ok glb),(qbent_ok glb),(qrange_ok glb),(qnear_ok glb),trivial⟩)) (by kernel_rfl) Tryd.func3 rfl (ltakes_v  _ hp)
  · cases h
end Go.Proofs.YtgnnafneglannaaDoor
namespace Go.Proofs.YtgnnafneglannaaDoor
open Go
open Go.ChangeShapes Go.WideShapes
open Go.RowKit (Below)
set_option linter.unusedVariables false
set_option linter.unusedSimpArgs false
def pinAll (w : World) : Pin := fun b o => match w.cell? ⟨b,o,none⟩ with | some v => cond v.oneCell' (some v) none | none => none
theorem pinAll_some {w : World} {b o : Nat} {v : Value} (h : w.cell? ⟨b,o,none⟩=some v) (k : v.oneCell'=true) : pinAll w b o=some v := by simp [pinAll,h,k]
theorem agree_all (w : World) : Agree (pinAll w) w := by
  intro b o v h
  unfold pinAll at h
  split at h
  · next u e =>
    cases hk : u.oneCell' with
    | true => rw [hk] at h; simp only [cond_true,Option.some.injEq] at h; subst h; exact ⟨e,hk⟩
    | false => rw [hk] at h; cases h
  · cases h
def tiles (P : Program) : List Field→Nat→Nat→Bool
  | [],o,n => Nat.beq o n
  | f :: fs,o,n => Nat.beq f.offset o && tiles P fs (o + P.cellsOf f.type) n
def supp (P : Program) : Nat→TypeId→Bool
  | 0,_ => false
  | n + 1,t => match P.underlying t with
    | some .bool => true
    | some (.int _) => true
    | some .string => true
    | some (.slice e) => Nat.blt 0 (P.cellsOf e) && supp P n e
    | some (.struct fs) => tiles P fs.toList 0 (P.cellsOf t) && fs.toList.all fun f => supp P n f.type
    | some (.array m e) => Nat.beq (m * P.cellsOf e) (P.cellsOf t) && supp P n e
    | _ => false
def ShF (P : Program) (sh : TypeId→List AV→Prop) : List Field→List AV→Prop
  | [],cs => cs=[]
  | f :: fs,cs => ∃ ys zs,sh f.type ys∧ShF P sh fs zs∧cs=ys ++ zs
def ShE (sh : List AV→Prop) : Nat→List AV→Prop
  | 0,cs => cs=[]
  | n + 1,cs => ∃ ys zs,sh ys∧ShE sh n zs∧cs=ys ++ zs
def Sh (P : Program) : Nat→TypeId→List AV→Prop
  | 0,_,_ => False
  | n + 1,t,cs => match P.underlying t with
    | some .bool => ∃ b,cs=[.bool b]
    | some (.int k) => ∃ z,rng k z∧cs=[.int k z]
    | some .string => ∃ s : ByteArray,s.size≤9223372036854775807∧cs=[.str s]
    | some (.slice e) => ∃ xs : List (List AV),xs.length≤9223372036854775807∧(∀ x ∈ xs,Sh P n e x)∧cs=[.sl (P.cellsOf e) false xs]
    | some (.struct fs) => ShF P (Sh P n) fs.toList cs
    | some (.array m e) => ShE (Sh P n e) m cs
    | _ => False
theorem shF_of {P : Program} {S : Pin} {sh : TypeId→List AV→Prop} {vs : List Value} : ∀ (fs : List Field) (o tot : Nat),tiles P fs o tot=true→vs.length=tot →
    (∀ f ∈ fs,∃ ys,sh f.type ys∧allOne ys=true∧CVl S ys noNm ((vs.drop f.offset).take (P.cellsOf f.type)))→∃ cs,ShF P sh fs cs∧allOne cs=true∧CVl S cs noNm (vs.drop o)
  | [],o,tot,ht,hl,_ => by
    simp only [tiles] at ht
    have := Nat.eq_of_beq_eq_true ht
    exact ⟨[],rfl,rfl,by simp only [CVl]; exact List.drop_eq_nil_of_le (by omega)⟩
  | f :: fs,o,tot,ht,hl,h => by
    simp only [tiles,Bool.and_eq_true] at ht
    obtain ⟨ho,ht⟩ := ht
    have ho := Nat.eq_of_beq_eq_true ho
    obtain ⟨ys,h1,h2,h3⟩ := h f (List.mem_cons_self ..)
    obtain ⟨zs,k1,k2,k3⟩ := shF_of fs _ tot ht hl (fun g hg => h g (List.mem_cons_of_mem _ hg))
    refine ⟨ys ++ zs,⟨ys,zs,h1,k1,rfl⟩,allOne_append h2 k2,?_⟩
    rw [ho] at h3
    have e : vs.drop o=(vs.drop o).take (P.cellsOf f.type) ++ vs.drop (o + P.cellsOf f.type) := by
      rw [← List.drop_drop]; exact (List.take_append_drop _ _).symm
    rw [e]
    exact CVl.append h3 k3
where allOne_append : ∀ {xs ys : List AV},allOne xs=true→allOne ys=true→allOne (xs ++ ys)=true
  | [],ys,_,h => h
  | x :: xs,ys,h,k => by
    simp only [allOne,Bool.and_eq_true,List.cons_append] at h ⊢
    exact ⟨h.1,allOne_append h.2 k⟩
theorem shE_of {S : Pin} {sh : List AV→Prop} {s : Nat} : ∀ (n : Nat) (vs : List Value),vs.length=n * s→(∀ i,i < n→∃ ys,sh ys∧allOne ys=true∧CVl S ys noNm ((vs.drop (i * s)).take s)) →
    ∃ cs,ShE sh n cs∧allOne cs=true∧CVl S cs noNm vs
  | 0,vs,hl,_ => ⟨[],rfl,rfl,by simp only [CVl]; exact List.eq_nil_of_length_eq_zero (by omega)⟩
  | n + 1,vs,hl,h => by
    obtain ⟨ys,h1,h2,h3⟩ := h 0 (by omega)
    have hl' : vs.length=n * s + s := by rw [hl,Nat.succ_mul]
    obtain ⟨zs,k1,k2,k3⟩ := shE_of n (vs.drop s) (by rw [List.length_drop,hl',Nat.add_sub_cancel]) (fun i hi => by
      obtain ⟨q,q1,q2,q3⟩ := h (i + 1) (by omega)
      refine ⟨q,q1,q2,?_⟩
      rw [List.drop_drop,show s + i * s=(i + 1) * s by rw [Nat.succ_mul]; omega]
      exact q3)
    refine ⟨ys ++ zs,⟨ys,zs,h1,k1,rfl⟩,shF_of.allOne_append h2 k2,?_⟩
    rw [Nat.zero_mul,List.drop_zero] at h3
    have e : vs=vs.take s ++ vs.drop s := (List.take_append_drop _ _).symm
    rw [e]
    exact CVl.append h3 k3
theorem list_of {α : Type} {p : Nat→α→Prop} : ∀ (n : Nat),(∀ i,i < n→∃ x,p i x)→∃ xs : List α,xs.length=n∧∀ i x,xs[i]?=some x→p i x
  | 0,_ => ⟨[],rfl,by simp⟩
  | n + 1,h => by
    obtain ⟨xs,h1,h2⟩ := list_of n (fun i hi => h i (by omega))
    obtain ⟨x,hx⟩ := h n (by omega)
    refine ⟨xs ++ [x],by simp [h1],fun i y hy => ?_⟩
    rcases Nat.lt_or_ge i xs.length with hi | hi
    · rw [List.getElem?_append_left hi] at hy; exact h2 i y hy
    · rw [List.getElem?_append_right hi] at hy
      rcases Nat.eq_zero_or_pos (i - xs.length) with h0 | h0
      · rw [h0] at hy
        simp only [List.getElem?_cons_zero,Option.some.injEq] at hy
        rw [← hy,show i=n by omega]; exact hx
      · rw [List.getElem?_eq_none (by simp; omega)] at hy; cases hy
section
variable {H : Type} {enc : TypeId × Value→H} {P : Program} {w : World} {base : Nat} {held : Bool}
theorem rng_wf {k : IntKind} {z : Int} (h : (Lit.int k z).wf=true) : rng k z := by
  rw [rng_iff]
  simp only [Lit.wf,Bool.and_eq_true,decide_eq_true_eq] at h
  exact h
theorem in_of_trod : ∀ (n : Nat) (t : TypeId) (fuel : Nat) (vs : List Value) (x : DataW H × List MemPlace),supp P n t=true→DataW.trod enc P w base (fun _ => true) held fuel t vs=some x →
    ∃ cs,Sh P n t cs∧allOne cs=true∧CVl (pinAll w) cs noNm vs
  | 0,t,_,_,_,hs,_ => by simp [supp] at hs
  | n + 1,t,fuel,vs,x,hs,h => by
    unfold supp at hs
    unfold Sh
    split at hs
    · next ht =>
      obtain ⟨b,rfl,_⟩ := DataW.trod_bool ht h
      exact ⟨[.bool b],⟨b,rfl⟩,rfl,_,_,rfl,rfl,rfl⟩
    · next k ht =>
      obtain ⟨z,rfl,_,hw⟩ := DataW.trod_int ht h
      exact ⟨[.int k z],⟨z,rng_wf hw,rfl⟩,rfl,_,_,rfl,⟨rfl,rng_wf hw⟩,rfl⟩
    · next ht =>
      obtain ⟨s,rfl,_,hw⟩ := DataW.trod_string ht h
      exact ⟨[.str s],⟨s,hw,rfl⟩,rfl,_,_,rfl,⟨rfl,hw⟩,rfl⟩
    · next e ht =>
      simp only [Bool.and_eq_true] at hs
      have hs0 : 0 < P.cellsOf e := by have := hs.1; simp [Nat.blt] at this; omega
      rcases DataW.trod_slice ht h with ⟨rfl,_⟩ | ⟨a,len,cap,elems,rest,m,_,rfl,_,hb,hl,hc,hlen,hel,hsp,hns⟩
      · refine ⟨[.sl (P.cellsOf e) false []],⟨[],by simp,by simp,rfl⟩,rfl,_,_,rfl,⟨none,0,rfl,by simp,by simp,(fun h => by cases h),(fun _ => rfl),(fun a ha => by cases ha)⟩,rfl⟩
      · have each : ∀ i,i < len→∃ x,(Sh P n e x)∧∃ cs',w.cells? base (a.add (i * P.cellsOf e)) (P.cellsOf e)=some cs'∧allOne x=true∧CVl (pinAll w) x noNm cs' := by
          intro i hi
          have h1 := hel i hi
          have hx : elems[i]?=some (elems[i]'(by omega)) := List.getElem?_eq_getElem (by omega)
          rw [hx,Option.bind_eq_some_iff] at h1
          obtain ⟨cs',h2,h3⟩ := h1
          obtain ⟨y,k1,k2,k3⟩ := in_of_trod n e m cs' _ hs.2 h3
          exact ⟨y,k1,cs',h2,k2,k3⟩
        obtain ⟨xs,hx1,hx2⟩ := list_of len each
        have hmem : ∀ x ∈ xs,Sh P n e x := by
          intro x hx
          obtain ⟨i,hi⟩ := List.getElem?_of_mem hx
          exact (hx2 i x hi).1
        refine ⟨[.sl (P.cellsOf e) false xs],⟨xs,by unfold maxLen at hc; omega,hmem,rfl⟩,rfl,_,_,rfl,⟨some a,cap,by rw [hx1],by omega,hc,(fun h => by cases h),(fun h => by cases h),fun a' ha => ?_⟩,rfl⟩
        cases ha
        have key : ∀ (j : Nat) (x : List AV),xs[j]?=some x→∃ cs' : List Value,cs'.length=P.cellsOf e∧CVl (pinAll w) x noNm cs'∧allOne x=true∧∀ i,i < P.cellsOf e→w.cell? ((a.add (j * P.cellsOf e)).add i)=cs'[i]? := by
          intro j x hj
          obtain ⟨_,cs',h2,h3,h4⟩ := hx2 j x hj
          obtain ⟨_,q1,q2⟩ := World.cells?_some h2
          exact ⟨cs',q1,h4,h3,q2⟩
        have spot : cap≠0→a.spot=none := by
          intro h0
          have h1 : ∃ cs',w.cells? base (a.add (0 * P.cellsOf e)) (P.cellsOf e)=some cs' := by
            rcases Nat.eq_zero_or_pos len with hl0 | hl0
            · obtain ⟨hr,hr2⟩ := hsp rfl
              have h1 := hr2 0 (by omega)
              have hx : rest[0]?=some (rest[0]'(by omega)) := List.getElem?_eq_getElem (by omega)
              rw [hx,Option.bind_eq_some_iff] at h1
              obtain ⟨cs',h2,_⟩ := h1
              exact ⟨cs',by rw [← h2,hl0]⟩
            · have h1 := hel 0 hl0
              have hx : elems[0]?=some (elems[0]'(by omega)) := List.getElem?_eq_getElem (by omega)
              rw [hx,Option.bind_eq_some_iff] at h1
              obtain ⟨cs',h2,_⟩ := h1
              exact ⟨cs',h2⟩
          obtain ⟨cs',h2⟩ := h1
          obtain ⟨_,q1,q2⟩ := World.cells?_some h2
          have h3 := q2 0 hs0
          rw [List.getElem?_eq_getElem (by omega)] at h3
          have h4 := World.cell?_spot h3
          simpa [Addr.add] using h4
        refine ⟨spot,CE.mk fun j x hj => ?_⟩
        obtain ⟨cs',k1,k2,k3,k4⟩ := key j x hj
        have hxl : x.length=P.cellsOf e := by rw [← k1]; exact (CVl.len k2).symm
        refine ⟨hxl,CC.mk fun i y hy => ?_⟩
        obtain ⟨u,hu,hcv⟩ := CVl.get k2 hy
        have hi : i < P.cellsOf e := by have := (List.getElem?_eq_some_iff.1 hy).1; omega
        have hj' : j < len := by have := (List.getElem?_eq_some_iff.1 hj).1; omega
        have hsp := spot (by omega)
        obtain ⟨b,o,sp⟩ := a
        simp only at hsp
        subst hsp
        have h5 := k4 i hi
        rw [add_none,add_none,hu] at h5
        exact ⟨u,pinAll_some h5 (allOne_cv k2 k3 u (List.mem_of_getElem? hu)),hcv⟩
    · next fs ht =>
      simp only [Bool.and_eq_true,List.all_eq_true] at hs
      obtain ⟨xs,m,_,_,hl,hxl,hf⟩ := DataW.trod_struct ht h
      obtain ⟨cs,k1,k2,k3⟩ := shF_of (S := pinAll w) (sh := Sh P n) (vs := vs) fs.toList 0 _ hs.1 hl (fun f hfm => by
        obtain ⟨i,hi⟩ := List.getElem?_of_mem hfm
        have h1 := hf i f (by simpa using hi)
        have hi' : i < fs.size := by have := (List.getElem?_eq_some_iff.1 hi).1; simpa using this
        rw [List.getElem?_eq_getElem (by omega : i < xs.length)] at h1
        exact in_of_trod n f.type m _ _ (hs.2 f hfm) h1)
      exact ⟨cs,k1,k2,by simpa using k3⟩
    · next m e ht =>
      simp only [Bool.and_eq_true] at hs
      obtain ⟨xs,q,_,_,hl,hxl,hf⟩ := DataW.trod_array ht h
      have hsz := Nat.eq_of_beq_eq_true hs.1
      exact shE_of (S := pinAll w) (sh := Sh P n e) (s := P.cellsOf e) m vs (by omega) (fun i hi => by
        have h1 := hf i hi
        rw [List.getElem?_eq_getElem (by omega : i < xs.length)] at h1
        exact in_of_trod n e q _ _ hs.2 h1)
    · cases hs
def mkA (P : Program) (t : TypeId) (cs : List AV) : AV := cond (isAg P t) (.agg cs) (match cs with | [x] => x | _ => .dead)
def ShAll (P : Program) : List TypeId→(List AV→Prop)→Prop
  | [],K => K []
  | t :: ts,K => ∀ cs,Sh P 50 t cs→ShAll P ts fun xs => K (mkA P t cs :: xs)
theorem in_one {r : Reach} {b0 n : Nat} {t : TypeId} {v : Value} {fuel : Nat} {x : DataW H × List MemPlace} (hs : supp P n t=true) (hv : Value.okWide P w r b0 t v) (h : DataW.trod enc P w base (fun _ => true) held fuel t v.cells.toList=some x) :
    ∃ cs,Sh P n t cs∧CV (pinAll w) (mkA P t cs) noNm v := by
  obtain ⟨cs,h1,h2,h3⟩ := in_of_trod n t fuel _ x hs h
  refine ⟨cs,h1,?_⟩
  have one : isAg P t=false→v.cells=#[v]→CV (pinAll w) (mkA P t cs) noNm v := by
    intro ha hc
    rw [hc] at h3
    unfold mkA
    rw [ha]
    match cs,h3 with
    | [y],h3 =>
      simp only [CVl] at h3
      obtain ⟨u,us,e,hy,hn⟩ := h3
      simp at e
      rw [e.1]; exact hy
    | [],h3 => simp [CVl] at h3
    | _ :: _ :: _,h3 =>
      simp [CVl] at h3
      obtain ⟨u,us,⟨_,e⟩,_,u',us',e',_⟩ := h3
      rw [e] at e'; cases e'
  have agg : isAg P t=true→∀ us,v=.agg us→CV (pinAll w) (mkA P t cs) noNm v := by
    intro ha us e
    subst e
    unfold mkA
    rw [ha]
    exact ⟨us,rfl,h3⟩
  unfold Value.okWide at hv
  cases n with
  | zero => simp [supp] at hs
  | succ n =>
    unfold supp at hs
    split at hs
    · next ht =>
      rw [ht] at hv
      simp only [Cell.okWide,Cell.ok,ht] at hv
      refine one (by unfold isAg; rw [ht]) ?_
      split at hv <;> first | rfl | (split at hv <;> first | rfl | cases hv) | cases hv
    · next k ht =>
      rw [ht] at hv
      simp only [Cell.okWide,Cell.ok,ht] at hv
      refine one (by unfold isAg; rw [ht]) ?_
      split at hv <;> first | rfl | (split at hv <;> first | rfl | cases hv) | cases hv
    · next ht =>
      rw [ht] at hv
      simp only [Cell.okWide,Cell.ok,ht] at hv
      refine one (by unfold isAg; rw [ht]) ?_
      split at hv <;> first | rfl | (split at hv <;> first | rfl | cases hv) | cases hv
    · next e ht =>
      rw [ht] at hv
      simp only [Cell.okWide,Cell.ok,ht] at hv
      refine one (by unfold isAg; rw [ht]) ?_
      split at hv <;> first | rfl | (split at hv <;> first | rfl | cases hv) | cases hv
    · next fs ht =>
      rw [ht] at hv
      obtain ⟨us,e,_⟩ := hv
      exact agg (by unfold isAg; rw [ht]) us e
    · next m e ht =>
      rw [ht] at hv
      obtain ⟨us,e,_⟩ := hv
      exact agg (by unfold isAg; rw [ht]) us e
    · cases hs
theorem in_all {r : Reach} {b0 : Nat} : ∀ (ts : List TypeId) (vs : List Value) (ds : List (DataW H)) (ps : List MemPlace) (K : List AV→Prop),(ts.all fun t => supp P 50 t)=true→DataW.TrodAll enc P w base (fun _ => true) held ts vs ds ps →
    (∀ (j : Nat) t v,ts[j]?=some t→vs[j]?=some v→Value.okWide P w r b0 t v)→ShAll P ts K→∃ xs,K xs∧CVl (pinAll w) xs noNm vs
  | [],[],[],ps,K,_,h,_,hK => ⟨[],hK,by simp only [CVl]⟩
  | t :: ts,v :: vs,d :: ds,ps,K,hs,h,hv,hK => by
    simp only [List.all_cons,Bool.and_eq_true] at hs
    obtain ⟨p,q,⟨fuel,h1⟩,h2,_⟩ := h
    obtain ⟨cs,k1,k2⟩ := in_one hs.1 (hv 0 t v rfl rfl) h1
    obtain ⟨xs,q1,q2⟩ := in_all ts vs ds q (fun xs => K (mkA P t cs :: xs)) hs.2 h2 (fun j t v ht hv' => hv (j + 1) t v (by simpa using ht) (by simpa using hv')) (hK cs k1)
    exact ⟨_,q1,by simp only [CVl]; exact ⟨v,vs,rfl,k2,q2⟩⟩
  | [],v :: vs,ds,ps,K,_,h,_,_ => by cases ds <;> simp [DataW.TrodAll] at h
  | [],[],d :: ds,ps,K,_,h,_,_ => by simp [DataW.TrodAll] at h
  | t :: ts,[],ds,ps,K,_,h,_,_ => by cases ds <;> simp [DataW.TrodAll] at h
  | t :: ts,v :: vs,[],ps,K,_,h,_,_ => by simp [DataW.TrodAll] at h
theorem law_calls {gl : Glob} {f : FuncId} {r : Reach} {b0 : Nat} {ts : List TypeId} {args : Array Value} {ds : List (DataW H)} {ps : List MemPlace} (hs : (ts.all fun t => supp P 50 t)=true) (hg : GOKg gl (pinAll w))
    (h : ShAll P ts fun xs => PureC P gl f xs (.bool true)) (hA : DataW.TrodAll enc P w base (fun _ => true) held ts args.toList ds ps)
    (hv : ∀ (j : Nat) t v,ts[j]?=some t→args.toList[j]?=some v→Value.okWide P w r b0 t v) :
    Calls P f args w fun e w' => e=.returned (.bool true)∧Below w.heap.size w w' := by
  obtain ⟨xs,h1,h2⟩ := in_all ts _ ds ps _ hs hA hv h
  refine (h1 w (pinAll w) args hg (agree_all w) h2).mono fun e w' h => ?_
  obtain ⟨u,S',h3,h4,_,_,_,h5⟩ := h
  simp only [CV] at h5
  exact ⟨by rw [h3,h5],h4⟩
theorem trodAll_stay (hl : laidOutB P=true) {w' : World} (hb : Below w.heap.size w w') : ∀ (ts : List TypeId) (vs : List Value) (ds : List (DataW H)) (ps : List MemPlace),(ts.all fun t => P.readableRec t && decide (t < P.types.size))=true →
    DataW.TrodAll enc P w 0 (fun _ => true) true ts vs ds ps→DataW.TrodAll enc P w' 0 (fun b => decide (b < w.heap.size)) true ts vs ds ps
  | [],[],[],ps,_,h => h
  | t :: ts,v :: vs,d :: ds,ps,hs,h => by
    simp only [List.all_cons,Bool.and_eq_true,decide_eq_true_eq] at hs
    obtain ⟨p,q,h1,h2,h3⟩ := h
    have hlt : ∀ x ∈ p,x.block < w.heap.size := by obtain ⟨m,hm⟩ := h1; exact DataW.trod_lt m _ _ _ hm
    exact ⟨p,q,Below.trod hl hs.1.1 hs.1.2 h1 hb hlt,trodAll_stay hl hb ts vs ds q hs.2 h2,h3⟩
  | [],v :: vs,ds,ps,_,h => by cases ds <;> simp [DataW.TrodAll] at h
  | [],[],d :: ds,ps,_,h => by simp [DataW.TrodAll] at h
  | t :: ts,[],ds,ps,_,h => by cases ds <;> simp [DataW.TrodAll] at h
  | t :: ts,v :: vs,[],ps,_,h => by simp [DataW.TrodAll] at h
def suppG (P : Program) : Nat→TypeId→Bool
  | 0,_ => false
  | n + 1,t => match P.underlying t with
    | some .bool => true
    | some (.int _) => true
    | some .string => true
    | some (.struct fs) => tiles P fs.toList 0 (P.cellsOf t) && fs.toList.all fun f => suppG P n f.type
    | some (.array m e) => Nat.beq (m * P.cellsOf e) (P.cellsOf t) && suppG P n e
    | _ => false
mutual
def flatD : DataW H→List AV
  | .lit (.bool b) => [.bool b]
  | .lit (.int k z) => [.int k z]
  | .lit (.string l) => [.str ⟨l.toArray⟩]
  | .agg ds => flatDs ds
  | _ => [.dead]
def flatDs : List (DataW H)→List AV
  | [] => []
  | d :: ds => flatD d ++ flatDs ds
end
theorem flatF {S : Pin} {vs : List Value} : ∀ (fs : List Field) (ds : List (DataW H)) (o tot : Nat),tiles P fs o tot=true→vs.length=tot→ds.length=fs.length →
    (∀ (i : Nat) (f : Field) (d : DataW H),fs[i]?=some f→ds[i]?=some d→CVl S (flatD d) noNm ((vs.drop f.offset).take (P.cellsOf f.type)))→CVl S (flatDs ds) noNm (vs.drop o)
  | [],[],o,tot,ht,hl,_,_ => by
    simp only [tiles] at ht
    have := Nat.eq_of_beq_eq_true ht
    simp only [flatDs,CVl]; exact List.drop_eq_nil_of_le (by omega)
  | f :: fs,d :: ds,o,tot,ht,hl,hd,h => by
    simp only [tiles,Bool.and_eq_true] at ht
    obtain ⟨ho,ht⟩ := ht
    have ho := Nat.eq_of_beq_eq_true ho
    have h1 := h 0 f d rfl rfl
    have h2 := flatF fs ds _ tot ht hl (by simpa using hd) (fun i g d' hg hd' => h (i + 1) g d' (by simpa using hg) (by simpa using hd'))
    rw [ho] at h1
    have e : vs.drop o=(vs.drop o).take (P.cellsOf f.type) ++ vs.drop (o + P.cellsOf f.type) := by
      rw [← List.drop_drop]; exact (List.take_append_drop _ _).symm
    rw [e]
    simp only [flatDs]
    exact CVl.append h1 h2
  | [],_ :: _,_,_,_,_,hd,_ => by simp at hd
  | _ :: _,[],_,_,_,_,hd,_ => by simp at hd
theorem flatE {S : Pin} {s : Nat} : ∀ (ds : List (DataW H)) (vs : List Value),vs.length=ds.length * s→(∀ (i : Nat) (d : DataW H),ds[i]?=some d→CVl S (flatD d) noNm ((vs.drop (i * s)).take s))→CVl S (flatDs ds) noNm vs
  | [],vs,hl,_ => by simp only [flatDs,CVl]; exact List.eq_nil_of_length_eq_zero (by simpa using hl)
  | d :: ds,vs,hl,h => by
    have h1 := h 0 d rfl
    have hl' : vs.length=ds.length * s + s := by rw [hl,List.length_cons,Nat.succ_mul]
    have h2 := flatE (S := S) (s := s) ds (vs.drop s) (by rw [List.length_drop]; omega) (fun i d' hd => by
      have := h (i + 1) d' (by simpa using hd)
      rw [List.drop_drop,show s + i * s=(i + 1) * s by rw [Nat.succ_mul]; omega]
      exact this)
    rw [Nat.zero_mul,List.drop_zero] at h1
    have e : vs=vs.take s ++ vs.drop s := (List.take_append_drop _ _).symm
    rw [e]
    simp only [flatDs]
    exact CVl.append h1 h2
theorem flat_of_trod {S : Pin} {spare : Nat→Bool} : ∀ (n : Nat) (t : TypeId) (fuel : Nat) (vs : List Value) (x : DataW H × List MemPlace),suppG P n t=true→DataW.trod enc P w base spare held fuel t vs=some x→CVl S (flatD x.1) noNm vs
  | 0,t,_,_,_,hs,_ => by simp [suppG] at hs
  | n + 1,t,fuel,vs,x,hs,h => by
    unfold suppG at hs
    split at hs
    · next ht =>
      obtain ⟨b,rfl,rfl⟩ := DataW.trod_bool ht h
      exact ⟨_,_,rfl,rfl,rfl⟩
    · next k ht =>
      obtain ⟨z,rfl,rfl,hw⟩ := DataW.trod_int ht h
      exact ⟨_,_,rfl,⟨rfl,rng_wf hw⟩,rfl⟩
    · next ht =>
      obtain ⟨s,rfl,rfl,hw⟩ := DataW.trod_string ht h
      exact ⟨_,_,rfl,⟨by simp,by simpa using hw⟩,rfl⟩
    · next fs ht =>
      simp only [Bool.and_eq_true,List.all_eq_true] at hs
      obtain ⟨xs,m,_,rfl,hl,hxl,hf⟩ := DataW.trod_struct ht h
      have := flatF (S := S) (vs := vs) fs.toList (xs.map (·.1)) 0 _ hs.1 hl (by simpa using hxl) (fun i f d hi hd => by
        have h1 := hf i f (by simpa using hi)
        rw [List.getElem?_map] at hd
        cases hx : xs[i]? with
        | none => rw [hx] at hd; cases hd
        | some y =>
          rw [hx] at hd h1
          simp only [Option.map_some,Option.some.injEq] at hd
          subst hd
          exact flat_of_trod n f.type m _ _ (hs.2 f (List.mem_of_getElem? hi)) h1)
      simpa [flatD] using this
    · next m e ht =>
      simp only [Bool.and_eq_true] at hs
      obtain ⟨xs,q,_,rfl,hl,hxl,hf⟩ := DataW.trod_array ht h
      have hsz := Nat.eq_of_beq_eq_true hs.1
      have := flatE (S := S) (s := P.cellsOf e) (xs.map (·.1)) vs (by simp only [List.length_map]; rw [hxl]; omega) (fun i d hd => by
        rw [List.getElem?_map] at hd
        cases hx : xs[i]? with
        | none => rw [hx] at hd; cases hd
        | some y =>
          have hi : i < m := by have := (List.getElem?_eq_some_iff.1 hx).1; omega
          have h1 := hf i hi
          rw [hx] at hd h1
          simp only [Option.map_some,Option.some.injEq] at hd
          subst hd
          exact flat_of_trod n e q _ _ hs.2 h1)
      simpa [flatD] using this
    · cases hs
end
theorem intsA_of {xs : List (List AV)} (h : ∀ x ∈ xs,∃ z,rng .i64 z∧x=[.int .i64 z]) : IntsA xs := fun x hx => by
  obtain ⟨z,h1,h2⟩ := h x hx
  exact ⟨z,h2,h1⟩
theorem glob_cells {W : World} {g : Nat} {cs : Array Value} {az : List AV} (hc : ∀ i,W.cell? ⟨g,i,none⟩=cs[i]?) (h : CVl (pinAll W) az noNm cs.toList) (h1 : allOne az=true) : CC (pinAll W) az g 0 := by
  refine CC.mk fun j x hx => ?_
  obtain ⟨u,hu,hcv⟩ := CVl.get h hx
  have h2 := hc j
  rw [show cs[j]?=some u by simpa using hu] at h2
  rw [Nat.zero_add]
  exact ⟨u,pinAll_some h2 (allOne_cv h h1 u (List.mem_of_getElem? hu)),hcv⟩
end Go.Proofs.YtgnnafneglannaaDoor
