import Derived.Test.YtgbbmadjdaphnaaGreatDoorTTf
import Derived.Test.YtgbbmadjdaphnaaGreatDoorTTe
import Derived.OrdersIn
set_option maxRecDepth 100000
set_option linter.defProp false
set_option linter.unusedVariables false
set_option linter.unusedSimpArgs false
namespace Go.Proofs.YtgbbmadjdaphnaaGreatDoor
open Go
structure U8P (r:List AV):Prop where
 eq:r=[.int .u8 (nI r 0)]
 lo:0≤nI r 0
 hi:nI r 0≤255
structure ChsP (xs:LL) (p:Int):Prop where
 el:∀ r ∈ xs,U8P r
 ln:xs.length≤600
 lo:0≤p
 hi:p≤xs.length
def nxV (xs:LL) (p n:Int):Int:=if p < xs.length∧1≤n then (nI (xs.getD p.toNat []) 0).tmod n else 0
def nxA (xs:LL) (p n:Int):Int:=if p < xs.length∧1≤n then p+1 else p
theorem ChsP.row {xs:LL} {p:Int} (h:ChsP xs p) (q:p < xs.length):U8P (xs.getD p.toNat []):=by
 have:=h.lo
 refine h.el _ ?_
 rw [aB,aD (by omega)]
 exact List.getElem_mem _
theorem kM {xs:LL} {p n:Int} (h:ChsP xs p) (hn:1≤n):0≤nxV xs p n∧nxV xs p n < n:=by
 unfold nxV
 split
 ·rename_i q
  have hr:=h.row q.1
  rw [Int.tmod_eq_emod_of_nonneg hr.lo]
  exact ⟨Int.emod_nonneg _ (by omega),Int.emod_lt_of_pos _ (by omega)⟩
 ·omega
theorem dD {xs:LL} {p:Int} (h:ChsP xs p) (n:Int):ChsP xs (nxA xs p n):=by
 have h1:=h.lo
 have h2:=h.hi
 refine ⟨h.el,h.ln,?_,?_⟩ <;> unfold nxA <;> split <;> omega
theorem aLi {z m:Int} (hm:0≤m):-m≤z.tmod (m+1)∧z.tmod (m+1)≤m:=by
 have h1:=Int.natAbs_tmod z (m+1)
 have h2:=Nat.mod_lt z.natAbs (y:=(m+1).natAbs) (by omega)
 omega
def aBJ:SpH
 | [.ptr 0 0],[.cells [.sl 1 g xs,.int .i64 p]]=>some (True,.bool (decide (p < xs.length)),[.cells [.sl 1 g xs,.int .i64 p]])
 | _,_=>none
def aBK:Prop :=
 ∀ (gl:aX) (p:Int) (g:Bool) (xs:LL),True->True->IR9 p->decide (p < (↑xs.length:Int))=decide (p < (↑xs.length:Int))∧(((bif g then g=true else True)∧xs=xs)∧p=p∧True)∧True
theorem aO8:aBK:=by
 unfold aBK
 intro gl p g xs
 intros
 have g1:cond g (g=true) True:=gg g
 (repeat' (first | exact trivial | exact rfl | assumption | apply And.intro))
theorem aO7:aBK=(∀ (gl:aX) (p:Int) (g:Bool) (xs:LL),fnH Tryz.prog { glob:=gl,spec:=lk [],specH:=lk [],nowf:=true } { nt:=13,drop:=drp [(1,8184)],fr:=1000,kp:=[0] } (λ _ _=>none) 6 Tryz.f100 [.ptr 0 0] [.cells [.sl 1 g xs,.int .i64 p]] (.bool (decide (p < xs.length))) [.cells [.sl 1 g xs,.int .i64 p]]):=by kernel_rfl
def aO6:=Eq.mp (aO7 ..) (aO8)
theorem aKZ (gl:aX):HOK Tryz.prog gl 100 aBJ:=by
 refine ⟨fok Tryz.func100 (by kernel_rfl) (by kernel_rfl),?_⟩
 intro xs bs pre r bs2 h hp
 unfold aBJ at h
 split at h
 ·cases h
  exact bC bD (by exact aV rfl rfl trivial trivial) (by kernel_rfl) Tryz.func100 (aO6 gl _ _ _)
 ·cases h
def kP:SpH
 | [.ptr 0 0,.int .i64 n],[.cells [.sl 1 g xs,.int .i64 p]]=>some (ChsP xs p,.int .i64 (nxV xs p n),[.cells [.sl 1 g xs,.int .i64 (nxA xs p n)]])
 | _,_=>none
def aBI:Prop :=
 ∀ (gl:aX) (p n:Int) (g:Bool) (xs:LL),ChsP xs p->True->IR9 n->True->IR9 p->True∧bif !decide (p < (↑xs.length:Int)) then (0:Int)=nxV xs p n∧(((bif g then g=true else True)∧xs=xs)∧p=nxA xs p n∧True)∧True else bif decide (n < (1:Int)) then (0:Int)=nxV xs p n∧(((bif g then g=true else True)∧xs=xs)∧p=nxA xs p n∧True)∧True else bif decide (rng IntKind.i64 (p+(1:Int))) then bif decide (rng IntKind.i64 (p+(1:Int) - (1:Int))) then bif decide (0≤p+(1:Int) - (1:Int)∧p+(1:Int) - (1:Int) < (↑xs.length:Int)) then ∃ n_1,List.take [AV.int IntKind.u8 n_1].length (xs.getD (p+(1:Int) - (1:Int)).toNat [])=[AV.int IntKind.u8 n_1]∧bif decide ¬n=(0:Int) then n_1.tmod n=nxV xs p n∧(((bif g then g=true else True)∧xs=xs)∧p+(1:Int)=nxA xs p n∧True)∧True else False else False else False else False
theorem aO4:aBI:=by
 unfold aBI
 intro gl p n g xs h
 intros
 have g1:cond g (g=true) True:=gg g
 have h0:=h.lo
 have h1:=h.hi
 have h2:=h.ln
 refine ⟨trivial,dJ (λ q=>?_) (λ q=>?_)⟩
 ·have q:¬ p < xs.length:=by simpa using q
  have e1:0=nxV xs p n:=(if_neg (λ e=>q e.1)).symm
  have e2:p=nxA xs p n:=(if_neg (λ e=>q e.1)).symm
  (repeat' (first | exact trivial | exact rfl | assumption | apply And.intro))
 ·have q:p < xs.length:=by simpa using q
  refine csp (λ q2=>?_) (λ q2=>?_)
  ·have e1:0=nxV xs p n:=(if_neg (λ e=>by omega)).symm
   have e2:p=nxA xs p n:=(if_neg (λ e=>by omega)).symm
   (repeat' (first | exact trivial | exact rfl | assumption | apply And.intro))
  ·have e1:(nI (xs.getD p.toNat []) 0).tmod n=nxV xs p n:=(if_pos ⟨q,by omega⟩).symm
   have e2:p+1=nxA xs p n:=(if_pos ⟨q,by omega⟩).symm
   have hr:=(h.row q).eq
   have ep:p+1 - 1=p:=by omega
   rw [ep]
   refine cdI (by omega) (cdI (by omega) (cd1 (by omega) ⟨nI (xs.getD p.toNat []) 0,?_,cd1 (by omega) (by repeat' first|exact trivial|exact rfl|assumption|apply And.intro)⟩))
   exact (congrArg (List.take 1) hr).trans rfl
theorem aO3:aBI=(∀ (gl:aX) (p n:Int) (g:Bool) (xs:LL),ChsP xs p->fnH Tryz.prog { glob:=gl,spec:=lk [],specH:=lk [(100,aBJ)],shape:=[29],nowf:=true } { nt:=33,drop:=drp [(1,2016),(3,520192),(4,8589410304)],fr:=1000,kp:=[0] } (λ _ _=>none) 6 Tryz.f48 [.ptr 0 0,.int .i64 n] [.cells [.sl 1 g xs,.int .i64 p]] (.int .i64 (nxV xs p n)) [.cells [.sl 1 g xs,.int .i64 (nxA xs p n)]]):=by kernel_rfl
def aO2:=Eq.mp (aO3 ..) (aO4)
theorem mA (gl:aX):HOK Tryz.prog gl 48 kP:=by
 refine ⟨fok Tryz.func48 (by kernel_rfl) (by kernel_rfl),?_⟩
 intro xs bs pre r bs2 h hp
 unfold kP at h
 split at h
 ·cases h
  exact bC bD (by exact aV rfl rfl trivial ⟨(aKZ gl),trivial⟩) (by kernel_rfl) Tryz.func48 (aO2 gl _ _ _ _ hp)
 ·cases h
def sgN (a b c m:Int):Int:=(bits .or .i64 (bits .or .i64 (a*65536) (b*256)) c).tmod (m+1)
def sgP (xs:LL) (p:Int):Int:=nxA xs (nxA xs (nxA xs p 256) 256) 256
def sgX (xs:LL) (p m:Int):Int:=sgN (nxV xs p 256) (nxV xs (nxA xs p 256) 256) (nxV xs (nxA xs (nxA xs p 256) 256) 256) m
def sgV (xs:LL) (p m:Int):Int:=if nxV xs (sgP xs p) 2=1 then -sgX xs p m else sgX xs p m
def sgA (xs:LL) (p:Int):Int:=nxA xs (sgP xs p) 2
theorem aUD {xs:LL} {p m:Int} (hm:0≤m):-m≤sgV xs p m∧sgV xs p m≤m:=by
 have:-m≤sgX xs p m∧sgX xs p m≤m:=aLi hm
 unfold sgV
 split <;> omega
theorem nQ {xs:LL} {p:Int} (h:ChsP xs p):ChsP xs (sgA xs p):=dD (dD (dD (dD h _) _) _) _
def aHQ (nxV:LL->Int->Int->Int) (nxA:LL->Int->Int->Int):SpH
 | [.ptr 0 0,.int .i64 m],[.cells [.sl 1 g xs,.int .i64 p]]=>some (ChsP xs p∧0≤m∧m≤1000000000,.int .i64 (sgV xs p m),[.cells [.sl 1 g xs,.int .i64 (sgA xs p)]])
 | _,_=>none
abbrev aDa (xs:LL) (p:Int):=(bits BinOp.or IntKind.i64 (bits BinOp.or IntKind.i64 (YtgbbmadjdaphnaaGreatDoor.nxV xs p 256*(65536:Int)) (YtgbbmadjdaphnaaGreatDoor.nxV xs (YtgbbmadjdaphnaaGreatDoor.nxA xs p 256) 256*(256:Int))) (YtgbbmadjdaphnaaGreatDoor.nxV xs (YtgbbmadjdaphnaaGreatDoor.nxA xs (YtgbbmadjdaphnaaGreatDoor.nxA xs p 256) 256) 256))
abbrev zH (xs:LL) (p:Int):=(YtgbbmadjdaphnaaGreatDoor.nxA xs (YtgbbmadjdaphnaaGreatDoor.nxA xs (YtgbbmadjdaphnaaGreatDoor.nxA xs p 256) 256) 256)
def aHR (nxV:LL->Int->Int->Int) (nxA:LL->Int->Int->Int):Prop :=
 ∀ (gl:aX) (p m:Int) (g:Bool) (xs:LL),ChsP xs p∧0≤m∧m≤(1000000000:Int)->True->IR9 m->True->IR9 p->ChsP xs p∧bif decide (rng IntKind.i64 (YtgbbmadjdaphnaaGreatDoor.nxV xs p 256*(65536:Int))) then ChsP xs (YtgbbmadjdaphnaaGreatDoor.nxA xs p 256)∧bif decide (rng IntKind.i64 (YtgbbmadjdaphnaaGreatDoor.nxV xs (YtgbbmadjdaphnaaGreatDoor.nxA xs p 256) 256*(256:Int))) then ChsP xs (YtgbbmadjdaphnaaGreatDoor.nxA xs (YtgbbmadjdaphnaaGreatDoor.nxA xs p 256) 256)∧bif decide (rng IntKind.i64 (m+(1:Int))) then bif decide ¬m+(1:Int)=(0:Int) then ChsP xs (zH xs p)∧bif decide (YtgbbmadjdaphnaaGreatDoor.nxV xs (zH xs p) 2=(1:Int)) then bif decide (rng IntKind.i64 ((0:Int) - (aDa xs p).tmod (m+(1:Int)))) then (0:Int) - (aDa xs p).tmod (m+(1:Int))=sgV xs p m∧(((bif g then g=true else True)∧xs=xs)∧YtgbbmadjdaphnaaGreatDoor.nxA xs (zH xs p) 2=sgA xs p∧True)∧True else False else (aDa xs p).tmod (m+(1:Int))=sgV xs p m∧(((bif g then g=true else True)∧xs=xs)∧YtgbbmadjdaphnaaGreatDoor.nxA xs (zH xs p) 2=sgA xs p∧True)∧True else False else False else False else False
theorem aTA:aHR nxV nxA:=by
 unfold aHR
 delta aDa zH
 intro gl p m g xs ⟨h,m0,m1⟩
 intros
 have g1:cond g (g=true) True:=gg g
 have h1:=dD h 256
 have h2:=dD h1 256
 have h3:=dD h2 256
 have b0:=kM h (n:=256) (by decide)
 have b1:=kM h1 (n:=256) (by decide)
 have hX:-m≤sgX xs p m∧sgX xs p m≤m:=aLi m0
 have eX:sgX xs p m=(bits .or .i64 (bits .or .i64 (nxV xs p 256*65536) (nxV xs (nxA xs p 256) 256*256)) (nxV xs (nxA xs (nxA xs p 256) 256) 256)).tmod (m+1):=rfl
 refine ⟨h,cdI (by omega) ⟨h1,cdI (by omega) ⟨h2,cdI (by omega) (cd1 (by omega) ⟨h3,?_⟩)⟩⟩⟩
 rw [← eX]
 refine csp (λ q=>cdI (by omega) ?_) (λ q=>?_)
 ·have e:0 - sgX xs p m=sgV xs p m:=by rw [show sgV xs p m=-sgX xs p m from if_pos q]; omega
  (repeat' (first | exact trivial | exact rfl | assumption | apply And.intro))
 ·have e:sgX xs p m=sgV xs p m:=(if_neg q).symm
  (repeat' (first | exact trivial | exact rfl | assumption | apply And.intro))
theorem aTz (nxV:LL->Int->Int->Int) (nxA:LL->Int->Int->Int):aHR nxV nxA=(∀ (gl:aX) (p m:Int) (g:Bool) (xs:LL),ChsP xs p∧0≤m∧m≤1000000000->fnH Tryz.prog { glob:=gl,spec:=lk [],specH:=lk [(48,kP)],nowf:=true } { nt:=25,drop:=drp [(1,524224),(2,1572864),(3,12582912),(4,16777216)],fr:=1000,kp:=[0] } (λ _ _=>none) 6 Tryz.f99 [.ptr 0 0,.int .i64 m] [.cells [.sl 1 g xs,.int .i64 p]] (.int .i64 (sgV xs p m)) [.cells [.sl 1 g xs,.int .i64 (sgA xs p)]]):=by kernel_rfl
def aTy:=Eq.mp (aTz ..) (aTA)
theorem aOX (gl:aX):HOK Tryz.prog gl 99 (aHQ nxV nxA):=by
 refine ⟨fok Tryz.func99 (by kernel_rfl) (by kernel_rfl),?_⟩
 intro xs bs pre r bs2 h hp
 unfold aHQ at h
 split at h
 ·cases h
  exact bC bD (by exact aV rfl rfl trivial ⟨(mA gl),trivial⟩) (by kernel_rfl) Tryz.func99 (aTy gl _ _ _ _ hp)
 ·cases h
def aBG (nxV:LL->Int->Int->Int) (nxA:LL->Int->Int->Int):SpH
 | [.ptr 0 0],[.cells [.sl 1 g xs,.int .i64 p]]=>some (ChsP xs p,.agg [.int .i64 (1+nxV xs p 4),.int .i64 (1+nxV xs (nxA xs p 4) 4),.int .i64 (1+nxV xs (nxA xs (nxA xs p 4) 4) 4)],[.cells [.sl 1 g xs,.int .i64 (nxA xs (nxA xs (nxA xs p 4) 4) 4)]])
 | _,_=>none
abbrev qW (xs:LL) (p:Int):=(YtgbbmadjdaphnaaGreatDoor.nxA xs (YtgbbmadjdaphnaaGreatDoor.nxA xs p 4) 4)
def aBH (nxV:LL->Int->Int->Int) (nxA:LL->Int->Int->Int):Prop :=
 ∀ (gl:aX) (p:Int) (g:Bool) (xs:LL),ChsP xs p->True->True->IR9 p->ChsP xs p∧bif decide (rng IntKind.i64 ((1:Int)+YtgbbmadjdaphnaaGreatDoor.nxV xs p 4)) then ChsP xs (YtgbbmadjdaphnaaGreatDoor.nxA xs p 4)∧bif decide (rng IntKind.i64 ((1:Int)+YtgbbmadjdaphnaaGreatDoor.nxV xs (YtgbbmadjdaphnaaGreatDoor.nxA xs p 4) 4)) then ChsP xs (qW xs p)∧bif decide (rng IntKind.i64 ((1:Int)+YtgbbmadjdaphnaaGreatDoor.nxV xs (qW xs p) 4)) then ((1:Int)+YtgbbmadjdaphnaaGreatDoor.nxV xs p 4=(1:Int)+nxV xs p 4∧(1:Int)+YtgbbmadjdaphnaaGreatDoor.nxV xs (YtgbbmadjdaphnaaGreatDoor.nxA xs p 4) 4=(1:Int)+nxV xs (nxA xs p 4) 4∧(1:Int)+YtgbbmadjdaphnaaGreatDoor.nxV xs (qW xs p) 4=(1:Int)+nxV xs (nxA xs (nxA xs p 4) 4) 4∧True)∧(((bif g then g=true else True)∧xs=xs)∧YtgbbmadjdaphnaaGreatDoor.nxA xs (qW xs p) 4=nxA xs (nxA xs (nxA xs p 4) 4) 4∧True)∧True else False else False else False
theorem aO0:aBH nxV nxA:=by
 unfold aBH
 delta qW
 intro gl p g xs h
 intros
 have g1:cond g (g=true) True:=gg g
 have h1:=dD h 4
 have h2:=dD h1 4
 have b0:=kM h (n:=4) (by decide)
 have b1:=kM h1 (n:=4) (by decide)
 have b2:=kM h2 (n:=4) (by decide)
 exact ⟨h,cdI (by omega) ⟨h1,cdI (by omega) ⟨h2,cdI (by omega) (by repeat' first|exact trivial|exact rfl|assumption|apply And.intro)⟩⟩⟩
theorem aOZ (nxV:LL->Int->Int->Int) (nxA:LL->Int->Int->Int):aBH nxV nxA=(∀ (gl:aX) (p:Int) (g:Bool) (xs:LL),ChsP xs p->fnH Tryz.prog { glob:=gl,spec:=lk [],specH:=lk [(48,kP)],nowf:=true } { nt:=13,drop:=drp [(1,8184)],fr:=1000,kp:=[0] } (λ _ _=>none) 6 Tryz.f18 [.ptr 0 0] [.cells [.sl 1 g xs,.int .i64 p]] (.agg [.int .i64 (1+nxV xs p 4),.int .i64 (1+nxV xs (nxA xs p 4) 4),.int .i64 (1+nxV xs (nxA xs (nxA xs p 4) 4) 4)]) [.cells [.sl 1 g xs,.int .i64 (nxA xs (nxA xs (nxA xs p 4) 4) 4)]]):=by kernel_rfl
def aOY:=Eq.mp (aOZ ..) (aO0)
theorem aKY (gl:aX):HOK Tryz.prog gl 18 (aBG nxV nxA):=by
 refine ⟨fok Tryz.func18 (by kernel_rfl) (by kernel_rfl),?_⟩
 intro xs bs pre r bs2 h hp
 unfold aBG at h
 split at h
 ·cases h
  exact bC bD (by exact aV rfl rfl trivial ⟨(mA gl),trivial⟩) (by kernel_rfl) Tryz.func18 (aOY gl _ _ _ hp)
 ·cases h
def vcC (xs:LL) (p m:Int):List Int:=[sgV xs p m,sgV xs (sgA xs p) m,sgV xs (sgA xs (sgA xs p)) m,sgV xs (sgA xs (sgA xs (sgA xs p))) 9,0,m,-m]
def vcP (xs:LL) (p:Int):Int:=sgA xs (sgA xs (sgA xs (sgA xs p)))
def vcK (xs:LL) (l:List Int) (p:Int):Nat->Int × List Int
 | 0=>(p,[])
 | k+1=>(nxA xs (vcK xs l p k).1 7,(vcK xs l p k).2++[l.getD (nxV xs (vcK xs l p k).1 7).toNat 0])
def vcL (xs:LL) (p n m:Int):List Int:=(vcK xs (vcC xs p m) (vcP xs p) n.toNat).2
def vcA (xs:LL) (p n m:Int):Int:=(vcK xs (vcC xs p m) (vcP xs p) n.toNat).1
theorem aB6 {xs:LL} {p:Int} (h:ChsP xs p) (l:List Int):∀ k,ChsP xs (vcK xs l p k).1∧(vcK xs l p k).2.length=k
 | 0=>⟨h,rfl⟩
 | k+1=>⟨dD (aB6 h l k).1 _,by rw [vcK,aG,(aB6 h l k).2]; rfl⟩
theorem aPZ {xs:LL} {l:List Int} {p B:Int} (hB:0≤B) (hl:∀ z ∈ l,-B≤z∧z≤B):∀ k,∀ z ∈ (vcK xs l p k).2,-B≤z∧z≤B
 | 0,z,h=>by simp [vcK] at h
 | k+1,z,h=>by
  rw [vcK] at h
  rcases List.mem_append.1 h with h | h
  ·exact aPZ hB hl k z h
  ·rw [List.mem_singleton] at h; subst h; exact jB hB hl _
theorem aVm {xs:LL} {p m:Int} (hm:0≤m):∀ z ∈ vcC xs p m,-(m+9)≤z∧z≤m+9:=λ z hz=>by
 have h1:=aUD (xs:=xs) (p:=p) hm
 have h2:=aUD (xs:=xs) (p:=sgA xs p) hm
 have h3:=aUD (xs:=xs) (p:=sgA xs (sgA xs p)) hm
 have h4:=aUD (xs:=xs) (p:=sgA xs (sgA xs (sgA xs p))) (m:=9) (by decide)
 simp only [vcC,List.mem_cons,List.not_mem_nil,or_false] at hz
 rcases hz with rfl | rfl | rfl | rfl | rfl | rfl | rfl <;> omega
theorem nG {xs:LL} {p n m:Int} (h:ChsP xs p) (hm:0≤m):(vcL xs p n m).length=n.toNat∧(∀ z ∈ vcL xs p n m,-(m+9)≤z∧z≤m+9)∧ChsP xs (vcA xs p n m):=by
 have h4:ChsP xs (vcP xs p):=nQ (nQ (nQ (nQ h)))
 obtain ⟨k1,k2⟩:=aB6 h4 (vcC xs p m) n.toNat
 exact ⟨k2,aPZ (by omega) (aVm hm) _,k1⟩
def vcI (xs:LL) (g:Bool) (p n m:Int):LInv:=⟨Int,λ x=>⟨[(0,.ptr 0 0),(1,.int .i64 n),(7,.rw 1024 1 7),(8,.rw 800 1 x.toNat),(9,.int .i64 x)],[(0,.cells [.sl 1 g xs,.int .i64 (vcK xs (vcC xs p m) (vcP xs p) x.toNat).1]),(1024,.row 3 1 (aP (vcC xs p m))),(800,.row 3 1 (aP (vcK xs (vcC xs p m) (vcP xs p) x.toNat).2))]⟩,LtP n.toNat,λ x=>(n - x).toNat,none⟩
def aC9:SpH
 | [.ptr 0 0,.int .i64 n,.int .i64 m],[.cells [.sl 1 g xs,.int .i64 p]]=>some (ChsP xs p∧(1≤n∧n≤1000)∧0≤m∧m≤1000000000,.sl 1 false (aP (vcL xs p n m)),[.cells [.sl 1 g xs,.int .i64 (vcA xs p n m)]])
 | _,_=>none
abbrev fG (xs:LL) (p:Int) (m:Int) (x1:Int):=(vcK xs (vcC xs p m) (vcP xs p) x1.toNat)
def aHO (nxV:LL->Int->Int->Int) (nxA:LL->Int->Int->Int):Prop :=
 ∀ (gl:aX) (p n m:Int) (g:Bool) (xs:LL),ChsP xs p∧(1≤n∧n≤(1000:Int))∧0≤m∧m≤(1000000000:Int)->True->IR9 n->IR9 m->True->IR9 p->(ChsP xs p∧0≤m∧m≤(1000000000:Int))∧(ChsP xs (sgA xs p)∧0≤m∧m≤(1000000000:Int))∧(ChsP xs (sgA xs (sgA xs p))∧0≤m∧m≤(1000000000:Int))∧(ChsP xs (sgA xs (sgA xs (sgA xs p)))∧(0:Int)≤(9:Int)∧(9:Int)≤(1000000000:Int))∧bif decide (rng IntKind.i64 ((0:Int) - m)) then (∃ x,LtP n.toNat x∧((0:Nat)=(0:Nat)∧n=n∧(7:Nat)=(7:Nat)∧(0:Nat)=Int.toNat x∧(0:Int)=x∧True)∧(((bif g then g=true else True)∧xs=xs)∧sgA xs (sgA xs (sgA xs (sgA xs p)))=(vcK xs (vcC xs p m) (vcP xs p) (Int.toNat x)).1∧True)∧[[I6 (sgV xs p m)],[I6 (sgV xs (sgA xs p) m)],[I6 (sgV xs (sgA xs (sgA xs p)) m)],[I6 (sgV xs (sgA xs (sgA xs (sgA xs p))) 9)],[I6 0],[I6 m],[I6 ((0:Int) - m)]]=aP (vcC xs p m)∧[]=aP (vcK xs (vcC xs p m) (vcP xs p) (Int.toNat x)).2∧True)∧∀ (x1:Int),LtP n.toNat x1->bif decide (x1 < n) then ChsP xs (fG xs p m x1).1∧bif decide (0≤YtgbbmadjdaphnaaGreatDoor.nxV xs (fG xs p m x1).1 7∧YtgbbmadjdaphnaaGreatDoor.nxV xs (fG xs p m x1).1 7 < (7:Int)) then bif decide ((7:Nat)=(aP (vcC xs p m)).length∧(YtgbbmadjdaphnaaGreatDoor.nxV xs (fG xs p m x1).1 7).toNat < (aP (vcC xs p m)).length) then ∃ n_1,List.take [I6 n_1].length (List.drop 0 ((aP (vcC xs p m)).getD (YtgbbmadjdaphnaaGreatDoor.nxV xs (fG xs p m x1).1 7).toNat []))=[I6 n_1]∧bif decide (x1.toNat=(aP (fG xs p m x1).2).length∧(aP (fG xs p m x1).2).length+[[I6 n_1]].length≤(9223372036854775807:Nat)∧((aP (fG xs p m x1).2).length+[[I6 n_1]].length)*(8:Nat)≤(140737488355328:Nat)) then bif decide (rng IntKind.i64 (x1+(1:Int))) then ∃ y,LtP n.toNat y∧(vcI xs g p n m).m y < (vcI xs g p n m).m x1∧((0:Nat)=(0:Nat)∧n=n∧(7:Nat)=(7:Nat)∧(aP (fG xs p m x1).2++[[I6 n_1]]).length=Int.toNat y∧x1+(1:Int)=y∧True)∧(((bif g then g=true else True)∧xs=xs)∧YtgbbmadjdaphnaaGreatDoor.nxA xs (fG xs p m x1).1 7=(vcK xs (vcC xs p m) (vcP xs p) (Int.toNat y)).1∧True)∧aP (vcC xs p m)=aP (vcC xs p m)∧aP (fG xs p m x1).2++[[I6 n_1]]=aP (vcK xs (vcC xs p m) (vcP xs p) (Int.toNat y)).2∧True else False else False else False else False else bif decide (x1.toNat=(aP (fG xs p m x1).2).length) then (True∧aP (fG xs p m x1).2=aP (vcL xs p n m))∧(((bif g then g=true else True)∧xs=xs)∧(fG xs p m x1).1=vcA xs p n m∧True)∧True else False else False
theorem aTx:aHO nxV nxA:=by
 unfold aHO
 delta fG I6
 intro gl p n m g xs ⟨h,⟨n0,n1⟩,m0,m1⟩
 intros
 have g1:cond g (g=true) True:=gg g
 have h1:=nQ h
 have h2:=nQ h1
 have h3:=nQ h2
 have h4:ChsP xs (vcP xs p):=nQ h3
 have eC:[[AV.int .i64 (sgV xs p m)],[.int .i64 (sgV xs (sgA xs p) m)],[.int .i64 (sgV xs (sgA xs (sgA xs p)) m)],[.int .i64 (sgV xs (sgA xs (sgA xs (sgA xs p))) 9)],[.int .i64 0],[.int .i64 m],[.int .i64 (0 - m)]]=aP (vcC xs p m):=by rw [Int.zero_sub]; rfl
 refine ⟨⟨h,m0,m1⟩,⟨h1,m0,m1⟩,⟨h2,m0,m1⟩,⟨h3,by decide,by decide⟩,cdI (by omega) ⟨⟨0,⟨Int.le_refl 0,by omega⟩,by repeat' first|exact trivial|exact rfl|assumption|apply And.intro⟩,?_⟩⟩
 intro x ⟨x0,xl⟩
 obtain ⟨k1,k2⟩:=aB6 h4 (vcC xs p m) x.toNat
 have hc:(vcC xs p m).length=7:=rfl
 refine csp (λ q=>?_) (λ q=>?_)
 ·have b:=kM k1 (n:=7) (by decide)
  have e1:(vcC xs p m)[(nxV xs (vcK xs (vcC xs p m) (vcP xs p) x.toNat).1 7).toNat]?=some ((vcC xs p m).getD (nxV xs (vcK xs (vcC xs p m) (vcP xs p) x.toNat).1 7).toNat 0):=bH (by omega)
  have es:vcK xs (vcC xs p m) (vcP xs p) (x+1).toNat=(nxA xs (vcK xs (vcC xs p m) (vcP xs p) x.toNat).1 7,(vcK xs (vcC xs p m) (vcP xs p) x.toNat).2++[(vcC xs p m).getD (nxV xs (vcK xs (vcC xs p m) (vcP xs p) x.toNat).1 7).toNat 0]):=by rw [show (x+1).toNat=x.toNat+1 by omega]; rfl
  refine ⟨k1,cd1 b (cd1 ⟨by rw [aR]; rfl,by rw [aR]; omega⟩ ⟨_,by rw [List.drop_zero,bB e1]; rfl,cd1 ⟨by rw [aR,k2],by rw [aR,k2,aH]; omega,by rw [aR,k2,aH]; omega⟩ (cdI (by omega) ⟨x+1,⟨by omega,by omega⟩,by simp only [vcI]; omega,?_⟩)⟩)⟩
  rw [es]
  have e5:((aP (vcK xs (vcC xs p m) (vcP xs p) x.toNat).2++[[AV.int .i64 ((vcC xs p m).getD (nxV xs (vcK xs (vcC xs p m) (vcP xs p) x.toNat).1 7).toNat 0)]]).length:Nat)=Int.toNat (x+1):=by rw [aG,aR,k2,aH]; omega
  have e6:=cN (vcK xs (vcC xs p m) (vcP xs p) x.toNat).2 ((vcC xs p m).getD (nxV xs (vcK xs (vcC xs p m) (vcP xs p) x.toNat).1 7).toNat 0)
  (repeat' (first | exact trivial | exact rfl | assumption | apply And.intro))
 ·have ex:x.toNat=n.toNat:=by omega
  refine cd1 (by rw [aR,k2]) ?_
  rw [ex]
  (repeat' (first | exact trivial | exact rfl | assumption | apply And.intro))
theorem aTw (nxV:LL->Int->Int->Int) (nxA:LL->Int->Int->Int):aHO nxV nxA=(∀ (gl:aX) (p n m:Int) (g:Bool) (xs:LL),ChsP xs p∧(1≤n∧n≤1000)∧0≤m∧m≤1000000000->fnH Tryz.prog { glob:=gl,spec:=lk [],specH:=lk [(48,kP),(99,(aHQ nxV nxA))],shape:=[35],nowf:=true } { nt:=39,drop:=drp [(1,33553408),(4,100663296),(5,805306368),(6,273804165120),(7,274877906944)],fr:=1000,kp:=[0],emp:=λ id=>cond (Nat.beq id 3) [(8,800,3,1)] [] } (xH [(4,vcI xs g p n m)]) 6 Tryz.f47 [.ptr 0 0,.int .i64 n,.int .i64 m] [.cells [.sl 1 g xs,.int .i64 p]] (.sl 1 false (aP (vcL xs p n m))) [.cells [.sl 1 g xs,.int .i64 (vcA xs p n m)]]):=by kernel_rfl
def aTv:=Eq.mp (aTw ..) (aTx)
theorem aHN (gl:aX):HOK Tryz.prog gl 47 aC9:=by
 refine ⟨fok Tryz.func47 (by kernel_rfl) (by kernel_rfl),?_⟩
 intro xs bs pre r bs2 h hp
 unfold aC9 at h
 split at h
 ·cases h
  exact bC bD (by exact aV rfl rfl trivial ⟨(mA gl),(aOX gl),trivial⟩) (by kernel_rfl) Tryz.func47 (aTv gl _ _ _ _ _ hp)
 ·cases h
def itS {σ:Type} (g:Int->σ->σ) (h:Int):Nat->Int->σ->σ
 | 0,_,s=>s
 | k+1,b,s=>itS g h k (b+h) (g b s)
def aI4 {σ:Type} (g:Int->σ->σ) (h b e:Int) (s:σ):σ:=itS g h ((e - b) / h+1).toNat b s
structure H12 (h:Int):Prop where
 eq:h=840∨h=420
theorem tV {σ:Type} {g:Int->σ->σ} {h b e:Int} {s:σ} (hh:H12 h) (q:b≤e):aI4 g h b e s=aI4 g h (b+h) e (g b s):=by
 unfold aI4
 rw [show ((e - b) / h+1).toNat=((e - (b+h)) / h+1).toNat+1 by rcases hh.eq with rfl | rfl <;> omega]; rfl
theorem tW {σ:Type} {g:Int->σ->σ} {h b e:Int} {s:σ} (hh:H12 h) (q:e < b):aI4 g h b e s=s:=by
 unfold aI4
 rw [show ((e - b) / h+1).toNat=0 by rcases hh.eq with rfl | rfl <;> omega]; rfl
def rqC (f a b:Int):Bool:=(decide (0 < a)&&decide (0 < b)&&decide (0 < 840 - a - b))||isN f a b (840 - a - b)
def rqS (f a b:Int) (s:LL):LL:=if rqC f a b=true then s++[jP f a b (840 - a - b)] else s
def rqB (h f a b:Int) (s:LL):LL:=aI4 (rqS f a) h b (840 - a) s
def rqA (h f a:Int) (s:LL):LL:=aI4 (λ a s=>rqB h f a 0 s) h a 840 s
def rqF (h f:Int) (s:LL):LL:=rY (λ f s=>rqA h f 0 s) f 20 s
def rqG (n:Int):LL:=rqF (hN n) 0 []
def lI:Sp
 | [.int .i64 n]=>some (1≤n∧n≤2,.int .i64 (10*n*n+2))
 | _=>none
def uO:Prop :=
 ∀ (gl:aX) (n:Int),1≤n∧n≤(2:Int)->IR9 n->bif decide (n < (1:Int)) then (0:Int)=(10:Int)*n*n+(2:Int) else bif decide (8 < n) then (0:Int)=(10:Int)*n*n+(2:Int) else bif decide (rng IntKind.i64 ((10:Int)*n)) then bif decide (rng IntKind.i64 ((10:Int)*n*n)) then bif decide (rng IntKind.i64 ((10:Int)*n*n+(2:Int))) then (10:Int)*n*n+(2:Int)=(10:Int)*n*n+(2:Int) else False else False else False
theorem aJO:uO:=by
 unfold uO
 intro gl n ⟨n1,n2⟩
 intros
 rcases (show n=1∨n=2 by omega) with rfl | rfl <;> exact cd0 (by decide) (cd0 (by decide) (cdI (by decide) (cdI (by decide) (cdI (by decide) rfl))))
theorem aJN:uO=(∀ (gl:aX) (n:Int),1≤n∧n≤2->fnK Tryz.prog { glob:=gl,spec:=lk [],specH:=lk [],nowf:=true } { nt:=14,drop:=drp [(1,248),(3,15872)] } (λ _ _=>none) 6 Tryz.f97 [.int .i64 n] (.int .i64 (10*n*n+2))):=by kernel_rfl
def aJM:=Eq.mp (aJN ..) (aJO)
theorem pE (gl:aX):SOK Tryz.prog gl 97 lI:=by
 refine ⟨fok Tryz.func97 (by kernel_rfl) (by kernel_rfl),?_⟩
 intro xs pre r h hp
 unfold lI at h
 split at h
 ·cases h
  exact aT bD (by exact aV rfl rfl trivial trivial) (by kernel_rfl) Tryz.func97 rfl (aJM gl _ hp)
 ·cases h
structure RqX (h:Int) (fin:LL) (x:Int × LL):Prop where
 lo:0≤x.1
 hi:x.1≤20
 go:rqF h x.1 x.2=fin
 sm:(x.2.length:Int)≤12*x.1
structure RqY (h f:Int) (fin:LL) (x:Int × LL):Prop where
 fl:0≤f∧f < 20
 lo:0≤x.1
 hi:x.1≤840+h
 go:rqF h (f+1) (rqA h f x.1 x.2)=fin
 sm:(x.2.length:Int)≤12*f+3*(x.1 / 420)
structure RqZ (h f a:Int) (fin:LL) (x:Int × LL):Prop where
 fl:0≤f∧f < 20
 al:0≤a∧a≤840
 lo:0≤x.1
 hi:x.1≤840 - a+h
 go:rqF h (f+1) (rqA h f (a+h) (rqB h f a x.1 x.2))=fin
 sm:(x.2.length:Int)≤12*f+3*(a / 420)+x.1 / 420
def rq6 (n:Int):LInv:=⟨Int × LL,λ x=>⟨[(4,.int .i64 (hN n)),(5,.rw 500 4 x.2.length),(6,.int .i64 x.1)],[(500,.row 27 4 x.2)]⟩,RqX (hN n) (rqG n),λ x=>(20 - x.1).toNat,none⟩
def rq9 (n f:Int):LInv:=⟨Int × LL,λ x=>⟨[(4,.int .i64 (hN n)),(5,.rw 500 4 x.2.length),(6,.int .i64 f),(7,.int .i64 x.1)],[(500,.row 27 4 x.2)]⟩,RqY (hN n) f (rqG n),λ x=>(840+hN n - x.1).toNat,none⟩
def rL (n f a:Int):LInv:=⟨Int × LL,λ x=>⟨[(4,.int .i64 (hN n)),(5,.rw 500 4 x.2.length),(6,.int .i64 f),(7,.int .i64 a),(8,.int .i64 x.1)],[(500,.row 27 4 x.2)]⟩,RqZ (hN n) f a (rqG n),λ x=>(840 - a+hN n - x.1).toNat,none⟩
def uJ (isN:Int->Int->Int->Int->Bool):Sp
 | [.int .i64 n]=>some (1≤n∧n≤2,.tup [.sl 4 false (rqG n),.int .i64 0])
 | _=>none
def uK (isN:Int->Int->Int->Int->Bool) (nrm:NrT) (vld:Int->Int->Int->Int->Bool):Prop :=
 ∀ (gl:aX) (n:Int),1≤n∧n≤(2:Int)->IR9 n->(1≤n∧n≤(2:Int))∧bif decide ((10:Int)*n*n+(2:Int)=(0:Int)) then rqG n=[]∧(1:Int)=(0:Int)∧True else bif decide ¬n=(0:Int) then bif decide (rng IntKind.i64 (Int.tdiv 840 n)) then (∃ x,RqX (hN n) (rqG n) x∧(Int.tdiv 840 n=hN n∧(0:Nat)=List.length x.2∧(0:Int)=x.1∧True)∧[]=x.2∧True)∧∀ (x1:Int × LL),RqX (hN n) (rqG n) x1->bif decide (x1.1 < (20:Int)) then (∃ x_1,RqY (hN n) x1.1 (rqG n) x_1∧(hN n=hN n∧List.length x1.2=List.length x_1.2∧x1.1=x1.1∧(0:Int)=x_1.1∧True)∧x1.2=x_1.2∧True)∧∀ (x2:Int × LL),RqY (hN n) x1.1 (rqG n) x2->bif decide (x2.1≤(840:Int)) then (∃ x_2,RqZ (hN n) x1.1 x2.1 (rqG n) x_2∧(hN n=hN n∧List.length x2.2=List.length x_2.2∧x1.1=x1.1∧x2.1=x2.1∧(0:Int)=x_2.1∧True)∧x2.2=x_2.2∧True)∧∀ (x3:Int × LL),RqZ (hN n) x1.1 x2.1 (rqG n) x3->bif decide (rng IntKind.i64 (x2.1+x3.1)) then bif decide (x2.1+x3.1≤(840:Int)) then bif decide (rng IntKind.i64 ((840:Int) - x2.1)) then bif decide (rng IntKind.i64 ((840:Int) - x2.1 - x3.1)) then bif decide (0 < x2.1) then bif decide (0 < x3.1) then bif decide ((0:Int) < (840:Int) - x2.1 - x3.1) then bif decide (List.length x3.2=List.length x3.2∧List.length x3.2+[[I6 x1.1,I6 x2.1,I6 x3.1,I6 ((840:Int) - x2.1 - x3.1)]].length≤(9223372036854775807:Nat)∧(List.length x3.2+[[I6 x1.1,I6 x2.1,I6 x3.1,I6 ((840:Int) - x2.1 - x3.1)]].length)*(32:Nat)≤(140737488355328:Nat)) then bif decide (rng IntKind.i64 (x3.1+hN n)) then ∃ y,RqZ (hN n) x1.1 x2.1 (rqG n) y∧(rL n x1.1 x2.1).m y < (rL n x1.1 x2.1).m x3∧(hN n=hN n∧(x3.2++[[I6 x1.1,I6 x2.1,I6 x3.1,I6 ((840:Int) - x2.1 - x3.1)]]).length=List.length y.2∧x1.1=x1.1∧x2.1=x2.1∧x3.1+hN n=y.1∧True)∧x3.2++[[I6 x1.1,I6 x2.1,I6 x3.1,I6 ((840:Int) - x2.1 - x3.1)]]=y.2∧True else False else False else True∧bif isN x1.1 x2.1 x3.1 ((840:Int) - x2.1 - x3.1) then bif decide (List.length x3.2=List.length x3.2∧List.length x3.2+[[I6 x1.1,I6 x2.1,I6 x3.1,I6 ((840:Int) - x2.1 - x3.1)]].length≤(9223372036854775807:Nat)∧(List.length x3.2+[[I6 x1.1,I6 x2.1,I6 x3.1,I6 ((840:Int) - x2.1 - x3.1)]].length)*(32:Nat)≤(140737488355328:Nat)) then bif decide (rng IntKind.i64 (x3.1+hN n)) then ∃ y,RqZ (hN n) x1.1 x2.1 (rqG n) y∧(rL n x1.1 x2.1).m y < (rL n x1.1 x2.1).m x3∧(hN n=hN n∧(x3.2++[[I6 x1.1,I6 x2.1,I6 x3.1,I6 ((840:Int) - x2.1 - x3.1)]]).length=List.length y.2∧x1.1=x1.1∧x2.1=x2.1∧x3.1+hN n=y.1∧True)∧x3.2++[[I6 x1.1,I6 x2.1,I6 x3.1,I6 ((840:Int) - x2.1 - x3.1)]]=y.2∧True else False else False else bif decide (rng IntKind.i64 (x3.1+hN n)) then ∃ y,RqZ (hN n) x1.1 x2.1 (rqG n) y∧(rL n x1.1 x2.1).m y < (rL n x1.1 x2.1).m x3∧(hN n=hN n∧List.length x3.2=List.length y.2∧x1.1=x1.1∧x2.1=x2.1∧x3.1+hN n=y.1∧True)∧x3.2=y.2∧True else False else True∧bif isN x1.1 x2.1 x3.1 ((840:Int) - x2.1 - x3.1) then bif decide (List.length x3.2=List.length x3.2∧List.length x3.2+[[I6 x1.1,I6 x2.1,I6 x3.1,I6 ((840:Int) - x2.1 - x3.1)]].length≤(9223372036854775807:Nat)∧(List.length x3.2+[[I6 x1.1,I6 x2.1,I6 x3.1,I6 ((840:Int) - x2.1 - x3.1)]].length)*(32:Nat)≤(140737488355328:Nat)) then bif decide (rng IntKind.i64 (x3.1+hN n)) then ∃ y,RqZ (hN n) x1.1 x2.1 (rqG n) y∧(rL n x1.1 x2.1).m y < (rL n x1.1 x2.1).m x3∧(hN n=hN n∧(x3.2++[[I6 x1.1,I6 x2.1,I6 x3.1,I6 ((840:Int) - x2.1 - x3.1)]]).length=List.length y.2∧x1.1=x1.1∧x2.1=x2.1∧x3.1+hN n=y.1∧True)∧x3.2++[[I6 x1.1,I6 x2.1,I6 x3.1,I6 ((840:Int) - x2.1 - x3.1)]]=y.2∧True else False else False else bif decide (rng IntKind.i64 (x3.1+hN n)) then ∃ y,RqZ (hN n) x1.1 x2.1 (rqG n) y∧(rL n x1.1 x2.1).m y < (rL n x1.1 x2.1).m x3∧(hN n=hN n∧List.length x3.2=List.length y.2∧x1.1=x1.1∧x2.1=x2.1∧x3.1+hN n=y.1∧True)∧x3.2=y.2∧True else False else True∧bif isN x1.1 x2.1 x3.1 ((840:Int) - x2.1 - x3.1) then bif decide (List.length x3.2=List.length x3.2∧List.length x3.2+[[I6 x1.1,I6 x2.1,I6 x3.1,I6 ((840:Int) - x2.1 - x3.1)]].length≤(9223372036854775807:Nat)∧(List.length x3.2+[[I6 x1.1,I6 x2.1,I6 x3.1,I6 ((840:Int) - x2.1 - x3.1)]].length)*(32:Nat)≤(140737488355328:Nat)) then bif decide (rng IntKind.i64 (x3.1+hN n)) then ∃ y,RqZ (hN n) x1.1 x2.1 (rqG n) y∧(rL n x1.1 x2.1).m y < (rL n x1.1 x2.1).m x3∧(hN n=hN n∧(x3.2++[[I6 x1.1,I6 x2.1,I6 x3.1,I6 ((840:Int) - x2.1 - x3.1)]]).length=List.length y.2∧x1.1=x1.1∧x2.1=x2.1∧x3.1+hN n=y.1∧True)∧x3.2++[[I6 x1.1,I6 x2.1,I6 x3.1,I6 ((840:Int) - x2.1 - x3.1)]]=y.2∧True else False else False else bif decide (rng IntKind.i64 (x3.1+hN n)) then ∃ y,RqZ (hN n) x1.1 x2.1 (rqG n) y∧(rL n x1.1 x2.1).m y < (rL n x1.1 x2.1).m x3∧(hN n=hN n∧List.length x3.2=List.length y.2∧x1.1=x1.1∧x2.1=x2.1∧x3.1+hN n=y.1∧True)∧x3.2=y.2∧True else False else False else False else bif decide (rng IntKind.i64 (x2.1+hN n)) then ∃ y,RqY (hN n) x1.1 (rqG n) y∧(rq9 n x1.1).m y < (rq9 n x1.1).m x2∧(hN n=hN n∧List.length x3.2=List.length y.2∧x1.1=x1.1∧x2.1+hN n=y.1∧True)∧x3.2=y.2∧True else False else False else bif decide (rng IntKind.i64 (x1.1+(1:Int))) then ∃ y,RqX (hN n) (rqG n) y∧((λ x1=>rq6 n) 0).m y < ((λ x1=>rq6 n) 0).m x1∧(hN n=hN n∧List.length x2.2=List.length y.2∧x1.1+(1:Int)=y.1∧True)∧x2.2=y.2∧True else False else bif decide (List.length x1.2=List.length x1.2) then (True∧x1.2=rqG n)∧(0:Int)=(0:Int)∧True else False else False else False
theorem aJD:uK isN nrm vld:=by
 unfold uK
 delta I6
 intro gl n ⟨n1,n2⟩
 intros
 have hh:H12 (hN n):=by rcases (show n=1∨n=2 by omega) with rfl | rfl <;> exact ⟨by decide⟩
 have hn:¬ 10*n*n+2=0:=by rcases (show n=1∨n=2 by omega) with rfl | rfl <;> decide
 have eh:Int.tdiv 840 n=hN n:=rfl
 have hb:=hh.eq
 refine ⟨⟨n1,n2⟩,cd0 hn (cd1 (by omega) (cdI (by rw [eh]; omega) ⟨⟨(0,[]),⟨by decide,by decide,rfl,by decide⟩,by repeat' first|exact trivial|exact rfl|assumption|apply And.intro⟩,?_⟩))⟩
 rintro ⟨f,s⟩ ⟨f0,f20,fg,fs⟩
 simp only at f0 f20 fg fs
 refine csp (λ q=>⟨⟨(0,s),⟨⟨f0,q⟩,Int.le_refl 0,by simp only; omega,(iL q).symm.trans fg,by simp only; omega⟩,by repeat' first|exact trivial|exact rfl|assumption|apply And.intro⟩,?_⟩) (λ q=>?_)
 ·clear fg fs
  simp only at q
  rintro ⟨a,s⟩ ⟨_,a0,a1,ag,as_⟩
  simp only at a0 a1 ag as_
  refine csp (λ qA=>⟨⟨(0,s),⟨⟨f0,q⟩,⟨a0,qA⟩,Int.le_refl 0,by simp only at qA ⊢; omega,(show rqA (hN n) f a s=rqA (hN n) f (a+hN n) (rqB (hN n) f a 0 s) from tV hh qA) ▸ ag,by simp only; omega⟩,by repeat' first|exact trivial|exact rfl|assumption|apply And.intro⟩,?_⟩) (λ qA=>?_)
  ·clear ag as_
   simp only at qA
   rintro ⟨b,s⟩ ⟨_,_,b0,b1,bg,bs⟩
   simp only at b0 b1 bg bs
   refine cdI (by simp only; omega) (csp (λ qB=>?_) (λ qB=>?_))
   ·simp only at qB
    rw [show rqB (hN n) f a b s=rqB (hN n) f a (b+hN n) (rqS f a b s) from tV hh (by omega)] at bg
    refine cdI (by simp only; omega) (cdI (by simp only; omega) ?_)
    exact csp (λ ha=>csp (λ hb2=>csp (λ hc=>(cd1 ⟨rfl,by rw [aH]; simp only; omega,by rw [aH]; simp only; omega⟩ (cdI (by simp only; omega) ⟨(b+hN n,s++[jP f a b (840 - a - b)]),⟨⟨f0,q⟩,⟨a0,qA⟩,by simp only; omega,by simp only; omega,by rw [← (show rqS f a b s=s++[jP f a b (840 - a - b)] from if_pos (show rqC f a b=true by unfold rqC; rw [decide_eq_true ha,decide_eq_true hb2,decide_eq_true hc]; rfl))]; exact bg,by simp only [aG,aH]; omega⟩,by simp only [rL]; omega,by repeat' first|exact trivial|exact rfl|assumption|apply And.intro⟩))) (λ hc=>⟨trivial,dJ (λ q3=>(cd1 ⟨rfl,by rw [aH]; simp only; omega,by rw [aH]; simp only; omega⟩ (cdI (by simp only; omega) ⟨(b+hN n,s++[jP f a b (840 - a - b)]),⟨⟨f0,q⟩,⟨a0,qA⟩,by simp only; omega,by simp only; omega,by rw [← (show rqS f a b s=s++[jP f a b (840 - a - b)] from if_pos (show rqC f a b=true by unfold rqC; rw [q3,Bool.or_true]))]; exact bg,by simp only [aG,aH]; omega⟩,by simp only [rL]; omega,by repeat' first|exact trivial|exact rfl|assumption|apply And.intro⟩))) (λ q3=>(cdI (by simp only; omega) ⟨(b+hN n,s),⟨⟨f0,q⟩,⟨a0,qA⟩,by simp only; omega,by simp only; omega,by rw [← (show rqS f a b s=s from if_neg (by rw [show rqC f a b=false by unfold rqC; rw [decide_eq_true ha,decide_eq_true hb2,decide_eq_false hc,q3]; rfl]; decide))]; exact bg,by simp only; omega⟩,by simp only [rL]; omega,by repeat' first|exact trivial|exact rfl|assumption|apply And.intro⟩))⟩)) (λ hb2=>⟨trivial,dJ (λ q3=>(cd1 ⟨rfl,by rw [aH]; simp only; omega,by rw [aH]; simp only; omega⟩ (cdI (by simp only; omega) ⟨(b+hN n,s++[jP f a b (840 - a - b)]),⟨⟨f0,q⟩,⟨a0,qA⟩,by simp only; omega,by simp only; omega,by rw [← (show rqS f a b s=s++[jP f a b (840 - a - b)] from if_pos (show rqC f a b=true by unfold rqC; rw [q3,Bool.or_true]))]; exact bg,by simp only [aG,aH]; omega⟩,by simp only [rL]; omega,by repeat' first|exact trivial|exact rfl|assumption|apply And.intro⟩))) (λ q3=>(cdI (by simp only; omega) ⟨(b+hN n,s),⟨⟨f0,q⟩,⟨a0,qA⟩,by simp only; omega,by simp only; omega,by rw [← (show rqS f a b s=s from if_neg (by rw [show rqC f a b=false by unfold rqC; rw [decide_eq_true ha,decide_eq_false hb2,q3]; rfl]; decide))]; exact bg,by simp only; omega⟩,by simp only [rL]; omega,by repeat' first|exact trivial|exact rfl|assumption|apply And.intro⟩))⟩)) (λ ha=>⟨trivial,dJ (λ q3=>(cd1 ⟨rfl,by rw [aH]; simp only; omega,by rw [aH]; simp only; omega⟩ (cdI (by simp only; omega) ⟨(b+hN n,s++[jP f a b (840 - a - b)]),⟨⟨f0,q⟩,⟨a0,qA⟩,by simp only; omega,by simp only; omega,by rw [← (show rqS f a b s=s++[jP f a b (840 - a - b)] from if_pos (show rqC f a b=true by unfold rqC; rw [q3,Bool.or_true]))]; exact bg,by simp only [aG,aH]; omega⟩,by simp only [rL]; omega,by repeat' first|exact trivial|exact rfl|assumption|apply And.intro⟩))) (λ q3=>(cdI (by simp only; omega) ⟨(b+hN n,s),⟨⟨f0,q⟩,⟨a0,qA⟩,by simp only; omega,by simp only; omega,by rw [← (show rqS f a b s=s from if_neg (by rw [show rqC f a b=false by unfold rqC; rw [decide_eq_false ha,q3]; rfl]; decide))]; exact bg,by simp only; omega⟩,by simp only [rL]; omega,by repeat' first|exact trivial|exact rfl|assumption|apply And.intro⟩))⟩)
   ·simp only at qB
    rw [show rqB (hN n) f a b s=s from tW hh (by omega)] at bg
    exact cdI (by simp only; omega) ⟨(a+hN n,s),⟨⟨f0,q⟩,by simp only; omega,by simp only; omega,bg,by simp only; omega⟩,by simp only [rq9]; omega,by repeat' first|exact trivial|exact rfl|assumption|apply And.intro⟩
  ·simp only at qA
   rw [show rqA (hN n) f a s=s from tW hh (by omega)] at ag
   exact cdI (by simp only; omega) ⟨(f+1,s),⟨by simp only; omega,by simp only; omega,ag,by simp only; omega⟩,by simp only [rq6]; omega,by repeat' first|exact trivial|exact rfl|assumption|apply And.intro⟩
 ·simp only at q
  rw [show rqF (hN n) f s=s from iM (by omega)] at fg
  subst fg
  exact cd1 rfl (by repeat' first|exact trivial|exact rfl|assumption|apply And.intro)
theorem aJC (isN:Int->Int->Int->Int->Bool) (nrm:NrT) (vld:Int->Int->Int->Int->Bool):uK isN nrm vld=(∀ (gl:aX) (n:Int),1≤n∧n≤2->fnK Tryz.prog { glob:=gl,spec:=lk [(97,lI),(210,(aFq nrm vld isN))],specH:=lk [],nowf:=true } { nt:=59,drop:=drp [(1,3072),(3,24576),(6,32768),(7,393216),(9,524288),(10,14680064),(12,117440512),(13,1879048192),(14,547608330240),(15,9006649498927104),(16,270215977642229760),(17,288230376151711744)],tys:=[27],emp:=λ id=>cond (Nat.beq id 5) [(5,500,27,4)] [] } (λ id st=>aPO 12 6 7 (rL n) id st (vQ [(6,6,λ _=>rq6 n),(9,6,rq9 n)] id st)) 6 Tryz.f186 [.int .i64 n] (.tup [.sl 4 false (rqG n),.int .i64 0])):=by kernel_rfl
def aJB:=Eq.mp (aJC ..) (aJD)
theorem aE8 (gl:aX):SOK Tryz.prog gl 186 (uJ isN):=by
 refine ⟨fok Tryz.func186 (by kernel_rfl) (by kernel_rfl),?_⟩
 intro xs pre r h hp
 unfold uJ at h
 split at h
 ·cases h
  exact aT (aPI (by kernel_rfl)) (by exact aV rfl rfl ⟨(pE gl),(aM1 gl),trivial⟩ trivial) (by kernel_rfl) Tryz.func186 rfl (aJB gl _ hp)
 ·cases h
def ltP (r s:List AV):Bool:=if nI r 0≠nI s 0 then decide (nI r 0 < nI s 0) else if nI r 1≠nI s 1 then decide (nI r 1 < nI s 1) else decide (nI r 2 < nI s 2)
def aAt:Sp
 | [.agg [.int .i64 a,.int .i64 b,.int .i64 c,.int .i64 d],.agg [.int .i64 e,.int .i64 f,.int .i64 g,.int .i64 h]]=>some (True,.bool (ltP [.int .i64 a,.int .i64 b,.int .i64 c,.int .i64 d] [.int .i64 e,.int .i64 f,.int .i64 g,.int .i64 h]))
 | _=>none
def aAu:Prop :=
 ∀ (gl:aX) (a b c d e f g h:Int),(IR9 a)∧(IR9 b)∧(IR9 c)∧(IR9 d)∧True->(IR9 e)∧(IR9 f)∧(IR9 g)∧(IR9 h)∧True->bif decide ¬a=e then decide (a < e)=ltP [I6 a,I6 b,I6 c,I6 d] [I6 e,I6 f,I6 g,I6 h] else bif decide ¬b=f then decide (b < f)=ltP [I6 a,I6 b,I6 c,I6 d] [I6 e,I6 f,I6 g,I6 h] else decide (c < g)=ltP [I6 a,I6 b,I6 c,I6 d] [I6 e,I6 f,I6 g,I6 h]
theorem aMJ:aAu:=by
 unfold aAu
 delta I6
 intro gl a b c d e f g h
 intros
 have E:ltP [.int .i64 a,.int .i64 b,.int .i64 c,.int .i64 d] [.int .i64 e,.int .i64 f,.int .i64 g,.int .i64 h]=if a≠e then decide (a < e) else if b≠f then decide (b < f) else decide (c < g):=rfl
 rw [E]
 refine csp (λ q=>?_) (λ q=>csp (λ q2=>?_) (λ q2=>?_))
 ·rw [if_pos q]
 ·rw [if_neg q,if_pos q2]
 ·rw [if_neg q,if_neg q2]
theorem aMI:aAu=(∀ (gl:aX) (a b c d e f g h:Int),fnK Tryz.prog { glob:=gl,spec:=lk [],specH:=lk [],nowf:=true } { nt:=30,drop:=drp [(1,480),(2,31744),(3,491520),(4,32505856),(5,1040187392)] } (λ _ _=>none) 6 Tryz.f218 [.agg [.int .i64 a,.int .i64 b,.int .i64 c,.int .i64 d],.agg [.int .i64 e,.int .i64 f,.int .i64 g,.int .i64 h]] (.bool (ltP [.int .i64 a,.int .i64 b,.int .i64 c,.int .i64 d] [.int .i64 e,.int .i64 f,.int .i64 g,.int .i64 h]))):=by kernel_rfl
def aMH:=Eq.mp (aMI ..) (aMJ)
theorem aJF (gl:aX):SOK Tryz.prog gl 218 aAt:=by
 refine ⟨fok Tryz.func218 (by kernel_rfl) (by kernel_rfl),?_⟩
 intro xs pre r h hp
 unfold aAt at h
 split at h
 ·cases h
  exact aT bD (by exact aV rfl rfl trivial trivial) (by kernel_rfl) Tryz.func218 rfl (aMH gl _ _ _ _ _ _ _ _)
 ·cases h
def fbB (l:LL) (p:List AV):Nat->Int->Int->Int
 | 0,lo,_=>lo
 | k+1,lo,hi=>if lo < hi then (if ltP (l.getD ((lo+hi) / 2).toNat []) p=true then fbB l p k ((lo+hi) / 2+1) hi else fbB l p k lo ((lo+hi) / 2)) else lo
def fbI (l:LL) (p:List AV):Int:=fbB l p l.length 0 l.length
def aQO (r p:List AV):Bool:=decide (nI r 0=nI p 0)&&(decide (nI r 1=nI p 1)&&(decide (nI r 2=nI p 2)&&(decide (nI r 3=nI p 3)&&true)))
def fbG (l:LL) (p:List AV):Int:=if fbI l p < l.length∧aQO (l.getD (fbI l p).toNat []) p=true then fbI l p else -1
structure PlcP (l:LL):Prop where
 el:∀ r ∈ l,r=jP (nI r 0) (nI r 1) (nI r 2) (nI r 3)
 ln:l.length≤1000
structure FbP (l:LL) (p:List AV) (x:Int × Int):Prop where
 lo:0≤x.1
 le:x.1≤x.2
 hi:x.2≤l.length
 go:∃ k,x.2 - x.1≤(k:Nat)∧fbB l p k x.1 x.2=fbI l p
def fbL (g:Bool) (l:LL) (a b c d:Int):LInv:=⟨Int × Int,λ x=>⟨[(0,.sl 4 g l),(3,.ptr 3 0),(4,.int .i64 0),(5,.int .i64 x.1),(6,.int .i64 x.2)],[(3,.cells [.int .i64 a,.int .i64 b,.int .i64 c,.int .i64 d])]⟩,FbP l (jP a b c d),λ x=>(x.2 - x.1).toNat,none⟩
def aAv (ltP:List AV->List AV->Bool):Sp
 | [.sl 4 g l,.agg [.int .i64 a,.int .i64 b,.int .i64 c,.int .i64 d]]=>some (PlcP l,.int .i64 (fbG l (jP a b c d)))
 | _=>none
def aAw (ltP:List AV->List AV->Bool):Prop :=
 ∀ (gl:aX) (a b c d:Int) (g:Bool) (l:LL),PlcP l->True->(IR9 a)∧(IR9 b)∧(IR9 c)∧(IR9 d)∧True->(∃ x,FbP l (jP a b c d) x∧(((bif g then g=true else True)∧l=l)∧(0:Nat)=(0:Nat)∧(0:Int)=(0:Int)∧(0:Int)=x.1∧(↑l.length:Int)=x.2∧True)∧(a=a∧b=b∧c=c∧d=d∧True)∧True)∧∀ (x1:Int × Int),FbP l (jP a b c d) x1->bif decide (x1.1 < x1.2) then bif decide (rng IntKind.i64 (x1.1+x1.2)) then bif decide (rng IntKind.i64 ((x1.1+x1.2).tdiv 2)) then bif decide ((0:Int)≤(x1.1+x1.2).tdiv 2∧(x1.1+x1.2).tdiv 2 < (↑l.length:Int)) then ∃ n n_1 n_2 n_3,List.take [I6 n,I6 n_1,I6 n_2,I6 n_3].length (l.getD ((x1.1+x1.2).tdiv 2).toNat [])=[I6 n,I6 n_1,I6 n_2,I6 n_3]∧True∧bif YtgbbmadjdaphnaaGreatDoor.ltP [I6 n,I6 n_1,I6 n_2,I6 n_3] [I6 a,I6 b,I6 c,I6 d] then bif decide (rng IntKind.i64 ((x1.1+x1.2).tdiv 2+(1:Int))) then ∃ y,FbP l (jP a b c d) y∧(fbL g l a b c d).m y < (fbL g l a b c d).m x1∧(((bif g then g=true else True)∧l=l)∧(0:Nat)=(0:Nat)∧(0:Int)=(0:Int)∧(x1.1+x1.2).tdiv 2+(1:Int)=y.1∧x1.2=y.2∧True)∧(a=a∧b=b∧c=c∧d=d∧True)∧True else False else ∃ y,FbP l (jP a b c d) y∧(fbL g l a b c d).m y < (fbL g l a b c d).m x1∧(((bif g then g=true else True)∧l=l)∧(0:Nat)=(0:Nat)∧(0:Int)=(0:Int)∧x1.1=y.1∧(x1.1+x1.2).tdiv 2=y.2∧True)∧(a=a∧b=b∧c=c∧d=d∧True)∧True else False else False else False else bif decide (x1.1 < (↑l.length:Int)) then bif decide (0≤x1.1∧x1.1 < (↑l.length:Int)) then ∃ n n_1 n_2 n_3,List.take [I6 n,I6 n_1,I6 n_2,I6 n_3].length (l.getD x1.1.toNat [])=[I6 n,I6 n_1,I6 n_2,I6 n_3]∧bif decide (n=a)&&(decide (n_1=b)&&(decide (n_2=c)&&(decide (n_3=d)&&true))) then x1.1=fbG l (jP a b c d) else (-1:Int)=fbG l (jP a b c d) else False else (-1:Int)=fbG l (jP a b c d)
theorem aMN:aAw ltP:=by
 unfold aAw
 delta I6
 intro gl a b c d g l hP
 intros
 have g1:cond g (g=true) True:=gg g
 have hl:=hP.ln
 refine ⟨⟨(0,l.length),⟨Int.le_refl 0,by simp only; omega,Int.le_refl _,l.length,by simp only; omega,rfl⟩,by repeat' first|exact trivial|exact rfl|assumption|apply And.intro⟩,?_⟩
 rintro ⟨lo,hi⟩ ⟨h0,h1,h2,k,hk,go⟩
 simp only at h0 h1 h2 hk go
 have row:∀ i:Int,0≤i->i < l.length->l.getD i.toNat []=jP (nI (l.getD i.toNat []) 0) (nI (l.getD i.toNat []) 1) (nI (l.getD i.toNat []) 2) (nI (l.getD i.toNat []) 3):=λ i i0 i1=>by
  refine hP.el _ ?_
  rw [aB,aD (by omega)]
  exact List.getElem_mem _
 have et:(lo+hi).tdiv 2=(lo+hi) / 2:=Int.tdiv_eq_ediv_of_nonneg (by omega)
 rw [et]
 refine csp (λ q=>?_) (λ q=>?_)
 ·simp only at q
  have er:=row ((lo+hi) / 2) (by omega) (by omega)
  have er2:=congrArg (List.take 4) er
  obtain ⟨k',rfl⟩:∃ k',k=k'+1:=⟨k - 1,by omega⟩
  rw [fbB,if_pos q] at go
  refine cdI (by omega) (cdI (by omega) (cd1 (by omega) ⟨_,_,_,_,er2,trivial,?_⟩))
  rw [er] at go
  refine dJ (λ q2=>?_) (λ q2=>?_)
  ·have q2:ltP (jP (nI (l.getD ((lo+hi) / 2).toNat []) 0) (nI (l.getD ((lo+hi) / 2).toNat []) 1) (nI (l.getD ((lo+hi) / 2).toNat []) 2) (nI (l.getD ((lo+hi) / 2).toNat []) 3)) (jP a b c d)=true:=q2
   rw [if_pos q2] at go
   exact cdI (by omega) ⟨((lo+hi) / 2+1,hi),⟨by simp only; omega,by simp only; omega,by simp only; omega,k',by simp only; omega,go⟩,by simp only [fbL]; omega,by repeat' first|exact trivial|exact rfl|assumption|apply And.intro⟩
  ·have q2:ltP (jP (nI (l.getD ((lo+hi) / 2).toNat []) 0) (nI (l.getD ((lo+hi) / 2).toNat []) 1) (nI (l.getD ((lo+hi) / 2).toNat []) 2) (nI (l.getD ((lo+hi) / 2).toNat []) 3)) (jP a b c d)=false:=q2
   rw [if_neg (by rw [q2]; decide)] at go
   exact ⟨(lo,(lo+hi) / 2),⟨by simp only; omega,by simp only; omega,by simp only; omega,k',by simp only; omega,go⟩,by simp only [fbL]; omega,by repeat' first|exact trivial|exact rfl|assumption|apply And.intro⟩
 ·simp only at q
  obtain rfl:lo=hi:=by omega
  have go:lo=fbI l (jP a b c d):=by
   rw [← go]
   cases k with
   | zero=>rfl
   | succ k=>rw [fbB,if_neg q]
  unfold fbG
  rw [← go]
  refine csp (λ q2=>?_) (λ q2=>?_)
  ·simp only at q2
   have er:=row lo h0 q2
   have er2:=congrArg (List.take 4) er
   refine cd1 (by simp only; omega) ⟨_,_,_,_,er2,?_⟩
   refine dJ (λ q3=>?_) (λ q3=>?_)
   ·rw [if_pos ⟨q2,q3⟩]
   ·rw [if_neg]
    rintro ⟨_,e⟩
    have q3:aQO (l.getD lo.toNat []) (jP a b c d)=false:=q3
    rw [q3] at e; cases e
  ·rw [if_neg (λ e=>q2 e.1)]
theorem aMM (ltP:List AV->List AV->Bool):aAw ltP=(∀ (gl:aX) (a b c d:Int) (g:Bool) (l:LL),PlcP l->fnK Tryz.prog { glob:=gl,spec:=lk [(218,aAt)],specH:=lk [],shape:=[20,34],nowf:=true } { nt:=39,drop:=drp [(1,768),(2,3072),(3,122880),(4,4063232),(5,25165824),(6,33554432),(7,137371844608),(8,274877906944)],tys:=[27] } (xH [(2,fbL g l a b c d)]) 6 Tryz.f211 [.sl 4 g l,.agg [.int .i64 a,.int .i64 b,.int .i64 c,.int .i64 d]] (.int .i64 (fbG l (jP a b c d)))):=by kernel_rfl
def aML:=Eq.mp (aMM ..) (aMN)
theorem aJG (gl:aX):SOK Tryz.prog gl 211 (aAv ltP):=by
 refine ⟨fok Tryz.func211 (by kernel_rfl) (by kernel_rfl),?_⟩
 intro xs pre r h hp
 unfold aAv at h
 split at h
 ·cases h
  exact aT (aPI (by kernel_rfl)) (by exact aV rfl rfl ⟨(aJF gl),trivial⟩ trivial) (by kernel_rfl) Tryz.func211 rfl (aML gl _ _ _ _ _ _ hp)
 ·cases h
def atG (l:LL) (f a b:Int):Int:=fbG l (jP (nrm f a b (840 - a - b)).1 (nrm f a b (840 - a - b)).2.1 (nrm f a b (840 - a - b)).2.2.1 (nrm f a b (840 - a - b)).2.2.2)
def aMW (nrm:NrT) (vld:Int->Int->Int->Int->Bool) (fbG:LL->List AV->Int):Sp
 | [.sl 4 g l,.int .i64 f,.int .i64 a,.int .i64 b]=>some (PlcP l∧(0≤a∧a≤2000)∧0≤b∧b≤2000,.int .i64 (atG l f a b))
 | _=>none
def aMX (nrm:NrT) (vld:Int->Int->Int->Int->Bool) (fbG:LL->List AV->Int) (adr:Int->Int->Int->Int->LL) (ltP:List AV->List AV->Bool):Prop :=
 ∀ (gl:aX) (f a b:Int) (g:Bool) (l:LL),PlcP l∧(0≤a∧a≤(2000:Int))∧0≤b∧b≤(2000:Int)->True->IR9 f->IR9 a->IR9 b->bif decide (rng IntKind.i64 ((840:Int) - a)) then bif decide (rng IntKind.i64 ((840:Int) - a - b)) then True∧PlcP l∧YtgbbmadjdaphnaaGreatDoor.fbG l (jP (nrm f a b ((840:Int) - a - b)).1 (nrm f a b ((840:Int) - a - b)).2.1 (nrm f a b ((840:Int) - a - b)).2.2.1 (nrm f a b ((840:Int) - a - b)).2.2.2)=atG l f a b else False else False
theorem aVM:aMX nrm vld fbG adr ltP:=by
 unfold aMX
 intro gl f a b g l ⟨hP,ha,hb⟩
 intros
 exact cdI (by omega) (cdI (by omega) ⟨trivial,hP,rfl⟩)
theorem aVL (nrm:NrT) (vld:Int->Int->Int->Int->Bool) (fbG:LL->List AV->Int) (adr:Int->Int->Int->Int->LL) (ltP:List AV->List AV->Bool):aMX nrm vld fbG adr ltP=(∀ (gl:aX) (f a b:Int) (g:Bool) (l:LL),PlcP l∧(0≤a∧a≤2000)∧0≤b∧b≤2000->fnK Tryz.prog { glob:=gl,spec:=lk [(31,(lJ vld adr nrm)),(211,(aAv ltP))],specH:=lk [],nowf:=true } { nt:=26,drop:=drp [(1,8386560),(2,58720256)] } (λ _ _=>none) 6 Tryz.f189 [.sl 4 g l,.int .i64 f,.int .i64 a,.int .i64 b] (.int .i64 (atG l f a b))):=by kernel_rfl
def aVK:=Eq.mp (aVL ..) (aVM)
theorem aQ4 (gl:aX):SOK Tryz.prog gl 189 (aMW nrm vld fbG):=by
 refine ⟨fok Tryz.func189 (by kernel_rfl) (by kernel_rfl),?_⟩
 intro xs pre r h hp
 unfold aMW at h
 split at h
 ·cases h
  exact aT bD (by exact aV rfl rfl ⟨(sQ gl),(aJG gl),trivial⟩ trivial) (by kernel_rfl) Tryz.func189 rfl (aVK gl _ _ _ _ _ hp)
 ·cases h
def rqE (a b c:Int):List AV:=[.int .i64 (min (min a b) c),.int .i64 (a+b+c - min (min a b) c - max (max a b) c),.int .i64 (max (max a b) c)]
def aAC:Sp
 | [.int .i64 a,.int .i64 b,.int .i64 c]=>some ((-1≤a∧a≤2000)∧(-1≤b∧b≤2000)∧-1≤c∧c≤2000,.agg (rqE a b c))
 | _=>none
def aAD:Prop :=
 ∀ (gl:aX) (a b c:Int),((-1:Int)≤a∧a≤(2000:Int))∧((-1:Int)≤b∧b≤(2000:Int))∧(-1:Int)≤c∧c≤(2000:Int)->IR9 a->IR9 b->IR9 c->bif decide (rng IntKind.i64 (a+b)) then bif decide (rng IntKind.i64 (a+b+c)) then bif decide (rng IntKind.i64 (a+b+c - min (min a b) c)) then bif decide (rng IntKind.i64 (a+b+c - min (min a b) c - max (max a b) c)) then min (min a b) c=min (min a b) c∧a+b+c - min (min a b) c - max (max a b) c=a+b+c - min (min a b) c - max (max a b) c∧max (max a b) c=max (max a b) c∧True else False else False else False else False
theorem aMU:aAD:=by
 unfold aAD
 intro gl a b c ⟨ha,hb,hc⟩
 intros
 exact cdI (by omega) (cdI (by omega) (cdI (by omega) (cdI (by omega) (by repeat' first|exact trivial|exact rfl|assumption|apply And.intro))))
theorem aMT:aAD=(∀ (gl:aX) (a b c:Int),(-1≤a∧a≤2000)∧(-1≤b∧b≤2000)∧-1≤c∧c≤2000->fnK Tryz.prog { glob:=gl,spec:=lk [],specH:=lk [],nowf:=true } { nt:=31,drop:=drp [(1,2147483520)] } (λ _ _=>none) 6 Tryz.f188 [.int .i64 a,.int .i64 b,.int .i64 c] (.agg (rqE a b c))):=by kernel_rfl
def aMS:=Eq.mp (aMT ..) (aMU)
theorem aJT (gl:aX):SOK Tryz.prog gl 188 aAC:=by
 refine ⟨fok Tryz.func188 (by kernel_rfl) (by kernel_rfl),?_⟩
 intro xs pre r h hp
 unfold aAC at h
 split at h
 ·cases h
  exact aT bD (by exact aV rfl rfl trivial trivial) (by kernel_rfl) Tryz.func188 rfl (aMS gl _ _ _ hp)
 ·cases h
def ltC (r s:List AV):Bool:=decide (nI r 0 < nI s 0)||(decide (nI r 0=nI s 0)&&(decide (nI r 1 < nI s 1)||(decide (nI r 1=nI s 1)&&decide (nI r 2 < nI s 2))))
def inK (l:LL) (x:List AV):Nat->Nat
 | 0=>0
 | k+1=>if ltC x (l.getD k [])=true then inK l x k else k+1
def inG (l:LL) (x:List AV):LL:=l.take (inK l x l.length)++[x]++l.drop (inK l x l.length)
def jR (a b c:Int):List AV:=[.int .i64 a,.int .i64 b,.int .i64 c]
structure InsP (l:LL) (m:Nat):Prop where
 el:∀ r ∈ l,r=jR (nI r 0) (nI r 1) (nI r 2)
 ln:l.length≤1000
 eq:m=l.length
structure InS (l:LL) (x:List AV) (k:Int):Prop where
 lo:0≤k
 hi:k≤l.length
 go:inK l x k.toNat=inK l x l.length
def inI (l:LL) (a b c:Int):LInv:=⟨Int,λ k=>⟨[(0,.rw 0 3 l.length),(3,.ptr 1003 0),(4,.nils),(5,.int .i64 k)],[(0,.row 162 3 l),(1003,.cells [.int .i64 a,.int .i64 b,.int .i64 c])]⟩,InS l (jR a b c),λ k=>k.toNat,none⟩
structure InE (l:LL) (x:List AV) (k:Int):Prop where
 lo:0≤k
 hi:k≤l.length
 eq:inK l x l.length=k.toNat
def inJ (l:LL) (a b c:Int):LInv:=⟨Int,λ k=>⟨[(0,.rw 0 3 l.length),(3,.ptr 1003 0),(4,.nils),(5,.int .i64 k)],[(0,.row 162 3 l),(1003,.cells [.int .i64 a,.int .i64 b,.int .i64 c])]⟩,InE l (jR a b c),λ _=>0,none⟩
theorem aOc (l:LL) (z:List AV) (k:Nat) (hk:k≤l.length):(List.take (k+1) (l++[z])++List.take ((List.take (l.length+1 - k) (List.drop k (l++[z]))).length.min (l.length+1 - (k+1))) (List.take (l.length+1 - k) (List.drop k (l++[z])))++List.drop (k+1+(List.take (l.length+1 - k) (List.drop k (l++[z]))).length.min (l.length+1 - (k+1))) (l++[z])).length=l.length+1:=by
 have e1:(List.take (l.length+1 - k) (List.drop k (l++[z]))).length=l.length+1 - k:=by rw [List.length_take,List.length_drop,aG,aH]; omega
 rw [e1,show (l.length+1 - k).min (l.length+1 - (k+1))=l.length - k from by show min _ _=_; omega]
 simp only [aG,List.length_take,List.length_drop,aH]
 omega
theorem aSq (l:LL) (x z:List AV) (hz:z.length=x.length) (hr:∀ r ∈ l,r.length=x.length) (k:Nat) (hk:k≤l.length):setEl (List.take (k+1) (l++[z])++List.take ((List.take (l.length+1 - k) (List.drop k (l++[z]))).length.min (l.length+1 - (k+1))) (List.take (l.length+1 - k) (List.drop k (l++[z])))++List.drop (k+1+(List.take (l.length+1 - k) (List.drop k (l++[z]))).length.min (l.length+1 - (k+1))) (l++[z])) k 0 x=l.take k++[x]++l.drop k:=by
 have e1:(List.take (l.length+1 - k) (List.drop k (l++[z]))).length=l.length+1 - k:=by rw [List.length_take,List.length_drop,aG,aH]; omega
 rw [e1,show (l.length+1 - k).min (l.length+1 - (k+1))=l.length - k from by show min _ _=_; omega]
 have e2:List.drop (k+1+(l.length - k)) (l++[z])=[]:=List.drop_eq_nil_of_le (by rw [aG,aH]; omega)
 have e3:List.take (l.length - k) (List.take (l.length+1 - k) (List.drop k (l++[z])))=List.drop k l:=by
  rw [List.take_take,Nat.min_eq_left (by omega),List.drop_append_of_le_length hk,List.take_append_of_le_length (by rw [List.length_drop]; omega),List.take_of_length_le (by rw [List.length_drop]; omega)]
 have hkl:k < (l++[z]).length:=by rw [aG,aH]; omega
 have e4:List.take (k+1) (l++[z])=List.take k l++[(l++[z])[k]]:=by
  rw [List.take_succ_eq_append_getElem hkl,List.take_append_of_le_length hk]
 have hy:((l++[z])[k]).length=x.length:=by
  have hm:=List.getElem_mem hkl
  rcases List.mem_append.1 hm with h | h
  ·exact hr _ h
  ·rw [List.mem_singleton] at h; rw [h]; exact hz
 rw [e2,e3,e4,List.append_nil]
 generalize (l++[z])[k]=y at hy
 have hlt:(List.take k l).length=k:=by rw [List.length_take]; omega
 unfold setEl
 have e5:(List.take k l++[y]++List.drop k l).getD k []=y:=by
  rw [List.append_assoc,aB,List.getElem?_append_right (by omega),hlt,Nat.sub_self]; rfl
 rw [e5,List.append_assoc,List.set_append_right _ _ (by omega),hlt,Nat.sub_self]
 have e6:spl y 0 x=x:=by unfold spl; rw [List.take_zero,List.nil_append,Nat.zero_add,List.drop_eq_nil_of_le (by omega),List.append_nil]
 rw [e6,List.append_assoc]; rfl
def aFd:SpH
 | [.rw 0 3 m,.agg [.int .i64 a,.int .i64 b,.int .i64 c]],[.row 162 3 l]=>some (InsP l m,.rw 0 3 (m+1),[.row 162 3 (inG l (jR a b c))])
 | _,_=>none
abbrev cL (l:LL):=(l++[[AV.int IntKind.i64 0,AV.int IntKind.i64 0,AV.int IntKind.i64 0]])
abbrev aCl (x2:Int) (l:LL):=(List.take ((0:Nat)+(x2+(1:Int)).toNat) (cL l)++List.take ((List.take ((↑(cL l).length:Int).toNat - x2.toNat) (List.drop ((0:Nat)+x2.toNat) (cL l))).length.min ((↑(cL l).length:Int).toNat - (x2+(1:Int)).toNat)) (List.take ((↑(cL l).length:Int).toNat - x2.toNat) (List.drop ((0:Nat)+x2.toNat) (cL l)))++List.drop ((0:Nat)+(x2+(1:Int)).toNat+(List.take ((↑(cL l).length:Int).toNat - x2.toNat) (List.drop ((0:Nat)+x2.toNat) (cL l))).length.min ((↑(cL l).length:Int).toNat - (x2+(1:Int)).toNat)) (cL l))
abbrev sP (x1:Int) (l:LL):=(0≤x1 - (1:Int)∧x1 - (1:Int) < (↑l.length:Int))
abbrev sO (l:LL) (x1:Int):=(l.length=l.length∧(x1 - (1:Int)).toNat < l.length)
abbrev lH (x1:Int):=(rng IntKind.i64 (x1 - (1:Int)))
abbrev aFf (l:LL):=((0:Int)≤(↑(cL l).length:Int)∧(↑(cL l).length:Int)≤(↑(cL l).length:Int))
def aFe:Prop :=
 ∀ (gl:aX) (m:Nat) (a b c:Int) (l:LL),InsP l m->True->(IR9 a)∧(IR9 b)∧(IR9 c)∧True->((∃ x,InS l (jR a b c) x∧(m=l.length∧(0:Nat)=(0:Nat)∧True∧(↑m:Int)=x∧True)∧l=l∧(a=a∧b=b∧c=c∧True)∧True)∧∀ (x1:Int),InS l (jR a b c) x1->bif decide (0 < x1) then bif decide (lH x1) then bif decide (sP x1 l) then bif decide (sO l x1) then ∃ n,List.take [I6 n].length (List.drop 0 (l.getD (x1 - (1:Int)).toNat []))=[I6 n]∧bif decide (a < n) then bif decide (lH x1) then ∃ y,InS l (jR a b c) y∧(inI l a b c).m y < (inI l a b c).m x1∧(l.length=l.length∧(0:Nat)=(0:Nat)∧True∧x1 - (1:Int)=y∧True)∧l=l∧(a=a∧b=b∧c=c∧True)∧True else False else bif decide (lH x1) then bif decide (sP x1 l) then bif decide (sO l x1) then ∃ n,List.take [I6 n].length (List.drop 0 (l.getD (x1 - (1:Int)).toNat []))=[I6 n]∧bif decide (a=n) then bif decide (lH x1) then bif decide (sP x1 l) then bif decide (sO l x1) then ∃ n,List.take [I6 n].length (List.drop 1 (l.getD (x1 - (1:Int)).toNat []))=[I6 n]∧bif decide (b < n) then bif decide (lH x1) then ∃ y,InS l (jR a b c) y∧(inI l a b c).m y < (inI l a b c).m x1∧(l.length=l.length∧(0:Nat)=(0:Nat)∧True∧x1 - (1:Int)=y∧True)∧l=l∧(a=a∧b=b∧c=c∧True)∧True else False else bif decide (lH x1) then bif decide (sP x1 l) then bif decide (sO l x1) then ∃ n,List.take [I6 n].length (List.drop 1 (l.getD (x1 - (1:Int)).toNat []))=[I6 n]∧bif decide (b=n) then bif decide (lH x1) then bif decide (sP x1 l) then bif decide (sO l x1) then ∃ n,List.take [I6 n].length (List.drop 2 (l.getD (x1 - (1:Int)).toNat []))=[I6 n]∧bif decide (c < n) then bif decide (lH x1) then ∃ y,InS l (jR a b c) y∧(inI l a b c).m y < (inI l a b c).m x1∧(l.length=l.length∧(0:Nat)=(0:Nat)∧True∧x1 - (1:Int)=y∧True)∧l=l∧(a=a∧b=b∧c=c∧True)∧True else False else ∃ x_1,InE l (jR a b c) x_1∧(l.length=l.length∧(0:Nat)=(0:Nat)∧True∧x1=x_1∧True)∧l=l∧(a=a∧b=b∧c=c∧True)∧True else False else False else False else ∃ x_1,InE l (jR a b c) x_1∧(l.length=l.length∧(0:Nat)=(0:Nat)∧True∧x1=x_1∧True)∧l=l∧(a=a∧b=b∧c=c∧True)∧True else False else False else False else False else False else False else ∃ x_1,InE l (jR a b c) x_1∧(l.length=l.length∧(0:Nat)=(0:Nat)∧True∧x1=x_1∧True)∧l=l∧(a=a∧b=b∧c=c∧True)∧True else False else False else False else False else False else False else ∃ x_1,InE l (jR a b c) x_1∧(l.length=l.length∧(0:Nat)=(0:Nat)∧True∧x1=x_1∧True)∧l=l∧(a=a∧b=b∧c=c∧True)∧True)∧∀ (x2:Int),InE l (jR a b c) x2->bif decide (l.length=l.length∧l.length+(1:Nat)≤(9223372036854775807:Nat)∧(l.length+(1:Nat))*(24:Nat)≤(140737488355328:Nat)) then bif decide (rng IntKind.i64 (x2+(1:Int))) then bif decide (aFf l) then bif decide (0≤x2+(1:Int)∧x2+(1:Int)≤(↑(cL l).length:Int)) then bif decide (aFf l) then bif decide (0≤x2∧x2≤(↑(cL l).length:Int)) then bif decide ((cL l).length=(cL l).length∧(0:Nat)+x2.toNat+((↑(cL l).length:Int).toNat - x2.toNat)≤(cL l).length) then bif decide ((cL l).length=(cL l).length∧(0:Nat)+(x2+(1:Int)).toNat+((↑(cL l).length:Int).toNat - (x2+(1:Int)).toNat)≤(cL l).length) then bif decide (0≤x2∧x2 < (↑(cL l).length:Int)) then bif decide ((cL l).length=(aCl x2 l).length∧x2.toNat < (aCl x2 l).length) then (cL l).length=m+(1:Nat)∧setEl (aCl x2 l) x2.toNat 0 [I6 a,I6 b,I6 c]=inG l (jR a b c)∧True else False else False else False else False else False else False else False else False else False else False
theorem aQ0:aFe:=by
 unfold aFe
 delta cL aCl sP sO lH aFf I6
 intro gl m a b c l hP
 intros
 have hl:=hP.ln
 have hm:=hP.eq
 subst hm
 have row:∀ i:Int,0≤i->i < l.length->l.getD i.toNat []=jR (nI (l.getD i.toNat []) 0) (nI (l.getD i.toNat []) 1) (nI (l.getD i.toNat []) 2):=λ i i0 i1=>by
  refine hP.el _ ?_
  rw [aB,aD (by omega)]
  exact List.getElem_mem _
 refine ⟨⟨⟨(l.length:Int),⟨by omega,Int.le_refl _,by rw [Int.toNat_natCast]⟩,by repeat' first|exact trivial|exact rfl|assumption|apply And.intro⟩,?_⟩,?_⟩
 ·rintro x ⟨x0,xl,go⟩
  have fin:inK l (jR a b c) x.toNat=x.toNat->InE l (jR a b c) x:=λ e=>⟨x0,xl,by rw [← go,e]⟩
  refine csp (λ q=>?_) (λ q=>⟨x,fin (by rw [show x.toNat=0 by omega]; rfl),by repeat' first|exact trivial|exact rfl|assumption|apply And.intro⟩)
  obtain ⟨k,hk⟩:∃ k,x.toNat=k+1:=⟨x.toNat - 1,by omega⟩
  have hk':(x - 1).toNat=k:=by omega
  have er:=row (x - 1) (by omega) (by omega)
  rw [hk'] at er
  rw [hk']
  have e0:List.take 1 (List.drop 0 (l.getD k []))=[AV.int .i64 (nI (l.getD k []) 0)]:=congrArg (λ r=>List.take 1 (List.drop 0 r)) er
  have e1:List.take 1 (List.drop 1 (l.getD k []))=[AV.int .i64 (nI (l.getD k []) 1)]:=congrArg (λ r=>List.take 1 (List.drop 1 r)) er
  have e2:List.take 1 (List.drop 2 (l.getD k []))=[AV.int .i64 (nI (l.getD k []) 2)]:=congrArg (λ r=>List.take 1 (List.drop 2 r)) er
  have hK:inK l (jR a b c) (k+1)=if ltC (jR a b c) (l.getD k [])=true then inK l (jR a b c) k else k+1:=rfl
  have hT:ltC (jR a b c) (l.getD k [])=(decide (a < nI (l.getD k []) 0)||(decide (a=nI (l.getD k []) 0)&&(decide (b < nI (l.getD k []) 1)||(decide (b=nI (l.getD k []) 1)&&decide (c < nI (l.getD k []) 2))))):=rfl
  have on:ltC (jR a b c) (l.getD k [])=true->InS l (jR a b c) (x - 1):=λ e=>⟨by omega,by omega,by rw [hk',← go,hk,hK,if_pos e]⟩
  have off:ltC (jR a b c) (l.getD k [])=false->InE l (jR a b c) x:=λ e=>fin (by rw [hk,hK,if_neg (by rw [e]; decide)])
  generalize l.getD k []=r at *
  refine cdI (by omega) (cd1 (by omega) (cd1 (by omega) ⟨_,e0,csp (λ qa=>?_) (λ qa=>?_)⟩))
  ·exact cdI (by omega) ⟨x - 1,on (by rw [hT,decide_eq_true qa]; rfl),by simp only [inI]; omega,by repeat' first|exact trivial|exact rfl|assumption|apply And.intro⟩
  ·refine cdI (by omega) (cd1 (by omega) (cd1 (by omega) ⟨_,e0,csp (λ qb=>?_) (λ qb=>?_)⟩))
   ·refine cdI (by omega) (cd1 (by omega) (cd1 (by omega) ⟨_,e1,csp (λ qc=>?_) (λ qc=>?_)⟩))
    ·exact cdI (by omega) ⟨x - 1,on (by rw [hT,decide_eq_true qb,decide_eq_true qc]; simp),by simp only [inI]; omega,by repeat' first|exact trivial|exact rfl|assumption|apply And.intro⟩
    ·refine cdI (by omega) (cd1 (by omega) (cd1 (by omega) ⟨_,e1,csp (λ qd=>?_) (λ qd=>?_)⟩))
     ·refine cdI (by omega) (cd1 (by omega) (cd1 (by omega) ⟨_,e2,csp (λ qe=>?_) (λ qe=>?_)⟩))
      ·exact cdI (by omega) ⟨x - 1,on (by rw [hT,decide_eq_true qb,decide_eq_true qd,decide_eq_true qe]; simp),by simp only [inI]; omega,by repeat' first|exact trivial|exact rfl|assumption|apply And.intro⟩
      ·exact ⟨x,off (by rw [hT,decide_eq_false qa,decide_eq_false qc,decide_eq_false qe]; simp),by repeat' first|exact trivial|exact rfl|assumption|apply And.intro⟩
     ·exact ⟨x,off (by rw [hT,decide_eq_false qa,decide_eq_false qc,decide_eq_false qd]; simp),by repeat' first|exact trivial|exact rfl|assumption|apply And.intro⟩
   ·exact ⟨x,off (by rw [hT,decide_eq_false qa,decide_eq_false qb]; rfl),by repeat' first|exact trivial|exact rfl|assumption|apply And.intro⟩
 ·rintro x ⟨x0,xl,eq⟩
  obtain ⟨k,rfl⟩:∃ k:Nat,x=(k:Int):=⟨x.toNat,by omega⟩
  rw [Int.toNat_natCast] at eq
  have hk:k≤l.length:=by omega
  have hL:(l++[[AV.int .i64 0,.int .i64 0,.int .i64 0]]).length=l.length+1:=by rw [aG]; rfl
  have hx1:((k:Int)+1).toNat=k+1:=by omega
  have ec:=aSq l [.int .i64 a,.int .i64 b,.int .i64 c] [.int .i64 0,.int .i64 0,.int .i64 0] rfl (λ r hr=>by rw [hP.el r hr]; rfl) k hk
  have el:=aOc l [.int .i64 0,.int .i64 0,.int .i64 0] k hk
  rw [hL,hx1,Int.toNat_natCast,Int.toNat_natCast,Nat.zero_add,Nat.zero_add]
  refine cd1 ⟨rfl,by omega,by omega⟩ (cdI (by omega) (cd1 (by omega) (cd1 (by omega) (cd1 (by omega) (cd1 (by omega) (cd1 ⟨rfl,by omega⟩ (cd1 ⟨rfl,by omega⟩ (cd1 (by omega) ?_))))))))
  refine cd1 ⟨el.symm,by rw [el]; omega⟩ ⟨rfl,?_,trivial⟩
  rw [ec]
  unfold inG
  rw [eq]
  rfl
theorem aQZ:aFe=(∀ (gl:aX) (m:Nat) (a b c:Int) (l:LL),InsP l m->fnH Tryz.prog { glob:=gl,spec:=lk [],specH:=lk [],shape:=[18,28,38,48,58],nowf:=true } { nt:=84,drop:=drp [(1,192),(2,18446744073709551360),(3,110680464442257309696),(4,2213609288845146193920),(5,299870271662222471069696),(6,9066943647109718810296320),(7,9671406556917033397649408)],fr:=1000,kp:=[0],own:=true } (xH [(2,inI l a b c),(100004,inJ l a b c)]) 6 Tryz.f187 [.rw 0 3 m,.agg [.int .i64 a,.int .i64 b,.int .i64 c]] [.row 162 3 l] (.rw 0 3 (m+1)) [.row 162 3 (inG l (jR a b c))]):=by kernel_rfl
def aQY:=Eq.mp (aQZ ..) (aQ0)
theorem aMK (gl:aX):HOK Tryz.prog gl 187 aFd:=by
 refine ⟨fok Tryz.func187 (by kernel_rfl) (by kernel_rfl),?_⟩
 intro xs bs pre r bs2 h hp
 unfold aFd at h
 split at h
 ·cases h
  exact bC bD (by exact aV rfl rfl trivial trivial) (by kernel_rfl) Tryz.func187 (aQY gl _ _ _ _ _ hp)
 ·cases h
theorem aHz (l:LL) (p:List AV):∀ (k:Nat) (lo hi:Int),lo≤fbB l p k lo hi
 | 0,lo,hi=>Int.le_refl _
 | k+1,lo,hi=>by
  rw [fbB]
  split
  ·split
   ·have:=aHz l p k ((lo+hi) / 2+1) hi; omega
   ·exact aHz l p k lo _
  ·exact Int.le_refl _
theorem aWG (l:LL) (p:List AV):-1≤fbG l p∧(fbG l p:Int)≤l.length:=by
 have h0:=aHz l p l.length 0 l.length
 unfold fbG
 split
 ·rename_i q; exact ⟨by unfold fbI; omega,by omega⟩
 ·omega
def rc1 (l:LL) (h f a b:Int):List AV:=rqE (atG l f (a+h) b) (atG l f a (b+h)) (atG l f a b)
def rc2 (l:LL) (h f a b:Int):List AV:=rqE (atG l f a (b+h)) (atG l f (a+h) b) (atG l f (a+h) (b+h))
def rcS (l:LL) (h f a b:Int) (s:LL):LL:=if a+b≤840 - 2*h then inG (inG s (rc1 l h f a b)) (rc2 l h f a b) else inG s (rc1 l h f a b)
def rcB (l:LL) (h f a b:Int) (s:LL):LL:=aI4 (rcS l h f a) h b (840 - h - a) s
def rcA (l:LL) (h f a:Int) (s:LL):LL:=aI4 (λ a s=>rcB l h f a 0 s) h a (840 - h) s
def rcF (l:LL) (h f:Int) (s:LL):LL:=rY (λ f s=>rcA l h f 0 s) f 20 s
def rcG (n:Int):LL:=rcF (rqG n) (hN n) 0 []
structure Ce3 (s:LL):Prop where
 el:∀ r ∈ s,r=jR (nI r 0) (nI r 1) (nI r 2)
theorem Ce3.ins {s:LL} (h:Ce3 s) (a b c:Int):Ce3 (inG s (rqE a b c)):=⟨λ r hr=>by
 simp only [inG,List.mem_append,List.mem_singleton] at hr
 rcases hr with (hr | rfl) | hr
 ·exact h.el r (List.mem_of_mem_take hr)
 ·rfl
 ·exact h.el r (List.mem_of_mem_drop hr)⟩
theorem aLI (l:LL) (x:List AV):∀ k,inK l x k≤k
 | 0=>Nat.le_refl _
 | k+1=>by
  rw [inK]
  split
  ·have:=aLI l x k; omega
  ·exact Nat.le_refl _
theorem aGL (l:LL) (x:List AV):(inG l x).length=l.length+1:=by
 have:=aLI l x l.length
 simp only [inG,aG,List.length_take,List.length_drop,aH]; omega
structure RcX (l:LL) (h:Int) (fin:LL) (x:Int × LL):Prop where
 lo:0≤x.1
 hi:x.1≤20
 go:rcF l h x.1 x.2=fin
 sm:(x.2.length:Int)≤24*x.1
 ok:Ce3 x.2
structure RcY (l:LL) (h f:Int) (fin:LL) (x:Int × LL):Prop where
 fl:0≤f∧f < 20
 lo:0≤x.1
 hi:x.1≤840
 go:rcF l h (f+1) (rcA l h f x.1 x.2)=fin
 sm:(x.2.length:Int)≤24*f+6*(x.1 / 420)
 ok:Ce3 x.2
structure RcZ (l:LL) (h f a:Int) (fin:LL) (x:Int × LL):Prop where
 fl:0≤f∧f < 20
 al:0≤a∧a≤840 - h
 lo:0≤x.1
 hi:x.1≤840 - a
 go:rcF l h (f+1) (rcA l h f (a+h) (rcB l h f a x.1 x.2))=fin
 sm:(x.2.length:Int)≤24*f+6*(a / 420)+2*(x.1 / 420)
 ok:Ce3 x.2
def rc7 (n:Int):LInv:=⟨Int × LL,λ x=>⟨[(4,.sl 4 false (rqG n)),(6,.int .i64 (hN n)),(7,.rw 700 3 x.2.length),(8,.int .i64 x.1)],[(700,.row 162 3 x.2)]⟩,RcX (rqG n) (hN n) (rcG n),λ x=>(20 - x.1).toNat,none⟩
def aUK (n f:Int):LInv:=⟨Int × LL,λ x=>⟨[(4,.sl 4 false (rqG n)),(6,.int .i64 (hN n)),(7,.rw 700 3 x.2.length),(8,.int .i64 f),(9,.int .i64 x.1)],[(700,.row 162 3 x.2)]⟩,RcY (rqG n) (hN n) f (rcG n),λ x=>(840 - x.1).toNat,none⟩
def aMV (n f a:Int):LInv:=⟨Int × LL,λ x=>⟨[(4,.sl 4 false (rqG n)),(6,.int .i64 (hN n)),(7,.rw 700 3 x.2.length),(8,.int .i64 f),(9,.int .i64 a),(10,.int .i64 x.1)],[(700,.row 162 3 x.2)]⟩,RcZ (rqG n) (hN n) f a (rcG n),λ x=>(840 - a - x.1).toNat,none⟩
def uP:Sp
 | [.int .i64 n]=>some ((1≤n∧n≤2)∧PlcP (rqG n),.tup [.sl 3 false (rcG n),.int .i64 0])
 | _=>none
def uQ (isN:Int->Int->Int->Int->Bool) (nrm:NrT) (vld:Int->Int->Int->Int->Bool) (fbG:LL->List AV->Int):Prop :=
 ∀ (gl:aX) (n:Int),(1≤n∧n≤(2:Int))∧PlcP (rqG n)->IR9 n->(1≤n∧n≤(2:Int))∧bif decide ¬n=(0:Int) then bif decide (rng IntKind.i64 (Int.tdiv 840 n)) then (∃ x,RcX (rqG n) (hN n) (rcG n) x∧((True∧rqG n=rqG n)∧Int.tdiv 840 n=hN n∧(0:Nat)=List.length x.2∧(0:Int)=x.1∧True)∧[]=x.2∧True)∧∀ (x:Int × LL),RcX (rqG n) (hN n) (rcG n) x->bif decide (x.1 < (20:Int)) then (∃ x_1,RcY (rqG n) (hN n) x.1 (rcG n) x_1∧((True∧rqG n=rqG n)∧hN n=hN n∧List.length x.2=List.length x_1.2∧x.1=x.1∧(0:Int)=x_1.1∧True)∧x.2=x_1.2∧True)∧∀ (x_1:Int × LL),RcY (rqG n) (hN n) x.1 (rcG n) x_1->bif decide (rng IntKind.i64 ((840:Int) - hN n)) then bif decide (x_1.1≤(840:Int) - hN n) then (∃ x_2,RcZ (rqG n) (hN n) x.1 x_1.1 (rcG n) x_2∧((True∧rqG n=rqG n)∧hN n=hN n∧List.length x_1.2=List.length x_2.2∧x.1=x.1∧x_1.1=x_1.1∧(0:Int)=x_2.1∧True)∧x_1.2=x_2.2∧True)∧∀ (x_2:Int × LL),RcZ (rqG n) (hN n) x.1 x_1.1 (rcG n) x_2->bif decide (rng IntKind.i64 (x_1.1+x_2.1)) then bif decide (rng IntKind.i64 ((840:Int) - hN n)) then bif decide (x_1.1+x_2.1≤(840:Int) - hN n) then bif decide (rng IntKind.i64 (x_1.1+hN n)) then (PlcP (rqG n)∧(0≤x_1.1+hN n∧x_1.1+hN n≤(2000:Int))∧0≤x_2.1∧x_2.1≤(2000:Int))∧bif decide (rng IntKind.i64 (x_2.1+hN n)) then (PlcP (rqG n)∧(0≤x_1.1∧x_1.1≤(2000:Int))∧0≤x_2.1+hN n∧x_2.1+hN n≤(2000:Int))∧(PlcP (rqG n)∧(0≤x_1.1∧x_1.1≤(2000:Int))∧0≤x_2.1∧x_2.1≤(2000:Int))∧(((-1:Int)≤atG (rqG n) x.1 (x_1.1+hN n) x_2.1∧atG (rqG n) x.1 (x_1.1+hN n) x_2.1≤(2000:Int))∧((-1:Int)≤atG (rqG n) x.1 x_1.1 (x_2.1+hN n)∧atG (rqG n) x.1 x_1.1 (x_2.1+hN n)≤(2000:Int))∧(-1:Int)≤atG (rqG n) x.1 x_1.1 x_2.1∧atG (rqG n) x.1 x_1.1 x_2.1≤(2000:Int))∧InsP x_2.2 (List.length x_2.2)∧bif decide (rng IntKind.i64 (x_1.1+x_2.1)) then bif decide (rng IntKind.i64 ((2:Int)*hN n)) then bif decide (rng IntKind.i64 ((840:Int) - (2:Int)*hN n)) then bif decide (x_1.1+x_2.1≤(840:Int) - (2:Int)*hN n) then bif decide (rng IntKind.i64 (x_2.1+hN n)) then (PlcP (rqG n)∧(0≤x_1.1∧x_1.1≤(2000:Int))∧0≤x_2.1+hN n∧x_2.1+hN n≤(2000:Int))∧bif decide (rng IntKind.i64 (x_1.1+hN n)) then (PlcP (rqG n)∧(0≤x_1.1+hN n∧x_1.1+hN n≤(2000:Int))∧0≤x_2.1∧x_2.1≤(2000:Int))∧bif decide (rng IntKind.i64 (x_1.1+hN n)) then bif decide (rng IntKind.i64 (x_2.1+hN n)) then (PlcP (rqG n)∧(0≤x_1.1+hN n∧x_1.1+hN n≤(2000:Int))∧0≤x_2.1+hN n∧x_2.1+hN n≤(2000:Int))∧(((-1:Int)≤atG (rqG n) x.1 x_1.1 (x_2.1+hN n)∧atG (rqG n) x.1 x_1.1 (x_2.1+hN n)≤(2000:Int))∧((-1:Int)≤atG (rqG n) x.1 (x_1.1+hN n) x_2.1∧atG (rqG n) x.1 (x_1.1+hN n) x_2.1≤(2000:Int))∧(-1:Int)≤atG (rqG n) x.1 (x_1.1+hN n) (x_2.1+hN n)∧atG (rqG n) x.1 (x_1.1+hN n) (x_2.1+hN n)≤(2000:Int))∧InsP (inG x_2.2 (jR (min (min (atG (rqG n) x.1 (x_1.1+hN n) x_2.1) (atG (rqG n) x.1 x_1.1 (x_2.1+hN n))) (atG (rqG n) x.1 x_1.1 x_2.1)) (atG (rqG n) x.1 (x_1.1+hN n) x_2.1+atG (rqG n) x.1 x_1.1 (x_2.1+hN n)+atG (rqG n) x.1 x_1.1 x_2.1 - min (min (atG (rqG n) x.1 (x_1.1+hN n) x_2.1) (atG (rqG n) x.1 x_1.1 (x_2.1+hN n))) (atG (rqG n) x.1 x_1.1 x_2.1) - max (max (atG (rqG n) x.1 (x_1.1+hN n) x_2.1) (atG (rqG n) x.1 x_1.1 (x_2.1+hN n))) (atG (rqG n) x.1 x_1.1 x_2.1)) (max (max (atG (rqG n) x.1 (x_1.1+hN n) x_2.1) (atG (rqG n) x.1 x_1.1 (x_2.1+hN n))) (atG (rqG n) x.1 x_1.1 x_2.1)))) (List.length x_2.2+(1:Nat))∧bif decide (rng IntKind.i64 (x_2.1+hN n)) then ∃ y,RcZ (rqG n) (hN n) x.1 x_1.1 (rcG n) y∧(aMV n x.1 x_1.1).m y < (aMV n x.1 x_1.1).m x_2∧((True∧rqG n=rqG n)∧hN n=hN n∧List.length x_2.2+(1:Nat)+(1:Nat)=List.length y.2∧x.1=x.1∧x_1.1=x_1.1∧x_2.1+hN n=y.1∧True)∧inG (inG x_2.2 (jR (min (min (atG (rqG n) x.1 (x_1.1+hN n) x_2.1) (atG (rqG n) x.1 x_1.1 (x_2.1+hN n))) (atG (rqG n) x.1 x_1.1 x_2.1)) (atG (rqG n) x.1 (x_1.1+hN n) x_2.1+atG (rqG n) x.1 x_1.1 (x_2.1+hN n)+atG (rqG n) x.1 x_1.1 x_2.1 - min (min (atG (rqG n) x.1 (x_1.1+hN n) x_2.1) (atG (rqG n) x.1 x_1.1 (x_2.1+hN n))) (atG (rqG n) x.1 x_1.1 x_2.1) - max (max (atG (rqG n) x.1 (x_1.1+hN n) x_2.1) (atG (rqG n) x.1 x_1.1 (x_2.1+hN n))) (atG (rqG n) x.1 x_1.1 x_2.1)) (max (max (atG (rqG n) x.1 (x_1.1+hN n) x_2.1) (atG (rqG n) x.1 x_1.1 (x_2.1+hN n))) (atG (rqG n) x.1 x_1.1 x_2.1)))) (jR (min (min (atG (rqG n) x.1 x_1.1 (x_2.1+hN n)) (atG (rqG n) x.1 (x_1.1+hN n) x_2.1)) (atG (rqG n) x.1 (x_1.1+hN n) (x_2.1+hN n))) (atG (rqG n) x.1 x_1.1 (x_2.1+hN n)+atG (rqG n) x.1 (x_1.1+hN n) x_2.1+atG (rqG n) x.1 (x_1.1+hN n) (x_2.1+hN n) - min (min (atG (rqG n) x.1 x_1.1 (x_2.1+hN n)) (atG (rqG n) x.1 (x_1.1+hN n) x_2.1)) (atG (rqG n) x.1 (x_1.1+hN n) (x_2.1+hN n)) - max (max (atG (rqG n) x.1 x_1.1 (x_2.1+hN n)) (atG (rqG n) x.1 (x_1.1+hN n) x_2.1)) (atG (rqG n) x.1 (x_1.1+hN n) (x_2.1+hN n))) (max (max (atG (rqG n) x.1 x_1.1 (x_2.1+hN n)) (atG (rqG n) x.1 (x_1.1+hN n) x_2.1)) (atG (rqG n) x.1 (x_1.1+hN n) (x_2.1+hN n))))=y.2∧True else False else False else False else False else False else bif decide (rng IntKind.i64 (x_2.1+hN n)) then ∃ y,RcZ (rqG n) (hN n) x.1 x_1.1 (rcG n) y∧(aMV n x.1 x_1.1).m y < (aMV n x.1 x_1.1).m x_2∧((True∧rqG n=rqG n)∧hN n=hN n∧List.length x_2.2+(1:Nat)=List.length y.2∧x.1=x.1∧x_1.1=x_1.1∧x_2.1+hN n=y.1∧True)∧inG x_2.2 (jR (min (min (atG (rqG n) x.1 (x_1.1+hN n) x_2.1) (atG (rqG n) x.1 x_1.1 (x_2.1+hN n))) (atG (rqG n) x.1 x_1.1 x_2.1)) (atG (rqG n) x.1 (x_1.1+hN n) x_2.1+atG (rqG n) x.1 x_1.1 (x_2.1+hN n)+atG (rqG n) x.1 x_1.1 x_2.1 - min (min (atG (rqG n) x.1 (x_1.1+hN n) x_2.1) (atG (rqG n) x.1 x_1.1 (x_2.1+hN n))) (atG (rqG n) x.1 x_1.1 x_2.1) - max (max (atG (rqG n) x.1 (x_1.1+hN n) x_2.1) (atG (rqG n) x.1 x_1.1 (x_2.1+hN n))) (atG (rqG n) x.1 x_1.1 x_2.1)) (max (max (atG (rqG n) x.1 (x_1.1+hN n) x_2.1) (atG (rqG n) x.1 x_1.1 (x_2.1+hN n))) (atG (rqG n) x.1 x_1.1 x_2.1)))=y.2∧True else False else False else False else False else False else False else bif decide (rng IntKind.i64 (x_1.1+hN n)) then ∃ y,RcY (rqG n) (hN n) x.1 (rcG n) y∧(aUK n x.1).m y < (aUK n x.1).m x_1∧((True∧rqG n=rqG n)∧hN n=hN n∧List.length x_2.2=List.length y.2∧x.1=x.1∧x_1.1+hN n=y.1∧True)∧x_2.2=y.2∧True else False else False else False else bif decide (rng IntKind.i64 (x.1+(1:Int))) then ∃ y,RcX (rqG n) (hN n) (rcG n) y∧((λ x=>rc7 n) 0).m y < ((λ x=>rc7 n) 0).m x∧((True∧rqG n=rqG n)∧hN n=hN n∧List.length x_1.2=List.length y.2∧x.1+(1:Int)=y.1∧True)∧x_1.2=y.2∧True else False else False else bif decide (List.length x.2=List.length x.2) then (True∧x.2=rcG n)∧(0:Int)=(0:Int)∧True else False else False else False
theorem aJS:uQ isN nrm vld fbG:=by
 unfold uQ
 intro gl n ⟨⟨n1,n2⟩,hR⟩
 intros
 have hh:H12 (hN n):=by rcases (show n=1∨n=2 by omega) with rfl | rfl <;> exact ⟨by decide⟩
 have eh:Int.tdiv 840 n=hN n:=rfl
 have hb:=hh.eq
 have hl:=hR.ln
 have at_:∀ f a b,-1≤atG (rqG n) f a b∧atG (rqG n) f a b≤2000:=λ f a b=>by have:=aWG (rqG n) (jP (nrm f a b (840 - a - b)).1 (nrm f a b (840 - a - b)).2.1 (nrm f a b (840 - a - b)).2.2.1 (nrm f a b (840 - a - b)).2.2.2); unfold atG; omega
 refine ⟨⟨n1,n2⟩,cd1 (by omega) (cdI (by rw [eh]; omega) ⟨⟨(0,[]),⟨by decide,by decide,rfl,by decide,⟨λ r hr=>by cases hr⟩⟩,by repeat' first|exact trivial|exact rfl|assumption|apply And.intro⟩,?_⟩)⟩
 rintro ⟨f,s⟩ ⟨f0,f20,fg,fs,fk⟩
 simp only at f0 f20 fg fs fk
 refine csp (λ q=>⟨⟨(0,s),⟨⟨f0,q⟩,Int.le_refl 0,by simp only; omega,(iL q).symm.trans fg,by simp only; omega,fk⟩,by repeat' first|exact trivial|exact rfl|assumption|apply And.intro⟩,?_⟩) (λ q=>?_)
 ·clear fg fs fk
  simp only at q
  rintro ⟨a,s⟩ ⟨_,a0,a1,ag,as_,ak⟩
  simp only at a0 a1 ag as_ ak
  refine cdI (by omega) (csp (λ qA=>⟨⟨(0,s),⟨⟨f0,q⟩,⟨a0,qA⟩,Int.le_refl 0,by simp only at qA ⊢; omega,(show rcA (rqG n) (hN n) f a s=rcA (rqG n) (hN n) f (a+hN n) (rcB (rqG n) (hN n) f a 0 s) from tV hh qA) ▸ ag,by simp only; omega,ak⟩,by repeat' first|exact trivial|exact rfl|assumption|apply And.intro⟩,?_⟩) (λ qA=>?_))
  ·clear ag as_ ak
   simp only at qA
   rintro ⟨b,s⟩ ⟨_,_,b0,b1,bg,bs,bk⟩
   simp only at b0 b1 bg bs bk
   refine cdI (by simp only; omega) (cdI (by omega) (csp (λ qB=>?_) (λ qB=>?_)))
   ·simp only at qB
    rw [show rcB (rqG n) (hN n) f a b s=rcB (rqG n) (hN n) f a (b+hN n) (rcS (rqG n) (hN n) f a b s) from tV hh (by omega)] at bg
    have i1:InsP s s.length:=⟨bk.el,by omega,rfl⟩
    have k1:Ce3 (inG s (rc1 (rqG n) (hN n) f a b)):=bk.ins _ _ _
    have k2:Ce3 (inG (inG s (rc1 (rqG n) (hN n) f a b)) (rc2 (rqG n) (hN n) f a b)):=k1.ins _ _ _
    have l1:=aGL s (rc1 (rqG n) (hN n) f a b)
    have l2:=aGL (inG s (rc1 (rqG n) (hN n) f a b)) (rc2 (rqG n) (hN n) f a b)
    have i2:InsP (inG s (rc1 (rqG n) (hN n) f a b)) (s.length+1):=⟨k1.el,by omega,l1.symm⟩
    refine cdI (by simp only; omega) ⟨⟨hR,by simp only; omega,by simp only; omega⟩,cdI (by simp only; omega) ⟨⟨hR,by simp only; omega,by simp only; omega⟩,⟨hR,by simp only; omega,by simp only; omega⟩,⟨at_ _ _ _,at_ _ _ _,at_ _ _ _⟩,i1,cdI (by simp only; omega) (cdI (by omega) (cdI (by omega) (csp (λ qc=>?_) (λ qc=>?_))))⟩⟩
    ·rw [show rcS (rqG n) (hN n) f a b s=inG (inG s (rc1 (rqG n) (hN n) f a b)) (rc2 (rqG n) (hN n) f a b) from if_pos qc] at bg
     exact cdI (by simp only; omega) ⟨⟨hR,by simp only; omega,by simp only; omega⟩,cdI (by simp only; omega) ⟨⟨hR,by simp only; omega,by simp only; omega⟩,cdI (by simp only; omega) (cdI (by simp only; omega) ⟨⟨hR,by simp only; omega,by simp only; omega⟩,⟨at_ _ _ _,at_ _ _ _,at_ _ _ _⟩,i2,cdI (by simp only; omega) ⟨(b+hN n,inG (inG s (rc1 (rqG n) (hN n) f a b)) (rc2 (rqG n) (hN n) f a b)),⟨⟨f0,q⟩,⟨a0,qA⟩,by simp only; omega,by simp only; omega,bg,by simp only; omega,k2⟩,by simp only [aMV]; omega,⟨⟨trivial,rfl⟩,rfl,by simp only; omega,rfl,rfl,rfl,trivial⟩,rfl,trivial⟩⟩)⟩⟩
    ·rw [show rcS (rqG n) (hN n) f a b s=inG s (rc1 (rqG n) (hN n) f a b) from if_neg qc] at bg
     exact cdI (by simp only; omega) ⟨(b+hN n,inG s (rc1 (rqG n) (hN n) f a b)),⟨⟨f0,q⟩,⟨a0,qA⟩,by simp only; omega,by simp only; omega,bg,by simp only; omega,k1⟩,by simp only [aMV]; omega,⟨⟨trivial,rfl⟩,rfl,by simp only; omega,rfl,rfl,rfl,trivial⟩,rfl,trivial⟩
   ·simp only at qB
    rw [show rcB (rqG n) (hN n) f a b s=s from tW hh (by omega)] at bg
    exact cdI (by simp only; omega) ⟨(a+hN n,s),⟨⟨f0,q⟩,by simp only; omega,by simp only; omega,bg,by simp only; omega,bk⟩,by simp only [aUK]; omega,by repeat' first|exact trivial|exact rfl|assumption|apply And.intro⟩
  ·simp only at qA
   rw [show rcA (rqG n) (hN n) f a s=s from tW hh (by omega)] at ag
   exact cdI (by simp only; omega) ⟨(f+1,s),⟨by simp only; omega,by simp only; omega,ag,by simp only; omega,ak⟩,by simp only [rc7]; omega,by repeat' first|exact trivial|exact rfl|assumption|apply And.intro⟩
 ·simp only at q
  rw [show rcF (rqG n) (hN n) f s=s from iM (by omega)] at fg
  subst fg
  exact cd1 rfl (by repeat' first|exact trivial|exact rfl|assumption|apply And.intro)
theorem aJR (isN:Int->Int->Int->Int->Bool) (nrm:NrT) (vld:Int->Int->Int->Int->Bool) (fbG:LL->List AV->Int):uQ isN nrm vld fbG=(∀ (gl:aX) (n:Int),(1≤n∧n≤2)∧PlcP (rqG n)->fnK Tryz.prog { glob:=gl,spec:=lk [(186,(uJ isN)),(189,(aMW nrm vld fbG)),(188,aAC)],specH:=lk [(187,aFd)],nowf:=true } { nt:=97,drop:=drp [(1,63488),(2,65536),(3,262144),(4,1572864),(7,2097152),(8,25165824),(10,234881024),(11,3758096384),(13,133143986176),(14,1924145348608),(15,9223369837831520256),(16,581072438321850875904),(17,79228161333672716876132646912),(18,79228162514264337593543950336)],emp:=λ id=>cond (Nat.beq id 6) [(7,700,162,3)] [] } (λ id st=>aPO 13 8 9 (aMV n) id st (vQ [(7,8,λ _=>rc7 n),(10,8,aUK n)] id st)) 6 Tryz.f144 [.int .i64 n] (.tup [.sl 3 false (rcG n),.int .i64 0])):=by kernel_rfl
def aJQ:=Eq.mp (aJR ..) (aJS)
theorem aFi (gl:aX):SOK Tryz.prog gl 144 uP:=by
 refine ⟨fok Tryz.func144 (by kernel_rfl) (by kernel_rfl),?_⟩
 intro xs pre r h hp
 unfold uP at h
 split at h
 ·cases h
  exact aT bD (by exact aV rfl rfl ⟨(aE8 gl),(aQ4 gl),(aJT gl),trivial⟩ ⟨(aMK gl),trivial⟩) (by kernel_rfl) Tryz.func144 rfl (aJQ gl _ hp)
 ·cases h
def psR:List Int->Int->Nat
 | [],_=>0
 | a::r,v=>if a < v then psR r v+1 else 0
def inR (r:List Int) (v:Int):List Int:=r.take (psR r v)++[v]++r.drop (psR r v)
def aIQ (r:List Int) (v:Int):Bool:=decide (psR r v < r.length)&&decide (r.getD (psR r v) 0=v)
def arS (R:List (List Int)) (p:Int × Int):List (List Int):=if aIQ (R.getD p.1.toNat []) p.2=true then R else R.set p.1.toNat (inR (R.getD p.1.toNat []) p.2)
def arP (a b c:Int):List (Int × Int):=[(a,b),(a,c),(b,c),(b,a),(c,a),(c,b)]
def arK (R:List (List Int)) (ps:List (Int × Int)):Nat->List (List Int)
 | 0=>R
 | k+1=>arS (arK R ps k) (ps.getD k (0,0))
def arC (R:List (List Int)) (r:List AV):List (List Int):=arK R (arP (nI r 0) (nI r 1) (nI r 2)) 6
def arM (R:List (List Int)) (l:LL):Nat->List (List Int)
 | 0=>R
 | k+1=>arC (arM R l k) (l.getD k [])
def arZ (n:Int):List (List Int):=List.replicate (ndN n) []
def arG (n:Int):List (List Int):=arM (arZ n) (rcG n) (rcG n).length
def arE (R:List (List Int)):LL:=R.map λ r=>[.sl 1 false (aP r)]
def arQ (ps:List (Int × Int)):LL:=ps.map λ p=>[.int .i64 p.1,.int .i64 p.2]
structure AroP (n:Int):Prop where
 lo:1≤n
 hi:n≤2
 pl:PlcP (rqG n)
 ln:(rcG n).length≤1000
 el:∀ r ∈ rcG n,r=jR (nI r 0) (nI r 1) (nI r 2)∧(0≤nI r 0∧nI r 0 < ndN n)∧(0≤nI r 1∧nI r 1 < ndN n)∧0≤nI r 2∧nI r 2 < ndN n
structure Aro4 (n:Int) (x:Int):Prop where
 lo:0≤x
 hi:x≤(rcG n).length
structure Aro6 (r:List Int) (v k:Int):Prop where
 lo:0≤k
 hi:k≤r.length
 go:∀ j:Nat,j < k.toNat->r.getD j 0 < v
structure Aro7 (r:List Int) (v k:Int):Prop where
 lo:0≤k
 hi:k≤r.length
 go:psR r v=k.toNat
def arX (n y:Int):List (Int × Int):=arP (nI ((rcG n).getD y.toNat []) 0) (nI ((rcG n).getD y.toNat []) 1) (nI ((rcG n).getD y.toNat []) 2)
def arT (n y x:Int):List (List Int):=arK (arM (arZ n) (rcG n) y.toNat) (arX n y) x.toNat
def arV (n y x:Int):Int × Int:=(arX n y).getD x.toNat (0,0)
def arR (n y x:Int):List Int:=(arT n y x).getD (arV n y x).1.toNat []
def ar4 (n:Int):LInv:=⟨Int,λ x=>⟨[(5,.rw 19 1 (ndN n)),(20,.sl 3 false (rcG n)),(21,.int .i64 (rcG n).length),(22,.int .i64 x)],[(19,.row 22 1 (arE (arM (arZ n) (rcG n) x.toNat)))]⟩,Aro4 n,λ x=>((rcG n).length - x).toNat,none⟩
def ar7 (n y:Int):LInv:=⟨Int,λ x=>⟨[(5,.rw 19 1 (ndN n)),(20,.sl 3 false (rcG n)),(21,.int .i64 (rcG n).length),(22,.int .i64 y),(56,.rw 56 2 6),(57,.int .i64 6),(58,.int .i64 x)],[(19,.row 22 1 (arE (arT n y x))),(56,.row 217 2 (arQ (arX n y)))]⟩,LtP 6,λ x=>(6 - x).toNat,none⟩
def arU (n y x k:Int):St:=⟨[(5,.rw 19 1 (ndN n)),(20,.sl 3 false (rcG n)),(21,.int .i64 (rcG n).length),(22,.int .i64 y),(56,.rw 56 2 6),(57,.int .i64 6),(58,.int .i64 x),(9,.ptr 9 0),(10,.int .i64 k)],[(19,.row 22 1 (arE (arT n y x))),(56,.row 217 2 (arQ (arX n y))),(9,.cells [.int .i64 (arV n y x).1,.int .i64 (arV n y x).2])]⟩
def aU2 (n y x:Int):LInv:=⟨Int,λ k=>arU n y x k,Aro6 (arR n y x) (arV n y x).2,λ k=>((arR n y x).length - k).toNat,none⟩
def aXZ (n y x:Int):LInv:=⟨Int,λ k=>arU n y x k,Aro7 (arR n y x) (arV n y x).2,λ _=>0,none⟩
theorem aBU (R:List (List Int)):(arE R).length=R.length:=by simp [arE]
theorem aIe {R:List (List Int)} {i:Nat} (h:i < R.length):(arE R).getD i []=[.sl 1 false (aP (R.getD i []))]:=by
 rw [aB,aB,arE,List.getElem?_map,aD h]; rfl
theorem aT2 {ps:List (Int × Int)} {i:Nat} (h:i < ps.length):(arQ ps).getD i []=[.int .i64 (ps.getD i (0,0)).1,.int .i64 (ps.getD i (0,0)).2]:=by
 rw [aB,aB,arQ,List.getElem?_map,aD h]; rfl
theorem eL {r:List Int} {i:Nat} (h:i < r.length):(aP r).getD i []=[.int .i64 (r.getD i 0)]:=by
 rw [aB,aB,aP,List.getElem?_map,aD h]; rfl
theorem cV (r:List Int):(aP r).length=r.length:=by simp [aP]
theorem aLr:∀ (r:List Int) (v:Int),psR r v≤r.length
 | [],v=>Nat.le_refl _
 | a::r,v=>by
  unfold psR
  have:=aLr r v
  split
  ·simp only [List.length_cons]; omega
  ·omega
theorem aFu:∀ (r:List Int) (v:Int) (k:Nat),k≤r.length->(∀ j,j < k->r.getD j 0 < v)->(k < r.length->v≤r.getD k 0)->psR r v=k
 | [],v,k,hk,_,_=>by simp at hk; subst hk; rfl
 | a::r,v,0,_,_,h2=>by
  have:=h2 (by simp)
  have:v≤a:=by simpa using this
  unfold psR
  rw [if_neg (by omega)]
 | a::r,v,k+1,hk,h1,h2=>by
  have h0:a < v:=by simpa using h1 0 (by omega)
  unfold psR
  rw [if_pos h0,aFu r v k (by simpa using hk) (λ j hj=>by simpa using h1 (j+1) (by omega)) (λ q=>by simpa using h2 (by simpa using q))]
theorem aPl (R:List (List Int)) (p:Int × Int):(arS R p).length=R.length:=by
 unfold arS
 split <;> simp
theorem aBT (R:List (List Int)) (ps:List (Int × Int)):∀ k,(arK R ps k).length=R.length
 | 0=>rfl
 | k+1=>by rw [arK,aPl,aBT R ps k]
theorem aBR (R:List (List Int)) (l:LL):∀ k,(arM R l k).length=R.length
 | 0=>rfl
 | k+1=>by rw [arM,arC,aBT,aBR R l k]
theorem aOd (r:List Int) (v:Int):(inR r v).length=r.length+1:=by
 have:=aLr r v
 simp only [inR,aG,List.length_take,List.length_drop,aH]; omega
theorem aPk (R:List (List Int)) (p:Int × Int) (B:Nat) (h:∀ i,(R.getD i []).length≤B):∀ i,((arS R p).getD i []).length≤B+1:=λ i=>by
 unfold arS
 split
 ·have:=h i; omega
 ·rw [aB,List.getElem?_set]
  split
  ·split
   ·simp only [Option.getD_some,aOd]; have:=h p.1.toNat; omega
   ·simp
  ·rw [← aB]; have:=h i; omega
theorem aBS (R:List (List Int)) (ps:List (Int × Int)) (B:Nat) (h:∀ i,(R.getD i []).length≤B):∀ k i,((arK R ps k).getD i []).length≤B+k
 | 0,i=>h i
 | k+1,i=>by rw [arK]; exact aPk _ _ _ (aBS R ps B h k) i
theorem aBQ (R:List (List Int)) (l:LL) (B:Nat) (h:∀ i,(R.getD i []).length≤B):∀ k i,((arM R l k).getD i []).length≤B+6*k
 | 0,i=>h i
 | k+1,i=>by rw [arM,arC]; exact aBS _ _ _ (aBQ R l B h k) 6 i
theorem aId (n:Int) (i:Nat):((arZ n).getD i []).length≤0:=by
 unfold arZ
 rw [aB,List.getElem?_replicate]
 split <;> simp
theorem aLQ (R:List (List Int)):aEj [] (arE R):=λ j i x y hx hy k hk=>by
 have hm:=aL hx
 simp only [arE,List.mem_map] at hm
 obtain ⟨r,_,rfl⟩:=hm
 cases i with
 | zero=>simp at hy; subst hy; simp [nn] at hk
 | succ i=>simp at hy
theorem aJh {R:List (List Int)} {i k:Nat} {v:Int} (hi:i < R.length) (hk:psR (R.getD i []) v=k):kC (aCY 129 1 (List.drop 0 (List.take k (aP (R.getD i [])))++([[AV.int .i64 v]]++List.drop k (List.take ((aP (R.getD i [])).length:Int).toNat (aP (R.getD i [])))))) (setEl (arE R) i 0 [.rw 129 1 (List.drop 0 (List.take k (aP (R.getD i [])))++([[AV.int .i64 v]]++List.drop k (List.take ((aP (R.getD i [])).length:Int).toNat (aP (R.getD i []))))).length])=arE (R.set i (inR (R.getD i []) v)):=by
 have hz:List.drop 0 (List.take k (aP (R.getD i [])))++([[AV.int .i64 v]]++List.drop k (List.take ((aP (R.getD i [])).length:Int).toNat (aP (R.getD i []))))=aP (inR (R.getD i []) v):=by
  rw [Int.toNat_natCast,List.take_of_length_le (Nat.le_refl _)]
  simp only [inR,hk,aP,List.map_append,List.map_take,List.map_drop,List.drop_zero,List.append_assoc]
  rfl
 rw [hz]
 generalize hzs:aP (inR (R.getD i []) v)=zs
 have e1:setEl (arE R) i 0 [.rw 129 1 zs.length]=(arE R).set i [.rw 129 1 zs.length]:=by
  unfold setEl
  rw [aIe hi]; rfl
 have e2:kC (aCY 129 1 zs) (arE R)=arE R:=by
  unfold kC arE
  rw [List.map_map]
  exact List.map_congr_left λ r _=>rfl
 have e3:[AV.rw 129 1 zs.length].map (aCY 129 1 zs)=[.sl 1 false zs]:=by
  simp [aCY]
 rw [e1]
 show List.map _ _=_
 rw [List.map_set,e3]
 have:List.map (λ x=>List.map (aCY 129 1 zs) x) (arE R)=arE R:=e2
 rw [this,← hzs]
 unfold arE
 rw [List.map_set]
theorem aPj {R:List (List Int)} {p:Int × Int} (h:aIQ (R.getD p.1.toNat []) p.2=false):arS R p=R.set p.1.toNat (inR (R.getD p.1.toNat []) p.2):=by
 unfold arS; rw [h]; rfl
theorem aK8 {R:List (List Int)} {p:Int × Int} (h:aIQ (R.getD p.1.toNat []) p.2=true):arS R p=R:=by
 unfold arS; rw [h]; rfl
def pF:Sp
 | [.int .i64 n]=>some (AroP n,.sl 1 false (arE (arG n)))
 | _=>none
abbrev bJ (n:Int):=(↑(List.length (rcG n)):Int)
def pG:Prop :=
 ∀ (gl:aX) (n:Int),AroP n->IR9 n->((1≤n∧n≤(2:Int))∧PlcP (rqG n))∧(1≤n∧n≤(2:Int))∧bif decide ((0:Int)≤(10:Int)*n*n+(2:Int)∧(10:Int)*n*n+(2:Int)≤(10:Int)*n*n+(2:Int)∧(24:Int)*((10:Int)*n*n+(2:Int))≤(281474976710656:Int)∧(10:Int)*n*n+(2:Int)≤(9223372036854775807:Int)) then (∃ x,Aro4 n x∧(((10:Int)*n*n+(2:Int)).toNat=ndN n∧(True∧rcG n=rcG n)∧(bJ n)=(bJ n)∧(0:Int)=x∧True)∧List.map (λ x=>List.map nzA x) (List.replicate ((10:Int)*n*n+(2:Int)).toNat [AV.nils])=arE (arM (arZ n) (rcG n) (Int.toNat x))∧True)∧∀ (x1:Int),Aro4 n x1->bif decide (x1 < (bJ n)) then bif decide (0≤x1∧x1 < (bJ n)) then ∃ n_1 n_2 n_3,List.take [I6 n_1,I6 n_2,I6 n_3].length (List.getD (rcG n) x1.toNat [])=[I6 n_1,I6 n_2,I6 n_3]∧(∃ x_1,LtP 6 x_1∧(ndN n=ndN n∧(True∧rcG n=rcG n)∧(bJ n)=(bJ n)∧x1=x1∧(6:Nat)=(6:Nat)∧(6:Int)=(6:Int)∧(0:Int)=x_1∧True)∧arE (arM (arZ n) (rcG n) x1.toNat)=arE (arT n x1 x_1)∧[[I6 n_1,I6 n_2],[I6 n_1,I6 n_3],[I6 n_2,I6 n_3],[I6 n_2,I6 n_1],[I6 n_3,I6 n_1],[I6 n_3,I6 n_2]]=arQ (arX n x1)∧True)∧∀ (x2:Int),LtP 6 x2->bif decide (x2 < (6:Int)) then bif decide (0≤x2∧x2 < (6:Int)) then bif decide ((6:Nat)=List.length (arQ (arX n x1))∧x2.toNat < List.length (arQ (arX n x1))) then ∃ n_4 n_5,List.take [I6 n_4,I6 n_5].length (List.drop 0 (List.getD (arQ (arX n x1)) x2.toNat []))=[I6 n_4,I6 n_5]∧((∃ x_2,Aro6 (arR n x1 x2) (arV n x1 x2).2 x_2∧(ndN n=ndN n∧(True∧rcG n=rcG n)∧(bJ n)=(bJ n)∧x1=x1∧(6:Nat)=(6:Nat)∧(6:Int)=(6:Int)∧x2=x2∧(0:Nat)=(0:Nat)∧(0:Int)=x_2∧True)∧arE (arT n x1 x2)=arE (arT n x1 x2)∧arQ (arX n x1)=arQ (arX n x1)∧(n_4=(arV n x1 x2).1∧n_5=(arV n x1 x2).2∧True)∧True)∧∀ (x3:Int),Aro6 (arR n x1 x2) (arV n x1 x2).2 x3->bif decide ((0:Int)≤(arV n x1 x2).1∧(arV n x1 x2).1 < (↑(ndN n):Int)) then bif decide (ndN n=List.length (arE (arT n x1 x2))∧(arV n x1 x2).1.toNat < List.length (arE (arT n x1 x2))) then ∃ xs,List.take [AV.sl 1 false xs].length (List.drop 0 (List.getD (arE (arT n x1 x2)) (arV n x1 x2).1.toNat []))=[AV.sl 1 false xs]∧bif decide (x3 < (↑xs.length:Int)) then bif decide ((0:Int)≤(arV n x1 x2).1∧(arV n x1 x2).1 < (↑(ndN n):Int)) then bif decide (ndN n=List.length (arE (arT n x1 x2))∧(arV n x1 x2).1.toNat < List.length (arE (arT n x1 x2))) then ∃ xs,List.take [AV.sl 1 false xs].length (List.drop 0 (List.getD (arE (arT n x1 x2)) (arV n x1 x2).1.toNat []))=[AV.sl 1 false xs]∧bif decide (0≤x3∧x3 < (↑xs.length:Int)) then ∃ n_6,List.take [I6 n_6].length (xs.getD x3.toNat [])=[I6 n_6]∧bif decide (n_6 < (arV n x1 x2).2) then bif decide (rng IntKind.i64 (x3+(1:Int))) then ∃ y,Aro6 (arR n x1 x2) (arV n x1 x2).2 y∧(aU2 n x1 x2).m y < (aU2 n x1 x2).m x3∧(ndN n=ndN n∧(True∧rcG n=rcG n)∧(bJ n)=(bJ n)∧x1=x1∧(6:Nat)=(6:Nat)∧(6:Int)=(6:Int)∧x2=x2∧(0:Nat)=(0:Nat)∧x3+(1:Int)=y∧True)∧arE (arT n x1 x2)=arE (arT n x1 x2)∧arQ (arX n x1)=arQ (arX n x1)∧((arV n x1 x2).1=(arV n x1 x2).1∧(arV n x1 x2).2=(arV n x1 x2).2∧True)∧True else False else ∃ x_3,Aro7 (arR n x1 x2) (arV n x1 x2).2 x_3∧(ndN n=ndN n∧(True∧rcG n=rcG n)∧(bJ n)=(bJ n)∧x1=x1∧(6:Nat)=(6:Nat)∧(6:Int)=(6:Int)∧x2=x2∧(0:Nat)=(0:Nat)∧x3=x_3∧True)∧arE (arT n x1 x2)=arE (arT n x1 x2)∧arQ (arX n x1)=arQ (arX n x1)∧((arV n x1 x2).1=(arV n x1 x2).1∧(arV n x1 x2).2=(arV n x1 x2).2∧True)∧True else False else False else False else ∃ x_3,Aro7 (arR n x1 x2) (arV n x1 x2).2 x_3∧(ndN n=ndN n∧(True∧rcG n=rcG n)∧(bJ n)=(bJ n)∧x1=x1∧(6:Nat)=(6:Nat)∧(6:Int)=(6:Int)∧x2=x2∧(0:Nat)=(0:Nat)∧x3=x_3∧True)∧arE (arT n x1 x2)=arE (arT n x1 x2)∧arQ (arX n x1)=arQ (arX n x1)∧((arV n x1 x2).1=(arV n x1 x2).1∧(arV n x1 x2).2=(arV n x1 x2).2∧True)∧True else False else False)∧∀ (x4:Int),Aro7 (arR n x1 x2) (arV n x1 x2).2 x4->bif decide ((0:Int)≤(arV n x1 x2).1∧(arV n x1 x2).1 < (↑(ndN n):Int)) then bif decide (ndN n=List.length (arE (arT n x1 x2))∧(arV n x1 x2).1.toNat < List.length (arE (arT n x1 x2))) then ∃ xs,List.take [AV.sl 1 false xs].length (List.drop 0 (List.getD (arE (arT n x1 x2)) (arV n x1 x2).1.toNat []))=[AV.sl 1 false xs]∧bif decide (x4 < (↑xs.length:Int)) then bif decide ((0:Int)≤(arV n x1 x2).1∧(arV n x1 x2).1 < (↑(ndN n):Int)) then bif decide (ndN n=List.length (arE (arT n x1 x2))∧(arV n x1 x2).1.toNat < List.length (arE (arT n x1 x2))) then ∃ xs,List.take [AV.sl 1 false xs].length (List.drop 0 (List.getD (arE (arT n x1 x2)) (arV n x1 x2).1.toNat []))=[AV.sl 1 false xs]∧bif decide (0≤x4∧x4 < (↑xs.length:Int)) then ∃ n_6,List.take [I6 n_6].length (xs.getD x4.toNat [])=[I6 n_6]∧bif decide (n_6=(arV n x1 x2).2) then bif decide (rng IntKind.i64 (x2+(1:Int))) then ∃ y,LtP 6 y∧(ar7 n x1).m y < (ar7 n x1).m x2∧(ndN n=ndN n∧(True∧rcG n=rcG n)∧(bJ n)=(bJ n)∧x1=x1∧(6:Nat)=(6:Nat)∧(6:Int)=(6:Int)∧x2+(1:Int)=y∧True)∧arE (arT n x1 x2)=arE (arT n x1 y)∧arQ (arX n x1)=arQ (arX n x1)∧True else False else bif decide ((0:Int)≤(arV n x1 x2).1∧(arV n x1 x2).1 < (↑(ndN n):Int)) then bif decide (ndN n=List.length (arE (arT n x1 x2))∧(arV n x1 x2).1.toNat < List.length (arE (arT n x1 x2))) then ∃ xs,List.take [AV.sl 1 false xs].length (List.drop 0 (List.getD (arE (arT n x1 x2)) (arV n x1 x2).1.toNat []))=[AV.sl 1 false xs]∧bif decide ((0:Int)≤(↑xs.length:Int)∧(↑xs.length:Int)≤(↑xs.length:Int)) then bif decide (0≤x4∧x4≤(↑xs.length:Int)) then bif decide ((1:Nat)=[[I6 (arV n x1 x2).2]].length∧[[I6 (arV n x1 x2).2]].length+(List.drop x4.toNat (List.take (↑xs.length:Int).toNat xs)).length≤(9223372036854775807:Nat)∧([[I6 (arV n x1 x2).2]].length+(List.drop x4.toNat (List.take (↑xs.length:Int).toNat xs)).length)*(8:Nat)≤(140737488355328:Nat)) then (∀ (j i:Nat) (x_3:List AV) (y:AV),(arE (arT n x1 x2))[j]?=some x_3->x_3[i]?=some y->∀ (k1:Nat),nn k1 y=false->inL k1 []=true)∧bif decide ((0:Int)≤(arV n x1 x2).1∧(arV n x1 x2).1 < (↑(ndN n):Int)) then bif decide (ndN n=List.length (arE (arT n x1 x2))∧(arV n x1 x2).1.toNat < List.length (arE (arT n x1 x2))) then ∃ xs_1,List.take [AV.sl 1 false xs_1].length (List.drop 0 (List.getD (arE (arT n x1 x2)) (arV n x1 x2).1.toNat []))=[AV.sl 1 false xs_1]∧bif decide (x4=x4) then bif decide (0≤x4∧x4≤(↑xs_1.length:Int)) then bif decide ((0:Int)≤(0:Int)∧0≤x4) then bif decide (([[I6 (arV n x1 x2).2]]++List.drop x4.toNat (List.take (↑xs.length:Int).toNat xs)).length=([[I6 (arV n x1 x2).2]]++List.drop x4.toNat (List.take (↑xs.length:Int).toNat xs)).length) then bif decide ((0:Nat) < ([[I6 (arV n x1 x2).2]]++List.drop x4.toNat (List.take (↑xs.length:Int).toNat xs)).length∧(List.drop 0 (List.take x4.toNat xs_1)).length+([[I6 (arV n x1 x2).2]]++List.drop x4.toNat (List.take (↑xs.length:Int).toNat xs)).length≤(9223372036854775807:Nat)∧((List.drop 0 (List.take x4.toNat xs_1)).length+([[I6 (arV n x1 x2).2]]++List.drop x4.toNat (List.take (↑xs.length:Int).toNat xs)).length)*(8:Nat)≤(140737488355328:Nat)) then bif decide ((0:Int)≤(arV n x1 x2).1∧(arV n x1 x2).1 < (↑(ndN n):Int)) then bif decide (ndN n=List.length (arE (arT n x1 x2))∧(arV n x1 x2).1.toNat < List.length (arE (arT n x1 x2))) then bif decide (rng IntKind.i64 (x2+(1:Int))) then ∃ y,LtP 6 y∧(ar7 n x1).m y < (ar7 n x1).m x2∧(ndN n=ndN n∧(True∧rcG n=rcG n)∧(bJ n)=(bJ n)∧x1=x1∧(6:Nat)=(6:Nat)∧(6:Int)=(6:Int)∧x2+(1:Int)=y∧True)∧kC (aCY 129 1 (List.drop 0 (List.take x4.toNat xs_1)++([[I6 (arV n x1 x2).2]]++List.drop x4.toNat (List.take (↑xs.length:Int).toNat xs)))) (setEl (arE (arT n x1 x2)) (arV n x1 x2).1.toNat 0 [AV.rw 129 1 (List.drop 0 (List.take x4.toNat xs_1)++([[I6 (arV n x1 x2).2]]++List.drop x4.toNat (List.take (↑xs.length:Int).toNat xs))).length])=arE (arT n x1 y)∧arQ (arX n x1)=arQ (arX n x1)∧True else False else False else False else False else False else False else False else False else False else False else False else False else False else False else False else False else False else False else bif decide ((0:Int)≤(arV n x1 x2).1∧(arV n x1 x2).1 < (↑(ndN n):Int)) then bif decide (ndN n=List.length (arE (arT n x1 x2))∧(arV n x1 x2).1.toNat < List.length (arE (arT n x1 x2))) then ∃ xs,List.take [AV.sl 1 false xs].length (List.drop 0 (List.getD (arE (arT n x1 x2)) (arV n x1 x2).1.toNat []))=[AV.sl 1 false xs]∧bif decide ((0:Int)≤(↑xs.length:Int)∧(↑xs.length:Int)≤(↑xs.length:Int)) then bif decide (0≤x4∧x4≤(↑xs.length:Int)) then bif decide ((1:Nat)=[[I6 (arV n x1 x2).2]].length∧[[I6 (arV n x1 x2).2]].length+(List.drop x4.toNat (List.take (↑xs.length:Int).toNat xs)).length≤(9223372036854775807:Nat)∧([[I6 (arV n x1 x2).2]].length+(List.drop x4.toNat (List.take (↑xs.length:Int).toNat xs)).length)*(8:Nat)≤(140737488355328:Nat)) then (∀ (j i:Nat) (x_3:List AV) (y:AV),(arE (arT n x1 x2))[j]?=some x_3->x_3[i]?=some y->∀ (k2:Nat),nn k2 y=false->inL k2 []=true)∧bif decide ((0:Int)≤(arV n x1 x2).1∧(arV n x1 x2).1 < (↑(ndN n):Int)) then bif decide (ndN n=List.length (arE (arT n x1 x2))∧(arV n x1 x2).1.toNat < List.length (arE (arT n x1 x2))) then ∃ xs_1,List.take [AV.sl 1 false xs_1].length (List.drop 0 (List.getD (arE (arT n x1 x2)) (arV n x1 x2).1.toNat []))=[AV.sl 1 false xs_1]∧bif decide (x4=x4) then bif decide (0≤x4∧x4≤(↑xs_1.length:Int)) then bif decide ((0:Int)≤(0:Int)∧0≤x4) then bif decide (([[I6 (arV n x1 x2).2]]++List.drop x4.toNat (List.take (↑xs.length:Int).toNat xs)).length=([[I6 (arV n x1 x2).2]]++List.drop x4.toNat (List.take (↑xs.length:Int).toNat xs)).length) then bif decide ((0:Nat) < ([[I6 (arV n x1 x2).2]]++List.drop x4.toNat (List.take (↑xs.length:Int).toNat xs)).length∧(List.drop 0 (List.take x4.toNat xs_1)).length+([[I6 (arV n x1 x2).2]]++List.drop x4.toNat (List.take (↑xs.length:Int).toNat xs)).length≤(9223372036854775807:Nat)∧((List.drop 0 (List.take x4.toNat xs_1)).length+([[I6 (arV n x1 x2).2]]++List.drop x4.toNat (List.take (↑xs.length:Int).toNat xs)).length)*(8:Nat)≤(140737488355328:Nat)) then bif decide ((0:Int)≤(arV n x1 x2).1∧(arV n x1 x2).1 < (↑(ndN n):Int)) then bif decide (ndN n=List.length (arE (arT n x1 x2))∧(arV n x1 x2).1.toNat < List.length (arE (arT n x1 x2))) then bif decide (rng IntKind.i64 (x2+(1:Int))) then ∃ y,LtP 6 y∧(ar7 n x1).m y < (ar7 n x1).m x2∧(ndN n=ndN n∧(True∧rcG n=rcG n)∧(bJ n)=(bJ n)∧x1=x1∧(6:Nat)=(6:Nat)∧(6:Int)=(6:Int)∧x2+(1:Int)=y∧True)∧kC (aCY 129 1 (List.drop 0 (List.take x4.toNat xs_1)++([[I6 (arV n x1 x2).2]]++List.drop x4.toNat (List.take (↑xs.length:Int).toNat xs)))) (setEl (arE (arT n x1 x2)) (arV n x1 x2).1.toNat 0 [AV.rw 129 1 (List.drop 0 (List.take x4.toNat xs_1)++([[I6 (arV n x1 x2).2]]++List.drop x4.toNat (List.take (↑xs.length:Int).toNat xs))).length])=arE (arT n x1 y)∧arQ (arX n x1)=arQ (arX n x1)∧True else False else False else False else False else False else False else False else False else False else False else False else False else False else False else False else False else False else False else False else bif decide (rng IntKind.i64 (x1+(1:Int))) then ∃ y,Aro4 n y∧((λ x1=>ar4 n) 0).m y < ((λ x1=>ar4 n) 0).m x1∧(ndN n=ndN n∧(True∧rcG n=rcG n)∧(bJ n)=(bJ n)∧x1+(1:Int)=y∧True)∧arE (arT n x1 x2)=arE (arM (arZ n) (rcG n) (Int.toNat y))∧True else False else False else bif decide (ndN n=List.length (arE (arM (arZ n) (rcG n) x1.toNat))) then True∧arE (arM (arZ n) (rcG n) x1.toNat)=arE (arG n) else False else False
theorem aFl:pG:=by
 unfold pG
 delta bJ I6
 intro gl n hP hn
 have hN:(10*n*n+2:Int)=ndN n∧(ndN n:Int)≤42:=by rcases (show n=1∨n=2 by have:=hP.lo; have:=hP.hi; omega) with rfl | rfl <;> decide
 have h1:=hP.lo
 have h2:=hP.hi
 have hl:=hP.ln
 have hA0:(arZ n).length=ndN n:=by simp [arZ]
 refine ⟨⟨⟨h1,h2⟩,hP.pl⟩,⟨h1,h2⟩,cd1 (by omega) ⟨⟨0,⟨Int.le_refl _,by omega⟩,⟨rfl,by repeat' first|exact trivial|exact rfl|assumption|apply And.intro⟩,?_,trivial⟩,?_⟩⟩
 ·show _=arE (List.replicate (ndN n) [])
  unfold ndN arE
  rw [List.map_replicate,List.map_replicate]; rfl
 rintro x ⟨x0,x1⟩
 have hM:(arM (arZ n) (rcG n) x.toNat).length=ndN n:=by rw [aBR,hA0]
 refine csp (λ q=>?_) (λ q=>?_)
 ·have hx:x.toNat < (rcG n).length:=by omega
  obtain ⟨c,hc⟩:∃ c,c=(rcG n).getD x.toNat []:=⟨_,rfl⟩
  have hel:=hP.el c (by rw [hc,aB,aD hx]; exact List.getElem_mem hx)
  obtain ⟨e3,b0,b1,b2⟩:=hel
  have hX:arX n x=arP (nI c 0) (nI c 1) (nI c 2):=by unfold arX; rw [hc]
  refine cd1 ⟨x0,q⟩ ⟨nI c 0,nI c 1,nI c 2,?_,⟨0,⟨Int.le_refl _,by decide⟩,by repeat' first|exact trivial|exact rfl|assumption|apply And.intro,?_,?_,trivial⟩,?_⟩
  ·rw [← hc]; exact (congrArg (List.take 3) e3).trans rfl
  ·rfl
  ·rw [hX]; rfl
  rintro y ⟨y0,y6⟩
  have hTl:(arT n x y).length=ndN n:=by unfold arT; rw [aBT,hM]
  refine csp (λ qy=>?_) (λ qy=>?_)
  ·have hql:(arQ (arX n x)).length=6:=by rw [hX]; rfl
   have hxl:(arX n x).length=6:=by rw [hX]; rfl
   have hv:(0≤(arV n x y).1∧(arV n x y).1 < ndN n):=by
    unfold arV
    rw [hX]
    rcases (show y.toNat=0∨y.toNat=1∨y.toNat=2∨y.toNat=3∨y.toNat=4∨y.toNat=5 by omega) with e | e | e | e | e | e <;> rw [e] <;> assumption
   have hrow:(arR n x y).length≤7000:=by
    have:=aBS (arM (arZ n) (rcG n) x.toNat) (arX n x) (0+6*x.toNat) (aBQ _ _ 0 (aId n) _) y.toNat (arV n x y).1.toNat
    unfold arR arT
    omega
   have hiT:(arV n x y).1.toNat < (arT n x y).length:=by rw [hTl]; omega
   have hat:=aIe hiT
   have ela:(arE (arT n x y)).length=ndN n:=by rw [aBU,hTl]
   have hR:(arT n x y).getD (arV n x y).1.toNat []=arR n x y:=rfl
   have hil:=cV (arR n x y)
   have hnx:arT n x (y+1)=arS (arT n x y) (arV n x y):=by
    unfold arT arV
    rw [show (y+1).toNat=y.toNat+1 by omega]
    rfl
   rw [hR] at hat
   have c1:0≤(arV n x y).1∧(arV n x y).1 < (ndN n:Int):=hv
   have c2:ndN n=(arE (arT n x y)).length∧(arV n x y).1.toNat < (arE (arT n x y)).length:=by omega
   have ld:List.take [AV.sl 1 false (aP (arR n x y))].length (List.drop 0 ((arE (arT n x y)).getD (arV n x y).1.toNat []))=[.sl 1 false (aP (arR n x y))]:=by rw [hat]; rfl
   refine cd1 ⟨y0,qy⟩ (cd1 ⟨hql.symm,by omega⟩ ⟨(arV n x y).1,(arV n x y).2,?_,⟨⟨0,⟨Int.le_refl _,by omega,λ j hj=>by simp at hj⟩,by repeat' first|exact trivial|exact rfl|assumption|apply And.intro,rfl,rfl,by repeat' first|exact trivial|exact rfl|assumption|apply And.intro⟩,?_⟩,?_⟩)
   ·rw [aT2 (by omega)]; rfl
   ·rintro k ⟨k0,kl,kg⟩
    refine cd1 c1 (cd1 c2 ⟨_,ld,csp (λ qk=>?_) (λ qk=>?_)⟩)
    ·have hk:k.toNat < (arR n x y).length:=by omega
     refine cd1 c1 (cd1 c2 ⟨_,ld,cd1 ⟨k0,qk⟩ ⟨(arR n x y).getD k.toNat 0,by rw [eL hk]; rfl,csp (λ qv=>?_) (λ qv=>?_)⟩⟩)
     ·refine cdI (by omega) ⟨k+1,⟨by omega,by omega,λ j hj=>?_⟩,by show (_:Nat) < _; simp only [aU2]; omega,by repeat' first|exact trivial|exact rfl|assumption|apply And.intro,rfl,rfl,by repeat' first|exact trivial|exact rfl|assumption|apply And.intro⟩
      by_cases e:j=k.toNat
      ·subst e; exact qv
      ·exact kg j (by omega)
     ·exact ⟨k,⟨k0,by omega,aFu _ _ _ (by omega) kg (λ _=>by omega)⟩,by repeat' first|exact trivial|exact rfl|assumption|apply And.intro,rfl,rfl,by repeat' first|exact trivial|exact rfl|assumption|apply And.intro⟩
    ·exact ⟨k,⟨k0,by omega,aFu _ _ _ (by omega) kg (λ q=>by omega)⟩,by repeat' first|exact trivial|exact rfl|assumption|apply And.intro,rfl,rfl,by repeat' first|exact trivial|exact rfl|assumption|apply And.intro⟩
   ·rintro k ⟨k0,kl,kg⟩
    have put:aIQ (arR n x y) (arV n x y).2=false->arE (arT n x (y+1))=arE ((arT n x y).set (arV n x y).1.toNat (inR (arR n x y) (arV n x y).2)):=λ h=>by rw [hnx,aPj h]; rfl
    have hst:=aJh (v:=(arV n x y).2) hiT kg
    rw [hR] at hst
    have lens:([[AV.int .i64 (arV n x y).2]]:LL).length=1:=rfl
    have ldr:(List.drop k.toNat (List.take ((aP (arR n x y)).length:Int).toNat (aP (arR n x y)))).length≤7000:=by simp only [List.length_drop,List.length_take]; omega
    have ltk:(List.drop 0 (List.take k.toNat (aP (arR n x y)))).length≤7000:=by simp only [List.length_drop,List.length_take]; omega
    have lap:([[AV.int .i64 (arV n x y).2]]++List.drop k.toNat (List.take ((aP (arR n x y)).length:Int).toNat (aP (arR n x y)))).length≤7001∧0 < ([[AV.int .i64 (arV n x y).2]]++List.drop k.toNat (List.take ((aP (arR n x y)).length:Int).toNat (aP (arR n x y)))).length:=by rw [aG,lens]; omega
    refine cd1 c1 (cd1 c2 ⟨_,ld,csp (λ qk=>?_) (λ qk=>?_)⟩)
    ·have hk:k.toNat < (arR n x y).length:=by omega
     refine cd1 c1 (cd1 c2 ⟨_,ld,cd1 ⟨k0,qk⟩ ⟨(arR n x y).getD k.toNat 0,by rw [eL hk]; rfl,csp (λ qv=>?_) (λ qv=>?_)⟩⟩)
     ·have hh:aIQ (arR n x y) (arV n x y).2=true:=by unfold aIQ; rw [kg,decide_eq_true hk,decide_eq_true qv]; rfl
      refine cdI (by omega) ⟨y+1,⟨by omega,by omega⟩,by show (_:Nat) < _; simp only [ar7]; omega,by repeat' first|exact trivial|exact rfl|assumption|apply And.intro,?_,rfl,trivial⟩
      rw [hnx,aK8 hh]
     ·have hh:aIQ (arR n x y) (arV n x y).2=false:=by unfold aIQ; rw [kg,decide_eq_false qv,Bool.and_false]
      exact cd1 c1 (cd1 c2 ⟨_,ld,cd1 (by omega) (cd1 (by omega) (cd1 (by omega) ⟨aLQ _,cd1 c1 (cd1 c2 ⟨_,ld,cd1 rfl (cd1 (by omega) (cd1 (by omega) (cd1 rfl (cd1 (by omega) (cd1 c1 (cd1 c2 (cdI (by omega) ⟨y+1,⟨by omega,by omega⟩,by show (_:Nat) < _; simp only [ar7]; omega,by repeat' first|exact trivial|exact rfl|assumption|apply And.intro,hst.trans (put hh).symm,rfl,trivial⟩)))))))⟩)⟩))⟩)
    ·have hh:aIQ (arR n x y) (arV n x y).2=false:=by unfold aIQ; rw [kg,decide_eq_false (by omega),Bool.false_and]
     exact cd1 c1 (cd1 c2 ⟨_,ld,cd1 (by omega) (cd1 (by omega) (cd1 (by omega) ⟨aLQ _,cd1 c1 (cd1 c2 ⟨_,ld,cd1 rfl (cd1 (by omega) (cd1 (by omega) (cd1 rfl (cd1 (by omega) (cd1 c1 (cd1 c2 (cdI (by omega) ⟨y+1,⟨by omega,by omega⟩,by show (_:Nat) < _; simp only [ar7]; omega,by repeat' first|exact trivial|exact rfl|assumption|apply And.intro,hst.trans (put hh).symm,rfl,trivial⟩)))))))⟩)⟩))⟩)
  ·refine cdI (by omega) ⟨x+1,⟨by omega,by omega⟩,by show (_:Nat) < _; simp only [ar4]; omega,by repeat' first|exact trivial|exact rfl|assumption|apply And.intro,?_,trivial⟩
   rw [show (x+1).toNat=x.toNat+1 by omega,arM,arC,← hc,← hX]
   unfold arT
   rw [show y.toNat=6 by omega]
 ·refine cd1 (by rw [aBU,hM]) ⟨trivial,?_⟩
  unfold arG
  rw [show x.toNat=(rcG n).length by omega]
theorem aFk:pG=(∀ (gl:aX) (n:Int),AroP n->fnK Tryz.prog { glob:=gl,spec:=lk [(144,uP),(97,lI)],specH:=lk [],shape:=[25,61,67,75,78,90,98,101,113,124],slz:=[(67,[1]),(75,[1]),(90,[1]),(98,[1]),(113,[1]),(124,[1])],nowf:=true } { nt:=134,drop:=drp [(1,126976),(2,917504),(5,50331648),(6,72057593970819072),(8,3458764513820540928),(10,4835698666772498271436800),(11,29014219670751100192948224),(12,40564780521677113179760911974400),(13,166072369834699877431280093529899008),(14,2722092781868034593222883883571610648576),(15,2722258935367507707706996859454145691648),(16,5444517870735015415413993718908291383296),(17,10889035741470030830827987437816582766592)],frz:=λ id=>cond (Nat.beq id 3) [9000019] [],act:=λ id=>cond (Nat.beq id 14) [.nop 19] (cond (Nat.beq id 15) [.frz 129,.cls 19] []) } (λ id st=>aPO 10 22 58 (aU2 n) id st (aPO 100012 22 58 (aXZ n) id st (vQ [(4,22,λ _=>ar4 n),(7,22,ar7 n)] id st))) 6 Tryz.f98 [.int .i64 n] (.sl 1 false (arE (arG n)))):=by kernel_rfl
def aFj:=Eq.mp (aFk ..) (aFl)
theorem aDE (gl:aX):SOK Tryz.prog gl 98 pF:=by
 refine ⟨fok Tryz.func98 (by kernel_rfl) (by kernel_rfl),?_⟩
 intro xs pre r h hp
 unfold pF at h
 split at h
 ·cases h
  exact aT bD (by exact aV rfl rfl ⟨(aFi gl),(pE gl),trivial⟩ trivial) (by kernel_rfl) Tryz.func98 rfl (aFj gl _ hp)
 ·cases h
def isI:AV->Bool
 | .int .i64 _=>true
 | _=>false
def aDR (n:Nat) (r:List AV):Bool:=Nat.beq r.length n&&r.all isI
theorem aBa:∀ {x:AV},isI x=true->x=.int .i64 (aI x)
 | .int k v,h=>by cases k <;> first | rfl | (simp [isI] at h)
theorem aSp {r:List AV} (h:aDR 3 r=true):r=jR (nI r 0) (nI r 1) (nI r 2):=by
 simp only [aDR,aC,List.all_eq_true] at h
 have hl:=aA h.1
 match r,hl,h.2 with
 | [a,b,c],_,h2 =>
  have ha:=aBa (h2 a (by simp))
  have hb:=aBa (h2 b (by simp))
  have hc:=aBa (h2 c (by simp))
  rw [ha,hb,hc]; rfl
theorem aSo {r:List AV} (h:aDR 4 r=true):r=jP (nI r 0) (nI r 1) (nI r 2) (nI r 3):=by
 simp only [aDR,aC,List.all_eq_true] at h
 have hl:=aA h.1
 match r,hl,h.2 with
 | [a,b,c,d],_,h2 =>
  have ha:=aBa (h2 a (by simp))
  have hb:=aBa (h2 b (by simp))
  have hc:=aBa (h2 c (by simp))
  have hd:=aBa (h2 d (by simp))
  rw [ha,hb,hc,hd]; rfl
def aXs (N:Int) (r:List AV):Bool:=aDR 3 r&&(decide (0≤nI r 0∧nI r 0 < N)&&(decide (0≤nI r 1∧nI r 1 < N)&&decide (0≤nI r 2∧nI r 2 < N)))
def aXw (n:Int):Bool:=(rqG n).all (aDR 4)&&(Nat.ble (rqG n).length 1000&&(Nat.ble (rcG n).length 1000&&(rcG n).all (aXs (ndN n))))
theorem aT1 {n:Int} (lo:1≤n) (hi:n≤2) (h:aXw n=true):AroP n:=by
 simp only [aXw,aC,List.all_eq_true] at h
 obtain ⟨h1,h2,h3,h4⟩:=h
 refine ⟨lo,hi,⟨λ r hr=>aSo (h1 r hr),aK h2⟩,aK h3,λ r hr=>?_⟩
 have:=h4 r hr
 simp only [aXs,aC,decide_eq_true_eq] at this
 obtain ⟨q1,q2,q3,q4⟩:=this
 exact ⟨aSp q1,q2,q3,q4⟩
set_option maxRecDepth 100000
theorem aXY:AroP 1:=aT1 (by decide) (by decide) (by decide +kernel)
def rdJ (a:Int) (r:List Int):Nat->LL
 | 0=>[]
 | j+1=>if a < r.getD j 0 then rdJ a r j++[[.int .i64 a,.int .i64 (r.getD j 0)]] else rdJ a r j
def rdK (R:List (List Int)):Nat->LL
 | 0=>[]
 | k+1=>rdK R k++rdJ k (R.getD k []) (R.getD k []).length
def aDD (n:Int):LL:=rdK (arG n) (arG n).length
theorem aAz (a:Int) (r:List Int):∀ j,(rdJ a r j).length≤j
 | 0=>Nat.le_refl _
 | j+1=>by
  have:=aAz a r j
  unfold rdJ
  split
  ·rw [aG,aH]; omega
  ·omega
theorem aFh (R:List (List Int)) (B:Nat) (h:∀ i,(R.getD i []).length≤B):∀ k,(rdK R k).length≤k*B
 | 0=>Nat.zero_le _
 | k+1=>by
  have h1:=aFh R B h k
  have h2:=aAz k (R.getD k []) (R.getD k []).length
  have h3:=h k
  rw [rdK,aG,Nat.succ_mul]; omega
structure Rd6 (n:Int) (x:Int):Prop where
 lo:0≤x
 hi:x≤ndN n
def rdI (n y j:Int):LL:=rdK (arG n) y.toNat++rdJ y ((arG n).getD y.toNat []) j.toNat
structure Rd9 (n y:Int) (j:Int):Prop where
 lo:0≤j
 hi:j≤((arG n).getD y.toNat []).length
def rd6 (n:Int):LInv:=⟨Int,λ x=>⟨[(4,.rw 400 2 (rdK (arG n) x.toNat).length),(5,.sl 1 false (arE (arG n))),(6,.int .i64 x)],[(400,.row 143 2 (rdK (arG n) x.toNat))]⟩,Rd6 n,λ x=>(ndN n - x).toNat,none⟩
def rd9 (n y:Int):LInv:=⟨Int,λ j=>⟨[(4,.rw 400 2 (rdI n y j).length),(5,.sl 1 false (arE (arG n))),(6,.int .i64 y),(23,.sl 1 false (aP ((arG n).getD y.toNat []))),(24,.int .i64 ((arG n).getD y.toNat []).length),(25,.int .i64 j)],[(400,.row 143 2 (rdI n y j))]⟩,Rd9 n y,λ j=>(((arG n).getD y.toNat []).length - j).toNat,none⟩
def oK:Sp
 | [.int .i64 n]=>some (AroP n,.tup [.sl 2 false (aDD n),.int .i64 0])
 | _=>none
def uN:Prop :=
 ∀ (gl:aX) (n:Int),AroP n->IR9 n->(1≤n∧n≤(2:Int))∧bif decide ((10:Int)*n*n+(2:Int)=(0:Int)) then aDD n=[]∧(1:Int)=(0:Int)∧True else AroP n∧(∃ x,Rd6 n x∧((0:Nat)=List.length (rdK (arG n) (Int.toNat x))∧(True∧arE (arG n)=arE (arG n))∧(0:Int)=x∧True)∧[]=rdK (arG n) (Int.toNat x)∧True)∧∀ (x1:Int),Rd6 n x1->bif decide (x1 < (↑(List.length (arE (arG n))):Int)) then bif decide (0≤x1∧x1 < (↑(List.length (arE (arG n))):Int)) then ∃ xs,List.take [AV.sl 1 false xs].length (List.getD (arE (arG n)) x1.toNat [])=[AV.sl 1 false xs]∧(∃ x_1,Rd9 n x1 x_1∧(List.length (rdK (arG n) x1.toNat)=List.length (rdI n x1 x_1)∧(True∧arE (arG n)=arE (arG n))∧x1=x1∧(True∧xs=aP ((arG n).getD x1.toNat []))∧(↑xs.length:Int)=(↑((arG n).getD x1.toNat []).length:Int)∧(0:Int)=x_1∧True)∧rdK (arG n) x1.toNat=rdI n x1 x_1∧True)∧∀ (x2:Int),Rd9 n x1 x2->bif decide (x2 < (↑((arG n).getD x1.toNat []).length:Int)) then bif decide (0≤x2∧x2 < (↑(aP ((arG n).getD x1.toNat [])).length:Int)) then ∃ n_1,List.take [I6 n_1].length ((aP ((arG n).getD x1.toNat [])).getD x2.toNat [])=[I6 n_1]∧bif decide (x1 < n_1) then bif decide (List.length (rdI n x1 x2)=List.length (rdI n x1 x2)∧List.length (rdI n x1 x2)+[[I6 x1,I6 n_1]].length≤(9223372036854775807:Nat)∧(List.length (rdI n x1 x2)+[[I6 x1,I6 n_1]].length)*(16:Nat)≤(140737488355328:Nat)) then bif decide (rng IntKind.i64 (x2+(1:Int))) then ∃ y,Rd9 n x1 y∧(rd9 n x1).m y < (rd9 n x1).m x2∧((rdI n x1 x2++[[I6 x1,I6 n_1]]).length=List.length (rdI n x1 y)∧(True∧arE (arG n)=arE (arG n))∧x1=x1∧(True∧aP ((arG n).getD x1.toNat [])=aP ((arG n).getD x1.toNat []))∧(↑((arG n).getD x1.toNat []).length:Int)=(↑((arG n).getD x1.toNat []).length:Int)∧x2+(1:Int)=y∧True)∧rdI n x1 x2++[[I6 x1,I6 n_1]]=rdI n x1 y∧True else False else False else bif decide (rng IntKind.i64 (x2+(1:Int))) then ∃ y,Rd9 n x1 y∧(rd9 n x1).m y < (rd9 n x1).m x2∧(List.length (rdI n x1 x2)=List.length (rdI n x1 y)∧(True∧arE (arG n)=arE (arG n))∧x1=x1∧(True∧aP ((arG n).getD x1.toNat [])=aP ((arG n).getD x1.toNat []))∧(↑((arG n).getD x1.toNat []).length:Int)=(↑((arG n).getD x1.toNat []).length:Int)∧x2+(1:Int)=y∧True)∧rdI n x1 x2=rdI n x1 y∧True else False else False else bif decide (rng IntKind.i64 (x1+(1:Int))) then ∃ y,Rd6 n y∧((λ x1=>rd6 n) 0).m y < ((λ x1=>rd6 n) 0).m x1∧(List.length (rdI n x1 x2)=List.length (rdK (arG n) (Int.toNat y))∧(True∧arE (arG n)=arE (arG n))∧x1+(1:Int)=y∧True)∧rdI n x1 x2=rdK (arG n) (Int.toNat y)∧True else False else False else bif decide (List.length (rdK (arG n) x1.toNat)=List.length (rdK (arG n) x1.toNat)) then (True∧rdK (arG n) x1.toNat=aDD n)∧(0:Int)=(0:Int)∧True else False
theorem aJL:uN:=by
 unfold uN
 delta I6
 intro gl n hP hn
 have hN:(10*n*n+2:Int)=ndN n∧(ndN n:Int)≤42:=by rcases (show n=1∨n=2 by have:=hP.lo; have:=hP.hi; omega) with rfl | rfl <;> decide
 have h1:=hP.lo
 have h2:=hP.hi
 have hl:=hP.ln
 have hG:(arG n).length=ndN n:=by unfold arG; rw [aBR]; simp [arZ]
 have hrow:∀ i,((arG n).getD i []).length≤6000:=λ i=>by
  have:=aBQ (arZ n) (rcG n) 0 (aId n) (rcG n).length i
  unfold arG; omega
 have hE:(arE (arG n)).length=ndN n:=by rw [aBU,hG]
 have hp:0 < 10*n*n+2:=by rcases (show n=1∨n=2 by omega) with rfl | rfl <;> decide
 refine ⟨⟨h1,h2⟩,cd0 (by omega) ⟨hP,⟨0,⟨Int.le_refl _,by omega⟩,by repeat' first|exact trivial|exact rfl|assumption|apply And.intro⟩,?_⟩⟩
 rintro x ⟨x0,x1⟩
 refine csp (λ q=>?_) (λ q=>?_)
 ·have hx:x.toNat < (arG n).length:=by omega
  refine cd1 ⟨x0,q⟩ ⟨aP ((arG n).getD x.toNat []),by rw [aIe hx]; rfl,⟨0,⟨Int.le_refl _,by omega⟩,?_,?_,trivial⟩,?_⟩
  ·exact ⟨by unfold rdI; simp [rdJ],⟨trivial,rfl⟩,rfl,⟨trivial,rfl⟩,by rw [cV],rfl,trivial⟩
  ·unfold rdI; simp [rdJ]
  rintro j ⟨j0,j1⟩
  have hr:=hrow x.toNat
  have hil:=cV ((arG n).getD x.toNat [])
  have hkl:=aFh (arG n) 6000 hrow x.toNat
  have hjl:=aAz x ((arG n).getD x.toNat []) j.toNat
  have hxm:x.toNat*6000≤42*6000:=Nat.mul_le_mul_right _ (by omega)
  have hIl:(rdI n x j).length≤300000:=by unfold rdI; rw [aG]; omega
  refine csp (λ qj=>?_) (λ qj=>?_)
  ·have hj:j.toNat < ((arG n).getD x.toNat []).length:=by omega
   have es:(j+1).toNat=j.toNat+1:=by omega
   refine cd1 ⟨j0,by omega⟩ ⟨_,by rw [eL hj]; rfl,csp (λ qa=>?_) (λ qa=>?_)⟩
   ·have e:rdI n x j++[[.int .i64 x,.int .i64 (((arG n).getD x.toNat []).getD j.toNat 0)]]=rdI n x (j+1):=by
     unfold rdI
     rw [es,rdJ,if_pos qa,List.append_assoc]
    have el:[[AV.int .i64 x,.int .i64 (((arG n).getD x.toNat []).getD j.toNat 0)]].length=1:=rfl
    exact cd1 (by rw [el]; omega) (cdI (by omega) ⟨j+1,⟨by omega,by omega⟩,by show (_:Nat) < _; simp only [rd9]; omega,⟨by rw [e],by repeat' first|exact trivial|exact rfl|assumption|apply And.intro⟩,e,trivial⟩)
   ·have e:rdI n x j=rdI n x (j+1):=by
     unfold rdI
     rw [es,rdJ,if_neg qa]
    exact cdI (by omega) ⟨j+1,⟨by omega,by omega⟩,by show (_:Nat) < _; simp only [rd9]; omega,⟨by rw [e],by repeat' first|exact trivial|exact rfl|assumption|apply And.intro⟩,e,trivial⟩
  ·have e:rdI n x j=rdK (arG n) (x+1).toNat:=by
    unfold rdI
    rw [show (x+1).toNat=x.toNat+1 by omega,rdK,show j.toNat=((arG n).getD x.toNat []).length by omega,Int.toNat_of_nonneg x0]
   exact cdI (by omega) ⟨x+1,⟨by omega,by omega⟩,by show (_:Nat) < _; simp only [rd6]; omega,⟨by rw [e],by repeat' first|exact trivial|exact rfl|assumption|apply And.intro⟩,e,trivial⟩
 ·have e:rdK (arG n) x.toNat=aDD n:=by unfold aDD; rw [hG,show x.toNat=ndN n by omega]
  exact cd1 rfl ⟨⟨trivial,e⟩,rfl,trivial⟩
theorem aJK:uN=(∀ (gl:aX) (n:Int),AroP n->fnK Tryz.prog { glob:=gl,spec:=lk [(97,lI),(98,pF)],specH:=lk [],shape:=[23,28],slz:=[(23,[1])],nowf:=true } { nt:=40,drop:=drp [(1,1536),(4,12288),(6,114688),(7,786432),(8,7340032),(10,402653184),(11,1610612736),(12,270582939648),(13,274877906944),(14,549755813888)],emp:=λ id=>cond (Nat.beq id 5) [(4,400,143,2)] [] } (vQ [(6,6,λ _=>rd6 n),(9,6,rd9 n)]) 6 Tryz.f46 [.int .i64 n] (.tup [.sl 2 false (aDD n),.int .i64 0])):=by kernel_rfl
def aJJ:=Eq.mp (aJK ..) (aJL)
theorem xT (gl:aX):SOK Tryz.prog gl 46 oK:=by
 refine ⟨fok Tryz.func46 (by kernel_rfl) (by kernel_rfl),?_⟩
 intro xs pre r h hp
 unfold oK at h
 split at h
 ·cases h
  exact aT bD (by exact aV rfl rfl ⟨(pE gl),(aDE gl),trivial⟩ trivial) (by kernel_rfl) Tryz.func46 rfl (aJJ gl _ hp)
 ·cases h
set_option maxRecDepth 100000
theorem aVJ:(aDD 1).length=30:=by decide +kernel
theorem zF (xs ys:List Int) (i:Nat) (x:Int):∀ k,eR (mH xs i x) ys k=eR xs ys k+if i < k∧i < xs.length then x*ys.getD i 0 else 0
 | 0=>by simp [eR]
 | k+1=>by
  rw [eR,eR,zF xs ys i x k,gR]
  by_cases q:i=k
  ·subst q
   by_cases q2:i < xs.length <;> simp only [q2,Nat.lt_irrefl,Nat.lt_succ_self,true_and,false_and,and_true,and_false,if_true,if_false,Int.add_mul,Int.add_zero] <;> omega
  ·by_cases q2:i < k <;> simp only [q,q2,show (i < k+1)=(i < k) from propext ⟨λ _=>by omega,λ _=>by omega⟩,true_and,false_and,if_false,Int.add_zero] <;> omega
theorem zD (xs ys:List Int) (i:Nat) (x:Int):∀ k,eR xs (mH ys i x) k=eR xs ys k+if i < k∧i < ys.length then xs.getD i 0*x else 0
 | 0=>by simp [eR]
 | k+1=>by
  rw [eR,eR,zD xs ys i x k,gR]
  by_cases q:i=k
  ·subst q
   by_cases q2:i < ys.length <;> simp only [q2,Nat.lt_irrefl,Nat.lt_succ_self,true_and,false_and,and_true,and_false,if_true,if_false,Int.mul_add,Int.add_zero] <;> omega
  ·by_cases q2:i < k <;> simp only [q,q2,show (i < k+1)=(i < k) from propext ⟨λ _=>by omega,λ _=>by omega⟩,true_and,false_and,if_false,Int.add_zero] <;> omega
theorem wO {xs ys:List Int} {i:Nat} (x:Int) (h:i < xs.length):cX (mH xs i x) ys=cX xs ys+x*ys.getD i 0:=by
 unfold cX
 rw [eD,zF,if_pos ⟨h,h⟩]
theorem oV {xs ys:List Int} {i:Nat} (x:Int) (h:i < xs.length) (h2:i < ys.length):cX xs (mH ys i x)=cX xs ys+xs.getD i 0*x:=by
 unfold cX
 rw [zD,if_pos ⟨h,h2⟩]
theorem aFY (es:LL) (ams:List Int) (k:Nat) (ds:List Int):mvS es ams k ds=mH (mH ds (nI (es.getD k []) 0).toNat (-ams.getD k 0)) (nI (es.getD k []) 1).toNat (ams.getD k 0):=by
 unfold mvS mH
 simp only [Int.sub_eq_add_neg]
set_option maxRecDepth 10000 in
theorem aMy {a b c:Int} (h:bU a b c=0):scZ a b c - wan a (scZ a b c)=2 ^ min c.toNat 64*wan c (scZ a b c - wan a (scZ a b c))∧wan b (scZ a b c)=2 ^ min c.toNat 64*wan (b+c) (scZ a b c)∧(2:Int) ^ min c.toNat 64≠0:=by
 obtain ⟨ha,hb,hc⟩:=mK h
 rcases (show a=1∨a=2∨a=3∨a=4 by omega) with rfl | rfl | rfl | rfl <;> rcases (show b=1∨b=2∨b=3∨b=4 by omega) with rfl | rfl | rfl | rfl <;> rcases (show c=1∨c=2∨c=3∨c=4 by omega) with rfl | rfl | rfl | rfl <;> decide
theorem aOL {es:LL} {a b c:Int} {dg bs gd gf ds fs:List Int} (hs:bU a b c=0) {k:Nat} (hb:-1≤bs.getD k 0∧bs.getD k 0≤1) {r0 r1:Int} (e0:r0=nI (es.getD k []) 0) (e1:r1=nI (es.getD k []) 1) :
    (alV b c (scZ a b c) (bs.getD k 0) r0 r1 k gd gf+alU (scZ a b c) (bs.getD k 0) r0 r1 dg gd)*ds.getD r0.toNat 0+-(alV b c (scZ a b c) (bs.getD k 0) r0 r1 k gd gf+alW (scZ a b c) (bs.getD k 0) r0 r1 dg gd)*ds.getD r1.toNat 0+alF a c (scZ a b c) (bs.getD k 0) r0 r1 k gd gf*fs.getD k 0
     =gd.getD r0.toNat 0*-taA es (scZ a b c) a b c dg bs ds fs k+gd.getD r1.toNat 0*taA es (scZ a b c) a b c dg bs ds fs k+gf.getD k 0*taF es (scZ a b c) a b ds fs k:=by
  obtain ⟨h1,h2,h3⟩:=aMy hs
  unfold taA taF alV alU alW alF alQ
  rw [← e0,← e1,Int.toNat_natCast]
  generalize (scZ a b c).tdiv (dg.getD r0.toNat 0)=D0
  generalize (scZ a b c).tdiv (dg.getD r1.toNat 0)=D1
  generalize wan (b+c) (scZ a b c)=S' at *
  generalize wan c (scZ a b c - wan a (scZ a b c))=T' at *
  generalize scZ a b c - wan a (scZ a b c)=T at *
  generalize wan b (scZ a b c)=S at *
  generalize gd.getD r0.toNat 0=gA
  generalize gd.getD r1.toNat 0=gB
  generalize ds.getD r0.toNat 0=hA
  generalize ds.getD r1.toNat 0=hB
  generalize gf.getD k 0=g
  generalize fs.getD k 0=h
  rcases (show bs.getD k 0=0∨bs.getD k 0=1∨bs.getD k 0=-1 by omega) with q | q | q
  · rw [q]
    simp only [if_pos,show ¬ (0:Int)=1 by decide,show ¬ (0:Int)=-1 by decide,if_false]
    have ew:wan c (T*h+S*(hA - hB))=T'*h+S'*(hA - hB):=by
      unfold wan
      rw [show T*h+S*(hA - hB)=2 ^ min c.toNat 64*(T'*h+S'*(hA - hB)) by rw [h1,h2]; grind]
      exact Int.mul_ediv_cancel_left _ h3
    rw [ew]
    grind
  · rw [q]
    simp only [if_pos,show ¬ (1:Int)=0 by decide,show ¬ (1:Int)=-1 by decide,if_false]
    grind
  · rw [q]
    simp only [if_pos,show ¬ (-1:Int)=0 by decide,show ¬ (-1:Int)=1 by decide,if_false]
    grind
theorem zB {Z:Int} {N:Nat} (xs ys:List Int):∀ k,k≤N->eR (mk (taS Z xs) N) ys k=eR xs (mk (taS Z ys) N) k
 | 0,_=>rfl
 | k+1,h=>by
  rw [eR,eR,zB xs ys k (by omega),fV _ (by omega),fV _ (by omega)]
  unfold taS
  rw [Int.mul_comm Z,Int.mul_assoc]
structure TrP (n a b c:Int) (bs gd gf ds fs:List Int):Prop where
 hg:GrdP nrm n
 hs:bU a b c=0
 hb:∀ k,-1≤bs.getD k 0∧bs.getD k 0≤1
 lg:gd.length=ndN n
 ld:ds.length=ndN n
 lq:gf.length=(aS nrm n).length
theorem aB8 {n a b c:Int} {bs gd gf ds fs:List Int} (h:TrP n a b c bs gd gf ds fs):∀ K,K≤(aS nrm n).length->cX (ajK n a b c bs gd gf K) ds+eR (ajG n a b c bs gd gf) fs K=cX gd (taK n a b c bs ds fs K)+eR gf (taG n a b c ds fs) K
 | 0,_=>by
  show cX (mk (taS (scZ a b c) gd) (ndN n)) ds+0=cX gd (mk (taS (scZ a b c) ds) (ndN n))+0
  unfold cX
  rw [bZ,h.lg,zB gd ds _ (Nat.le_refl _)]
 | K+1,hK=>by
  have ih:=aB8 h K (by omega)
  obtain ⟨ea,eb⟩:=iE h.hg (k:=K) (by omega)
  have e1:ajK n a b c bs gd gf (K+1)=mH (mH (ajK n a b c bs gd gf K) (nI ((aS nrm n).getD K []) 0).toNat (alV b c (scZ a b c) (bs.getD K 0) (nI ((aS nrm n).getD K []) 0) (nI ((aS nrm n).getD K []) 1) K gd gf+alU (scZ a b c) (bs.getD K 0) (nI ((aS nrm n).getD K []) 0) (nI ((aS nrm n).getD K []) 1) (bR n) gd)) (nI ((aS nrm n).getD K []) 1).toNat (-(alV b c (scZ a b c) (bs.getD K 0) (nI ((aS nrm n).getD K []) 0) (nI ((aS nrm n).getD K []) 1) K gd gf+alW (scZ a b c) (bs.getD K 0) (nI ((aS nrm n).getD K []) 0) (nI ((aS nrm n).getD K []) 1) (bR n) gd)):=rfl
  have e2:taK n a b c bs ds fs (K+1)=mH (mH (taK n a b c bs ds fs K) (nI ((aS nrm n).getD K []) 0).toNat (-taA (aS nrm n) (scZ a b c) a b c (bR n) bs ds fs K)) (nI ((aS nrm n).getD K []) 1).toNat (taA (aS nrm n) (scZ a b c) a b c (bR n) bs ds fs K):=by
   have hk:K < (aS nrm n).length:=by omega
   unfold taK
   rw [mvK,aFY,fV _ hk]
  have lK:=nE n a b c bs gd gf K
  have lT:=pB n a b c bs ds fs K
  have lg:=h.lg
  have ei:=aOL (es:=aS nrm n) (dg:=bR n) (gd:=gd) (gf:=gf) (ds:=ds) (fs:=fs) h.hs (h.hb K) rfl rfl
  rw [e1,e2,wO _ (by rw [eD]; omega),wO _ (by omega),oV _ (by omega) (by rw [eD]; omega),oV _ (by omega) (by omega)]
  rw [eR,eR,show (ajG n a b c bs gd gf).getD K 0=alF a c (scZ a b c) (bs.getD K 0) (nI ((aS nrm n).getD K []) 0) (nI ((aS nrm n).getD K []) 1) K gd gf from fV _ (by omega),show (taG n a b c ds fs).getD K 0=taF (aS nrm n) (scZ a b c) a b ds fs K from fV _ (by omega)]
  omega
theorem aP4 {n a b c:Int} {bs gd gf ds fs:List Int} (h:TrP n a b c bs gd gf ds fs):cX (ajD n a b c bs gd gf) ds+cX (ajG n a b c bs gd gf) fs=cX gd (taD n a b c bs ds fs)+cX gf (taG n a b c ds fs):=by
 have:=aB8 h _ (Nat.le_refl _)
 have e1:cX (ajG n a b c bs gd gf) fs=eR (ajG n a b c bs gd gf) fs (aS nrm n).length:=by unfold cX ajG; rw [bZ]
 have e2:cX gf (taG n a b c ds fs)=eR gf (taG n a b c ds fs) (aS nrm n).length:=by unfold cX; rw [h.lq]
 rw [e1,e2]
 exact this
theorem aQ2 (N k:Nat):(List.replicate N (0:Int)).getD k 0=0:=by
 rw [aB,List.getElem?_replicate]
 split <;> rfl
theorem zC (xs:List Int) (N:Nat):∀ k,eR xs (List.replicate N 0) k=0
 | 0=>rfl
 | k+1=>by
  rw [eR,zC xs N k,aQ2,Int.mul_zero]; rfl
theorem aBF (xs:List Int) (N:Nat):∀ k,eR (List.replicate N 0) xs k=0
 | 0=>rfl
 | k+1=>by
  rw [eR,aBF xs N k,aQ2,Int.zero_mul]; rfl
theorem aAh (n:Int) (k:Nat):unV n k=mH (List.replicate (ndN n) 0) k 1:=by
 unfold unV mH
 rw [aB,List.getElem?_replicate]
 split <;> rfl
theorem aOT {n:Int} {xs:List Int} {j:Nat} (h:xs.length=ndN n) (hj:j < ndN n):cX xs (unV n j)=xs.getD j 0:=by
 rw [aAh,oV _ (by omega) (by rw [List.length_replicate]; exact hj)]
 unfold cX
 rw [zC]; omega
theorem aOU {n:Int} {ys:List Int} {j:Nat} (hj:j < ndN n):cX (unV n j) ys=ys.getD j 0:=by
 rw [aAh,wO _ (by rw [List.length_replicate]; exact hj)]
 unfold cX
 rw [aBF]; omega
theorem aEt (n:Int) (k:Nat):(unV n k).length=ndN n:=by simp [unV]
theorem aVB {n a b c:Int} {bs ds fs:List Int} (hg:GrdP nrm n) (hs:bU a b c=0) (hb:∀ k,-1≤bs.getD k 0∧bs.getD k 0≤1) (ld:ds.length=ndN n) {k:Nat} (hk:k < ndN n) :
  cX (ajD n a b c bs (unV n k) (zeV n)) ds+cX (ajG n a b c bs (unV n k) (zeV n)) fs=(taD n a b c bs ds fs).getD k 0:=by
 rw [aP4 ⟨hg,hs,hb,aEt n k,ld,by simp [zeV]⟩,aOU hk]
 unfold cX zeV
 rw [aBF]; omega
def kY (f:Nat->Int):Nat->Int
 | 0=>0
 | k+1=>kY f k+f k
theorem jK {f g:Nat->Int}:∀ {k},(∀ j,j < k->f j=g j)->kY f k=kY g k
 | 0,_=>rfl
 | k+1,h=>by rw [kY,kY,jK λ j hj=>h j (by omega),h k (by omega)]
theorem aCc (Z:Int) (f:Nat->Int):∀ k,kY (λ j=>Z*f j) k=Z*kY f k
 | 0=>by simp [kY]
 | k+1=>by rw [kY,kY,aCc Z f k,Int.mul_add]
theorem oI (l:List Int) (i:Nat) (x:Int):∀ k,kY (λ j=>(mH l i x).getD j 0) k=kY (λ j=>l.getD j 0) k+if i < k∧i < l.length then x else 0
 | 0=>by simp [kY]
 | k+1=>by
  rw [kY,kY,oI l i x k,gR]
  by_cases q:i=k
  ·subst q
   by_cases q2:i < l.length <;> simp only [q2,Nat.lt_irrefl,Nat.lt_succ_self,true_and,false_and,and_true,and_false,if_true,if_false,Int.add_zero] <;> omega
  ·by_cases q2:i < k <;> simp only [q,q2,show (i < k+1)=(i < k) from propext ⟨λ _=>by omega,λ _=>by omega⟩,true_and,false_and,if_false,Int.add_zero] <;> omega
theorem aEN (N:Nat):∀ k,kY (λ j=>(List.replicate N (0:Int)).getD j 0) k=0
 | 0=>rfl
 | k+1=>by
  rw [kY,aEN N k,aB,List.getElem?_replicate]
  split <;> rfl
theorem aAo {n a b c:Int} {bs ds fs:List Int} (hg:GrdP nrm n):∀ K,K≤(aS nrm n).length->kY (λ j=>(taK n a b c bs ds fs K).getD j 0) (ndN n)=scZ a b c*kY (λ j=>ds.getD j 0) (ndN n)
 | 0,_=>by
  rw [← aCc]
  exact jK λ j hj=>fV _ hj
 | K+1,hK=>by
  obtain ⟨ea,eb⟩:=iE hg (k:=K) (by omega)
  have lT:=pB n a b c bs ds fs K
  have e2:taK n a b c bs ds fs (K+1)=mH (mH (taK n a b c bs ds fs K) (nI ((aS nrm n).getD K []) 0).toNat (-taA (aS nrm n) (scZ a b c) a b c (bR n) bs ds fs K)) (nI ((aS nrm n).getD K []) 1).toNat (taA (aS nrm n) (scZ a b c) a b c (bR n) bs ds fs K):=by
   have hk:K < (aS nrm n).length:=by omega
   unfold taK
   rw [mvK,aFY,fV _ hk]
  rw [e2,oI,if_pos ⟨by omega,by rw [eD]; omega⟩,oI,if_pos ⟨by omega,by omega⟩,aAo hg K (by omega)]
  omega
theorem aUb {n a b c:Int} {bs:List Int} (hg:GrdP nrm n) (hs:bU a b c=0) (hb:∀ k,-1≤bs.getD k 0∧bs.getD k 0≤1) {m j:Nat} (hm:m < ndN n) (hj:j < ndN n):(ajD n a b c bs (unV n m) (zeV n)).getD j 0=(taD n a b c bs (unV n j) (zeV n)).getD m 0:=by
 have:=aVB (fs:=zeV n) hg hs hb (aEt n j) hm
 rw [aOT (xs:=ajD n a b c bs (unV n m) (zeV n)) (nE _ _ _ _ _ _ _ _) hj] at this
 unfold cX at this
 rw [show eR (ajG n a b c bs (unV n m) (zeV n)) (zeV n) _=0 from zC _ _ _] at this
 omega
theorem aUa {n a b c:Int} {bs:List Int} (hg:GrdP nrm n) (hs:bU a b c=0) (hb:∀ k,-1≤bs.getD k 0∧bs.getD k 0≤1) {m i:Nat} (hm:m < ndN n) (hi:i < (aS nrm n).length):(ajG n a b c bs (unV n m) (zeV n)).getD i 0=(taD n a b c bs (List.replicate (ndN n) 0) (mH (zeV n) i 1)).getD m 0:=by
 have:=aVB (fs:=mH (zeV n) i 1) hg hs hb (ds:=List.replicate (ndN n) 0) (by simp) hm
 rw [oV _ (by unfold ajG; rw [bZ]; exact hi) (by simp [zeV]; exact hi)] at this
 unfold cX at this
 rw [zC,show eR (ajG n a b c bs (unV n m) (zeV n)) (zeV n) _=0 from zC _ _ _] at this
 omega
theorem aJs {n a b c:Int} {bs:List Int} (hg:GrdP nrm n) (hs:bU a b c=0) (hb:∀ k,-1≤bs.getD k 0∧bs.getD k 0≤1) {j:Nat} (hj:j < ndN n):kY (λ m=>(ajD n a b c bs (unV n m) (zeV n)).getD j 0) (ndN n)=scZ a b c:=by
 rw [jK λ m hm=>aUb hg hs hb hm hj]
 unfold taD
 rw [aAo hg _ (Nat.le_refl _),aAh,oI,aEN,if_pos ⟨hj,by rw [List.length_replicate]; exact hj⟩]
 omega
theorem aE0 {n a b c:Int} {bs:List Int} (hg:GrdP nrm n) (hs:bU a b c=0) (hb:∀ k,-1≤bs.getD k 0∧bs.getD k 0≤1) {i:Nat} (hi:i < (aS nrm n).length):kY (λ m=>(ajG n a b c bs (unV n m) (zeV n)).getD i 0) (ndN n)=0:=by
 rw [jK λ m hm=>aUa hg hs hb hm hi]
 unfold taD
 rw [aAo hg _ (Nat.le_refl _),aEN]
 omega
def ltE (x y:List AV):Prop:=nI x 0 < nI y 0∨(nI x 0=nI y 0∧nI x 1 < nI y 1)
theorem aDb:∀ (l:LL) (p:List AV),(∀ r ∈ p::l,okR 2 r=true)->(p::l).Pairwise leE->(∀ r ∈ oA p l,ltE p r)∧(oA p l).Pairwise ltE
 | [],p,_,_=>by simp [oA]
 | x::l,p,ho,hs=>by
  have hp:=ho p aO
  have hx:=ho x (aN _ aO)
  rw [List.pairwise_cons] at hs
  have ih:=aDb l x (λ r hr=>ho r (aN _ hr)) hs.2
  unfold oA
  split
  ·rename_i e
   have e:=(wJ hx hp).1 e
   subst e
   exact ih
  ·rename_i e
   have hne:¬ x=p:=λ q=>e ((wJ hx hp).2 q)
   have hle:=hs.1 x aO
   have hlt:ltE p x:=by
    unfold leE at hle
    unfold ltE
    by_cases q0:nI p 0=nI x 0
    ·by_cases q1:nI p 1=nI x 1
     ·exfalso
      apply hne
      have e1:=(ok2 hx).1
      have e2:=(ok2 hp).1
      rw [← q0,← q1] at e1
      rw [e1]; exact e2.symm
     ·omega
    ·omega
   refine ⟨λ r hr=>?_,List.pairwise_cons.2 ⟨ih.1,ih.2⟩⟩
   rcases List.mem_cons.1 hr with rfl | hr
   ·exact hlt
   ·have:=ih.1 r hr
    unfold ltE at *
    omega
theorem aHV:∀ (l:LL),(∀ r ∈ l,okR 2 r=true)->l.Pairwise leE->(cS l).Pairwise ltE
 | [],_,_=>by simp [cS]
 | x::l,ho,hs=>by
  have:=aDb l x ho hs
  exact List.pairwise_cons.2 this
def cdE (r:List AV):Nat:=(nI r 0).toNat*1000+(nI r 1).toNat
def hsN (x:Nat):List Nat->Bool
 | []=>false
 | y::l=>Nat.beq x y||hsN x l
def ddp:List Nat->List Nat
 | []=>[]
 | x::l=>cond (hsN x l) (ddp l) (x::ddp l)
theorem aBf {x:Nat}:∀ {l:List Nat},hsN x l=true↔x ∈ l
 | []=>by simp [hsN]
 | y::l=>by
  simp only [hsN,Bool.or_eq_true,List.mem_cons,aBf (l:=l)]
  refine or_congr_left ⟨aA,λ e=>by subst e; exact Nat.beq_refl _⟩
theorem wR {x:Nat}:∀ {l:List Nat},x ∈ ddp l↔x ∈ l
 | []=>by simp [ddp]
 | y::l=>by
  unfold ddp
  cases h:hsN y l with
  | true =>
   rw [cond_true,wR (l:=l),List.mem_cons]
   have:=aBf.1 h
   refine ⟨.inr,λ q=>?_⟩
   rcases q with rfl | q
   ·exact this
   ·exact q
  | false=>rw [cond_false,List.mem_cons,List.mem_cons,wR (l:=l)]
theorem qV:∀ {l:List Nat},(ddp l).Nodup
 | []=>by simp [ddp]
 | y::l=>by
  unfold ddp
  cases h:hsN y l with
  | true=>rw [cond_true]; exact qV
  | false =>
   rw [cond_false,List.nodup_cons]
   refine ⟨λ q=>?_,qV⟩
   have:=aBf.2 (wR.1 q)
   rw [h] at this; cases this
theorem aFW:∀ {l l':List Nat},l.Nodup->(∀ x ∈ l,x ∈ l')->l.length≤l'.length
 | [],_,_,_=>Nat.zero_le _
 | x::l,l',hn,hs=>by
  rw [List.nodup_cons] at hn
  have hx:=hs x aO
  have h1:l.length≤(l'.erase x).length:=aFW hn.2 λ y hy=>(List.mem_erase_of_ne (λ e=>hn.1 (by subst e; exact hy))).2 (hs y (aN _ hy))
  rw [List.length_erase_of_mem hx] at h1
  have:=List.length_pos_of_mem hx
  simp only [List.length_cons]; omega
section
variable {nrm:NrT} {n:Int} (h:BldQ nrm n)
include h
theorem aOO (r:List AV):(r ∈ aS nrm n↔r ∈ edL (clG nrm n)):=by
 have h3:=rA h.l2 h.rg
 have p3:=bY (cf:=cf3) aLj (λ r hr=>(h3 r hr).ok)
 have h2:∀ q ∈ edL (dB nrm n),InR (ptG nrm n).1.length 2 q:=λ q hq=>by
  simp only [edL,List.mem_flatMap] at hq
  obtain ⟨r,hr,hq⟩:=hq
  exact qU h.l2 (h3 r (p3.mem_iff.1 hr)) q hq
 have p2:=bY (cf:=cf2) aIN (λ r hr=>(h2 r hr).ok)
 rw [show aS nrm n=cS (dC 2 cf2 (edL (dB nrm n))) from rfl,qZ (λ r hr=>(h2 r (p2.mem_iff.1 hr)).ok)]
 show r ∈ dC 2 cf2 (edL (dB nrm n))↔_
 rw [p2.mem_iff]
 simp only [edL,List.mem_flatMap]
 exact exists_congr λ c=>and_congr_left λ _=>p3.mem_iff
theorem aOM:(aS nrm n).Pairwise ltE:=by
 have h3:=rA h.l2 h.rg
 have p3:=bY (cf:=cf3) aLj (λ r hr=>(h3 r hr).ok)
 have h2:∀ q ∈ edL (dB nrm n),InR (ptG nrm n).1.length 2 q:=λ q hq=>by
  simp only [edL,List.mem_flatMap] at hq
  obtain ⟨r,hr,hq⟩:=hq
  exact qU h.l2 (h3 r (p3.mem_iff.1 hr)) q hq
 have p2:=bY (cf:=cf2) aIN (λ r hr=>(h2 r hr).ok)
 obtain ⟨d,e,hs⟩:=nP (cf:=cf2) aIN (edL (dB nrm n))
 have hs':(dC 2 cf2 (edL (dB nrm n))).Pairwise leE:=by
  rw [e,List.pairwise_map]
  refine hs.imp λ {a b} h=>?_
  rw [rB] at h
  have:=of_decide_eq_false h
  unfold leE
  omega
 exact aHV _ (λ r hr=>(h2 r (p2.mem_iff.1 hr)).ok) hs'
theorem aHH {K:Nat} (hK:(ddp ((edL (aTG nrm n)).map cdE)).length=K):(aS nrm n).length=K:=by
 rw [← aTF] at hK
 have hin:=(cB h).1
 have l2:=h.l2
 have hst:=aOM h
 have hnd:((aS nrm n).map cdE).Nodup:=by
  rw [List.nodup_iff_pairwise_ne,List.pairwise_map]
  refine (List.Pairwise.and_mem.1 hst).imp ?_
  rintro a b ⟨ha,hb,q⟩
  have a0:=(hin a ha).at_ 0 (by decide)
  have a1:=(hin a ha).at_ 1 (by decide)
  have b0:=(hin b hb).at_ 0 (by decide)
  have b1:=(hin b hb).at_ 1 (by decide)
  unfold ltE at q
  unfold cdE
  omega
 have hme:∀ x,x ∈ (aS nrm n).map cdE↔x ∈ ddp ((edL (clG nrm n)).map cdE):=λ x=>by
  rw [wR,List.mem_map,List.mem_map]
  exact exists_congr λ r=>and_congr_left λ _=>aOO h r
 have h1:=aFW hnd λ x hx=>(hme x).1 hx
 have h2:=aFW qV λ x hx=>(hme x).2 hx
 rw [List.length_map] at h1 h2
 omega
end
set_option maxRecDepth 100000
theorem wK:(aS nrm 1).length=30:=aHH aKx.bq (by decide +kernel)
structure FrQ (n:Int):Prop where
 ar:AroP n
 gp:GrdP nrm n
 le:(aDD n).length=(aS nrm n).length
 nd:(ndN n:Int)=10*n*n+2
 hi:(aS nrm n).length≤120
 lo:1≤(aS nrm n).length
theorem aOp:FrQ 1:=⟨aXY,aKx,by rw [aVJ,wK],by decide,by rw [wK]; decide,by rw [wK]; decide⟩
def aHT:SpH
 | [.sl 1 g xs,.int .i64 600],[]=>some (True,.ptr 0 0,[.cells [.sl 1 false (xs.take 600),.int .i64 0]])
 | _,_=>none
def aHU:Prop :=
 ∀ (gl:aX) (g:Bool) (xs:LL),True->IR9 600->bif decide ((600:Int) < (↑xs.length:Int)) then bif decide ((0:Int)≤(600:Int)∧(600:Int)≤(↑xs.length:Int)) then (0:Nat)=(0:Nat)∧((True∧List.drop 0 (List.take 600 xs)=List.take 600 xs)∧(0:Int)=(0:Int)∧True)∧True else False else (0:Nat)=(0:Nat)∧((True∧xs=List.take 600 xs)∧(0:Int)=(0:Int)∧True)∧True
theorem aTD:aHU:=by
 unfold aHU
 intro gl g xs
 intros
 refine csp (λ q=>cd1 (by omega) ⟨rfl,⟨⟨trivial,by rw [List.drop_zero]⟩,rfl,trivial⟩,trivial⟩) (λ q=>⟨rfl,⟨⟨trivial,by rw [List.take_of_length_le (by omega)]⟩,rfl,trivial⟩,trivial⟩)
theorem aTC:aHU=(∀ (gl:aX) (g:Bool) (xs:LL),fnH Tryz.prog { glob:=gl,spec:=lk [],specH:=lk [],nowf:=true } { nt:=15,drop:=drp [(1,224),(2,3584),(3,28672)],fr:=1000,kp:=[] } (λ _ _=>none) 6 Tryz.f16 [.sl 1 g xs,.int .i64 600] [] (.ptr 0 0) [.cells [.sl 1 false (xs.take 600),.int .i64 0]]):=by kernel_rfl
def aTB:=Eq.mp (aTC ..) (aTD)
theorem aO5 (gl:aX):HOK Tryz.prog gl 16 aHT:=by
 refine ⟨fok Tryz.func16 (by kernel_rfl) (by kernel_rfl),?_⟩
 intro xs bs pre r bs2 h hp
 unfold aHT at h
 split at h
 ·cases h
  exact bC bD (by exact aV rfl rfl trivial trivial) (by kernel_rfl) Tryz.func16 (aTB gl _ _)
 ·cases h
def aCj:Sp
 | [.int .i64 n]=>some (1≤n∧n≤4,.int .i64 (10*n*n+2))
 | _=>none
def aFa:Prop :=
 ∀ (gl:aX) (n:Int),1≤n∧n≤(4:Int)->IR9 n->bif decide (rng IntKind.i64 ((10:Int)*n)) then bif decide (rng IntKind.i64 ((10:Int)*n*n)) then bif decide (rng IntKind.i64 ((10:Int)*n*n+(2:Int))) then (10:Int)*n*n+(2:Int)=(10:Int)*n*n+(2:Int) else False else False else False
theorem aQV:aFa:=by
 unfold aFa
 intro gl n hn
 intros
 rcases (show n=1∨n=2∨n=3∨n=4 by omega) with rfl | rfl | rfl | rfl <;> exact cd1 (by decide) (cd1 (by decide) (cd1 (by decide) rfl))
theorem aQU:aFa=(∀ (gl:aX) (n:Int),1≤n∧n≤4->fnK Tryz.prog { glob:=gl,spec:=lk [],specH:=lk [],nowf:=true } { nt:=8,drop:=drp [(1,248)] } (λ _ _=>none) 6 Tryz.f49 [.int .i64 n] (.int .i64 (10*n*n+2))):=by kernel_rfl
def aQT:=Eq.mp (aQU ..) (aQV)
theorem aE9 (gl:aX):SOK Tryz.prog gl 49 aCj:=by
 refine ⟨fok Tryz.func49 (by kernel_rfl) (by kernel_rfl),?_⟩
 intro xs pre r h hp
 unfold aCj at h
 split at h
 ·cases h
  exact aT bD (by exact aV rfl rfl trivial trivial) (by kernel_rfl) Tryz.func49 rfl (aQT gl _ hp)
 ·cases h
def aAA:Sp
 | [.int .i64 a,.int .i64 b,.int .i64 c]=>some (True,.int .i64 (max b (min a c)))
 | _=>none
def aAB:Prop :=
 ∀ (gl:aX) (a b c:Int),IR9 a->IR9 b->IR9 c->max b (min a c)=max b (min a c)
theorem aMR:aAB:=by
 unfold aAB
 intros
 rfl
theorem aMQ:aAB=(∀ (gl:aX) (a b c:Int),fnK Tryz.prog { glob:=gl,spec:=lk [],specH:=lk [],nowf:=true } { nt:=12,drop:=drp [(1,3968)] } (λ _ _=>none) 6 Tryz.f50 [.int .i64 a,.int .i64 b,.int .i64 c] (.int .i64 (max b (min a c)))):=by kernel_rfl
def aMP:=Eq.mp (aMQ ..) (aMR)
theorem aJP (gl:aX):SOK Tryz.prog gl 50 aAA:=by
 refine ⟨fok Tryz.func50 (by kernel_rfl) (by kernel_rfl),?_⟩
 intro xs pre r h hp
 unfold aAA at h
 split at h
 ·cases h
  exact aT bD (by exact aV rfl rfl trivial trivial) (by kernel_rfl) Tryz.func50 rfl (aMP gl _ _ _)
 ·cases h
def pkV (l:List Int) (i:Int):Int:=l.getD i.toNat 0
def stm:List Int:=[0,30,5000,1000000]
def std:List Int:=[0,40,100000,2500000]
def sto:List Int:=[0,30,90000]
theorem pk4 {a b c d i:Int} (h:0≤i∧i < 4):List.take [AV.int .i64 (pkV [a,b,c,d] i)].length (List.drop 0 ([[AV.int .i64 a],[.int .i64 b],[.int .i64 c],[.int .i64 d]].getD i.toNat []))=[.int .i64 (pkV [a,b,c,d] i)]:=by
 rcases (show i=0∨i=1∨i=2∨i=3 by omega) with rfl | rfl | rfl | rfl <;> rfl
theorem pk3 {a b c i:Int} (h:0≤i∧i < 3):List.take [AV.int .i64 (pkV [a,b,c] i)].length (List.drop 0 ([[AV.int .i64 a],[.int .i64 b],[.int .i64 c]].getD i.toNat []))=[.int .i64 (pkV [a,b,c] i)]:=by
 rcases (show i=0∨i=1∨i=2 by omega) with rfl | rfl | rfl <;> rfl
theorem aJ3 {a b c d B i:Int} (ha:0≤a∧a≤B) (hb:0≤b∧b≤B) (hc:0≤c∧c≤B) (hd:0≤d∧d≤B) (h:0≤i∧i < 4):0≤pkV [a,b,c,d] i∧pkV [a,b,c,d] i≤B:=by
 rcases (show i=0∨i=1∨i=2∨i=3 by omega) with rfl | rfl | rfl | rfl <;> assumption
theorem aRg {a b c B i:Int} (ha:0≤a∧a≤B) (hb:0≤b∧b≤B) (hc:0≤c∧c≤B) (h:0≤i∧i < 3):0≤pkV [a,b,c] i∧pkV [a,b,c] i≤B:=by
 rcases (show i=0∨i=1∨i=2 by omega) with rfl | rfl | rfl <;> assumption
def st1 (xs:LL) (p:Int):Int:=nxA xs p 4
def stF (xs:LL) (p n:Int):List Int:=vcL xs (st1 xs p) (aS nrm n).length (pkV stm (nxV xs p 4))
def st2 (xs:LL) (p n:Int):Int:=vcA xs (st1 xs p) (aS nrm n).length (pkV stm (nxV xs p 4))
def st3 (xs:LL) (p n:Int):Int:=nxA xs (st2 xs p n) 4
def st4 (xs:LL) (p n:Int):Int:=nxA xs (st3 xs p n) 3
def stW (xs:LL) (p n:Int):List Int:=vcL xs (st4 xs p n) (ndN n) (pkV sto (nxV xs (st3 xs p n) 3))
def st5 (xs:LL) (p n:Int):Int:=vcA xs (st4 xs p n) (ndN n) (pkV sto (nxV xs (st3 xs p n) 3))
def stE (xs:LL) (p n:Int):Int:=pkV std (nxV xs (st2 xs p n) 4)
def stC (xs:LL) (p n:Int) (k:Nat):Int:=max 0 (min (stE xs p n+(stW xs p n).getD k 0) 16777216)
def stD (xs:LL) (p n:Int):List Int:=mk (stC xs p n) (ndN n)
def aUB (g:Bool) (xs:LL) (p n:Int):LInv:=⟨Int,λ x=>⟨[(0,.ptr 0 0),(4,.ptr 1004 0),(7,.ptr 1007 0),(8,.int .i64 (stE xs p n)),(42,.sl 1 false (aP (stW xs p n))),(43,.int .i64 (ndN n)),(44,.int .i64 x)],[(0,.cells [.sl 1 g xs,.int .i64 (st5 xs p n)]),(1004,.cells [.int .i64 0,.nils,.nils]),(1007,.cells [.int .i64 n,.rw 700 1 x.toNat,.sl 1 false (aP (stF xs p n))]),(700,.row 3 1 (aP (mk (stC xs p n) x.toNat)))]⟩,LtP (ndN n),λ x=>(ndN n - x).toNat,none⟩
def wS:SpH
 | [.ptr 0 0,.int .i64 n],[.cells [.sl 1 g xs,.int .i64 p]]=>some (FrQ n∧ChsP xs p,.agg [.int .i64 n,.sl 1 false (aP (stD xs p n)),.sl 1 false (aP (stF xs p n))],[.cells [.sl 1 g xs,.int .i64 (st5 xs p n)]])
 | _,_=>none
abbrev cG (n:Int):=(↑(List.length (aDD n)):Int)
def wT:Prop :=
 ∀ (gl:aX) (p n:Int) (g:Bool) (xs:LL),FrQ n∧ChsP xs p->True->IR9 n->True->IR9 p->AroP n∧ChsP xs p∧bif decide (0≤nxV xs p 4∧nxV xs p 4 < (4:Int)) then bif decide ((4:Nat)=(4:Nat)∧(nxV xs p 4).toNat < (4:Nat)) then ∃ n_1,List.take [I6 n_1].length (List.drop 0 ([[I6 0],[I6 30],[I6 5000],[I6 1000000]].getD (nxV xs p 4).toNat []))=[I6 n_1]∧(ChsP xs (nxA xs p 4)∧((1:Int)≤(cG n)∧(cG n)≤(1000:Int))∧0≤n_1∧n_1≤(1000000000:Int))∧ChsP xs (vcA xs (nxA xs p 4) (cG n) n_1)∧bif decide (0≤nxV xs (vcA xs (nxA xs p 4) (cG n) n_1) 4∧nxV xs (vcA xs (nxA xs p 4) (cG n) n_1) 4 < (4:Int)) then bif decide ((4:Nat)=(4:Nat)∧(nxV xs (vcA xs (nxA xs p 4) (cG n) n_1) 4).toNat < (4:Nat)) then ∃ n_2,List.take [I6 n_2].length (List.drop 0 ([[I6 0],[I6 40],[I6 100000],[I6 2500000]].getD (nxV xs (vcA xs (nxA xs p 4) (cG n) n_1) 4).toNat []))=[I6 n_2]∧ChsP xs (nxA xs (vcA xs (nxA xs p 4) (cG n) n_1) 4)∧bif decide (0≤nxV xs (nxA xs (vcA xs (nxA xs p 4) (cG n) n_1) 4) 3∧nxV xs (nxA xs (vcA xs (nxA xs p 4) (cG n) n_1) 4) 3 < (3:Int)) then bif decide ((3:Nat)=(3:Nat)∧(nxV xs (nxA xs (vcA xs (nxA xs p 4) (cG n) n_1) 4) 3).toNat < (3:Nat)) then ∃ n_3,List.take [I6 n_3].length (List.drop 0 ([[I6 0],[I6 30],[I6 90000]].getD (nxV xs (nxA xs (vcA xs (nxA xs p 4) (cG n) n_1) 4) 3).toNat []))=[I6 n_3]∧(1≤n∧n≤(4:Int))∧(ChsP xs (nxA xs (nxA xs (vcA xs (nxA xs p 4) (cG n) n_1) 4) 3)∧((1:Int)≤(10:Int)*n*n+(2:Int)∧(10:Int)*n*n+(2:Int)≤(1000:Int))∧0≤n_3∧n_3≤(1000000000:Int))∧(∃ x,LtP (ndN n) x∧((0:Nat)=(0:Nat)∧(0:Nat)=(0:Nat)∧(0:Nat)=(0:Nat)∧n_2=stE xs p n∧(True∧aP (vcL xs (nxA xs (nxA xs (vcA xs (nxA xs p 4) (cG n) n_1) 4) 3) ((10:Int)*n*n+(2:Int)) n_3)=aP (stW xs p n))∧(↑(aP (vcL xs (nxA xs (nxA xs (vcA xs (nxA xs p 4) (cG n) n_1) 4) 3) ((10:Int)*n*n+(2:Int)) n_3)).length:Int)=(↑(ndN n):Int)∧(0:Int)=x∧True)∧(((bif g then g=true else True)∧xs=xs)∧vcA xs (nxA xs (nxA xs (vcA xs (nxA xs p 4) (cG n) n_1) 4) 3) ((10:Int)*n*n+(2:Int)) n_3=st5 xs p n∧True)∧((0:Int)=(0:Int)∧True∧True∧True)∧(n=n∧(0:Nat)=Int.toNat x∧(True∧aP (vcL xs (nxA xs p 4) (cG n) n_1)=aP (stF xs p n))∧True)∧[]=aP (mk (stC xs p n) (Int.toNat x))∧True)∧∀ (x1:Int),LtP (ndN n) x1->bif decide (x1 < (↑(ndN n):Int)) then bif decide (0≤x1∧x1 < (↑(aP (stW xs p n)).length:Int)) then ∃ n_4,List.take [I6 n_4].length ((aP (stW xs p n)).getD x1.toNat [])=[I6 n_4]∧bif decide (rng IntKind.i64 (stE xs p n+n_4)) then True∧bif decide (x1.toNat=(aP (mk (stC xs p n) x1.toNat)).length∧(aP (mk (stC xs p n) x1.toNat)).length+[[I6 (max 0 (min (stE xs p n+n_4) 16777216))]].length≤(9223372036854775807:Nat)∧((aP (mk (stC xs p n) x1.toNat)).length+[[I6 (max 0 (min (stE xs p n+n_4) 16777216))]].length)*(8:Nat)≤(140737488355328:Nat)) then bif decide (rng IntKind.i64 (x1+(1:Int))) then ∃ y,LtP (ndN n) y∧(aUB g xs p n).m y < (aUB g xs p n).m x1∧((0:Nat)=(0:Nat)∧(0:Nat)=(0:Nat)∧(0:Nat)=(0:Nat)∧stE xs p n=stE xs p n∧(True∧aP (stW xs p n)=aP (stW xs p n))∧(↑(ndN n):Int)=(↑(ndN n):Int)∧x1+(1:Int)=y∧True)∧(((bif g then g=true else True)∧xs=xs)∧st5 xs p n=st5 xs p n∧True)∧((0:Int)=(0:Int)∧True∧True∧True)∧(n=n∧(aP (mk (stC xs p n) x1.toNat)++[[I6 (max 0 (min (stE xs p n+n_4) 16777216))]]).length=Int.toNat y∧(True∧aP (stF xs p n)=aP (stF xs p n))∧True)∧aP (mk (stC xs p n) x1.toNat)++[[I6 (max 0 (min (stE xs p n+n_4) 16777216))]]=aP (mk (stC xs p n) (Int.toNat y))∧True else False else False else False else False else bif decide (x1.toNat=(aP (mk (stC xs p n) x1.toNat)).length) then (n=n∧(True∧aP (mk (stC xs p n) x1.toNat)=aP (stD xs p n))∧(True∧aP (stF xs p n)=aP (stF xs p n))∧True)∧(((bif g then g=true else True)∧xs=xs)∧st5 xs p n=st5 xs p n∧True)∧True else False else False else False else False else False else False else False
theorem aKX:wT:=by
 unfold wT
 delta cG I6
 intro gl p n g xs ⟨hq,hc⟩
 intros
 have hA:=hq.ar
 have n1:=hA.lo
 have n2:=hA.hi
 have hnd:=hq.nd
 have hlo:=hq.lo
 have hhi:=hq.hi
 have hb:1≤10*n*n+2∧10*n*n+2≤1000:=by rcases (show n=1∨n=2 by omega) with rfl | rfl <;> decide
 have hgg:cond g (g=true) True:=by cases g <;> trivial
 rw [hq.le]
 have b1:=kM hc (n:=4) (by decide)
 have m1:0≤pkV stm (nxV xs p 4)∧pkV stm (nxV xs p 4)≤1000000:=aJ3 (by decide) (by decide) (by decide) (by decide) b1
 have k1:=dD hc 4
 have w1:=nG (n:=(aS nrm n).length) k1 m1.1
 have b2:=kM w1.2.2 (n:=4) (by decide)
 have k2:=dD w1.2.2 4
 have b3:=kM k2 (n:=3) (by decide)
 have k3:=dD k2 3
 have e2:0≤stE xs p n∧stE xs p n≤2500000:=aJ3 (by decide) (by decide) (by decide) (by decide) b2
 have m3:0≤pkV sto (nxV xs (st3 xs p n) 3)∧pkV sto (nxV xs (st3 xs p n) 3)≤90000:=aRg (by decide) (by decide) (by decide) b3
 have w3:=nG (n:=(ndN n:Int)) k3 m3.1
 have wl:(stW xs p n).length=ndN n:=by have:=w3.1; rwa [Int.toNat_natCast] at this
 have wb:∀ j,j < ndN n->-90009≤(stW xs p n).getD j 0∧(stW xs p n).getD j 0≤90009:=λ j hj=>by
  have:=w3.2.1 ((stW xs p n).getD j 0) (by rw [aB,aD (by rw [wl]; exact hj)]; exact List.getElem_mem _)
  omega
 have hil:=cV (stW xs p n)
 refine ⟨hA,hc,cd1 b1 (cd1 (by omega) ⟨pkV stm (nxV xs p 4),pk4 b1,⟨k1,by omega,m1.1,by omega⟩,w1.2.2,cd1 b2 (cd1 (by omega) ⟨stE xs p n,pk4 b2,k2,cd1 b3 (cd1 (by omega) ⟨pkV sto (nxV xs (st3 xs p n) 3),pk3 b3,by omega,⟨k3,hb,m3.1,by omega⟩,?_⟩)⟩)⟩)⟩
 rw [← hnd]
 refine ⟨⟨0,⟨Int.le_refl _,by omega⟩,⟨rfl,rfl,rfl,rfl,⟨trivial,rfl⟩,by show ((aP (stW xs p n)).length:Int)=_; omega,rfl,trivial⟩,⟨⟨hgg,rfl⟩,rfl,trivial⟩,by repeat' first|exact trivial|exact rfl|assumption|apply And.intro⟩,?_⟩
 rintro x ⟨x0,x1⟩
 have hml:=bZ (stC xs p n) x.toNat
 have hmi:=cV (mk (stC xs p n) x.toNat)
 refine csp (λ q=>?_) (λ q=>?_)
 ·have hj:x.toNat < ndN n:=by omega
  have hw:=wb x.toNat hj
  refine cd1 ⟨x0,by omega⟩ ⟨_,by rw [eL (by omega)]; rfl,cdI (by omega) ⟨trivial,?_⟩⟩
  have el:[[AV.int .i64 (max 0 (min (stE xs p n+(stW xs p n).getD x.toNat 0) 16777216))]].length=1:=rfl
  have es:aP (mk (stC xs p n) x.toNat)++[[.int .i64 (max 0 (min (stE xs p n+(stW xs p n).getD x.toNat 0) 16777216))]]=aP (mk (stC xs p n) (x+1).toNat):=by
   rw [show (x+1).toNat=x.toNat+1 by omega,pQ]
   simp only [aP,List.map_append,List.map_cons,List.map_nil]
   rfl
  refine cd1 (by rw [el]; omega) (cdI (by omega) ⟨x+1,⟨by omega,by omega⟩,by show (_:Nat) < _; simp only [aUB]; omega,by repeat' first|exact trivial|exact rfl|assumption|apply And.intro,⟨⟨hgg,rfl⟩,rfl,trivial⟩,by repeat' first|exact trivial|exact rfl|assumption|apply And.intro,⟨rfl,?_,by repeat' first|exact trivial|exact rfl|assumption|apply And.intro⟩,es,trivial⟩)
  rw [es,cV,bZ]
 ·have e:x.toNat=ndN n:=by omega
  refine cd1 (by omega) ⟨⟨rfl,⟨trivial,?_⟩,by repeat' first|exact trivial|exact rfl|assumption|apply And.intro⟩,⟨⟨hgg,rfl⟩,rfl,trivial⟩,trivial⟩
  rw [e]; rfl
theorem aKW:wT=(∀ (gl:aX) (p n:Int) (g:Bool) (xs:LL),FrQ n∧ChsP xs p->fnH Tryz.prog { glob:=gl,spec:=lk [(46,oK),(49,aCj),(50,aAA)],specH:=lk [(48,kP),(47,aC9)],shape:=[25,32,37,47],nowf:=true } { nt:=59,drop:=drp [(1,126976),(2,268304384),(3,274609471488),(4,4123168604160),(6,211106232532992),(7,143833713099145216),(8,144115188075855872),(9,288230376151711744)],fr:=1000,kp:=[0],emp:=λ id=>cond (Nat.beq id 4) [(1100701,700,3,1)] [] } (xH [(5,aUB g xs p n)]) 6 Tryz.f17 [.ptr 0 0,.int .i64 n] [.cells [.sl 1 g xs,.int .i64 p]] (.agg [.int .i64 n,.sl 1 false (aP (stD xs p n)),.sl 1 false (aP (stF xs p n))]) [.cells [.sl 1 g xs,.int .i64 (st5 xs p n)]]):=by kernel_rfl
def aKV:=Eq.mp (aKW ..) (aKX)
theorem aHP (gl:aX):HOK Tryz.prog gl 17 wS:=by
 refine ⟨fok Tryz.func17 (by kernel_rfl) (by kernel_rfl),?_⟩
 intro xs bs pre r bs2 h hp
 unfold wS at h
 split at h
 ·cases h
  exact bC bD (by exact aV rfl rfl ⟨(xT gl),(aE9 gl),(aJP gl),trivial⟩ ⟨(mA gl),(aHN gl),trivial⟩) (by kernel_rfl) Tryz.func17 (aKV gl _ _ _ _ hp)
 ·cases h
def aHZ:SpH
 | [.ptr 0 0,.int .i64 n,.int .i64 m],[.cells [.sl 1 g xs,.int .i64 p]]=>some (FrQ n∧ChsP xs p∧0≤m∧m≤1000,.agg [.sl 1 false (aP (vcL xs p (ndN n) m)),.sl 1 false (aP (vcL xs (vcA xs p (ndN n) m) (aS nrm n).length m))],[.cells [.sl 1 g xs,.int .i64 (vcA xs (vcA xs p (ndN n) m) (aS nrm n).length m)]])
 | _,_=>none
def aH0:Prop :=
 ∀ (gl:aX) (p n m:Int) (g:Bool) (xs:LL),FrQ n∧ChsP xs p∧0≤m∧m≤(1000:Int)->True->IR9 n->IR9 m->True->IR9 p->AroP n∧(1≤n∧n≤(4:Int))∧(ChsP xs p∧((1:Int)≤(10:Int)*n*n+(2:Int)∧(10:Int)*n*n+(2:Int)≤(1000:Int))∧0≤m∧m≤(1000000000:Int))∧(ChsP xs (vcA xs p ((10:Int)*n*n+(2:Int)) m)∧((1:Int)≤(↑(List.length (aDD n)):Int)∧(↑(List.length (aDD n)):Int)≤(1000:Int))∧0≤m∧m≤(1000000000:Int))∧((True∧aP (vcL xs p ((10:Int)*n*n+(2:Int)) m)=aP (vcL xs p (↑(ndN n):Int) m))∧(True∧aP (vcL xs (vcA xs p ((10:Int)*n*n+(2:Int)) m) (↑(List.length (aDD n)):Int) m)=aP (vcL xs (vcA xs p (↑(ndN n):Int) m) (↑(aS nrm n).length:Int) m))∧True)∧(((bif g then g=true else True)∧xs=xs)∧vcA xs (vcA xs p ((10:Int)*n*n+(2:Int)) m) (↑(List.length (aDD n)):Int) m=vcA xs (vcA xs p (↑(ndN n):Int) m) (↑(aS nrm n).length:Int) m∧True)∧True
theorem aTO:aH0:=by
 unfold aH0
 intro gl p n m g xs ⟨hq,hc,m0,m1⟩
 intros
 have hA:=hq.ar
 have n1:=hA.lo
 have n2:=hA.hi
 have hnd:=hq.nd
 have hlo:=hq.lo
 have hhi:=hq.hi
 have hb:1≤10*n*n+2∧10*n*n+2≤1000:=by rcases (show n=1∨n=2 by omega) with rfl | rfl <;> decide
 have hgg:cond g (g=true) True:=by cases g <;> trivial
 rw [hq.le,← hnd]
 have w1:=nG (n:=(ndN n:Int)) hc m0
 exact ⟨hA,by omega,⟨hc,by omega,m0,by omega⟩,⟨w1.2.2,by omega,m0,by omega⟩,by repeat' first|exact trivial|exact rfl|assumption|apply And.intro,⟨⟨hgg,rfl⟩,rfl,trivial⟩,trivial⟩
theorem aTN:aH0=(∀ (gl:aX) (p n m:Int) (g:Bool) (xs:LL),FrQ n∧ChsP xs p∧0≤m∧m≤1000->fnH Tryz.prog { glob:=gl,spec:=lk [(46,oK),(49,aCj)],specH:=lk [(48,kP),(47,aC9)],nowf:=true } { nt:=25,drop:=drp [(1,15872),(2,33538048)],fr:=1000,kp:=[0] } (λ _ _=>none) 6 Tryz.f19 [.ptr 0 0,.int .i64 n,.int .i64 m] [.cells [.sl 1 g xs,.int .i64 p]] (.agg [.sl 1 false (aP (vcL xs p (ndN n) m)),.sl 1 false (aP (vcL xs (vcA xs p (ndN n) m) (aS nrm n).length m))]) [.cells [.sl 1 g xs,.int .i64 (vcA xs (vcA xs p (ndN n) m) (aS nrm n).length m)]]):=by kernel_rfl
def aTM:=Eq.mp (aTN ..) (aTO)
theorem aPg (gl:aX):HOK Tryz.prog gl 19 aHZ:=by
 refine ⟨fok Tryz.func19 (by kernel_rfl) (by kernel_rfl),?_⟩
 intro xs bs pre r bs2 h hp
 unfold aHZ at h
 split at h
 ·cases h
  exact bC bD (by exact aV rfl rfl ⟨(xT gl),(aE9 gl),trivial⟩ ⟨(mA gl),(aHN gl),trivial⟩) (by kernel_rfl) Tryz.func19 (aTM gl _ _ _ _ _ hp)
 ·cases h
end Go.Proofs.YtgbbmadjdaphnaaGreatDoor
namespace Go.Proofs.YtgbbmadjdaphnaaGreatDoor
open Go Go.RowKit
variable {P:Program} {S:Pin} {m:Nm} {w:World} {a:Act} {G:Gh} {kp:List Nat} {st:St} {E:Env} {C:Cx}
structure Chg (I:Nat->Prop) (S:Pin) (W:World) (S':Pin) (W':World):Prop where
 os:W'.os=W.os
 tape:W'.tape=W.tape
 output:W'.output=W.output
 size:W.heap.size≤W'.heap.size
 frame:∀ b,b < W.heap.size->¬ I b->W'.heap[b]?=W.heap[b]?
 pins:Ext S S'
 pinOld:∀ b o,b < W.heap.size->S' b o=S b o
 agree:dX S' W'
theorem Chg.refl {I:Nat->Prop} {W:World} (h:dX S W):Chg I S W S W:=⟨rfl,rfl,rfl,Nat.le_refl _,λ _ _ _=>rfl,Ext.refl _,λ _ _ _=>rfl,h⟩
structure JOKI (I:Nat->Prop) (J:Nat->Pin->World->Prop):Prop where
 ag:∀ k S W,J k S W->dX S W
 lt:∀ k S W,J k S W->∀ g,I g->g < W.heap.size
 pin:∀ k S W,J k S W->∀ g o,I g->S g o=none
 ch:∀ k S W S' W',J k S W->Chg I S W S' W'->J k S' W'
theorem Rel.chg {kp kp1:List Nat} {st st2:St} {a a2:Act} {w w2:World} {S S2:Pin} {m m2:Nm} {I:Nat->Prop} (h:Rel G kp st a w S m) (h2:Rel (mkG w S m st.heap kp1) kp1 st2 a2 w2 S2 m2)
  (hI:∀ k blk u b,lk st.heap k=some blk->m k=some u->bk u=some b->I b) (hpin:∀ b o,I b->S b o=none∧S2 b o=none):Chg I S w S2 w2 where
 os:=h2.os
 tape:=h2.tape
 output:=h2.output
 size:=h2.size
 frame:=λ b hb hn=>h2.frame b hb λ ⟨k,blk,u,q1,q2,q3⟩=>hn (hI k blk u b q1 q2 q3)
 pins:=h2.pin0
 pinOld:=λ b o hb=>by
  by_cases q:I b
  ·rw [(hpin b o q).1,(hpin b o q).2]
  ·exact h2.pinNew b o hb λ ⟨k,blk,u,q1,q2,q3⟩=>q (hI k blk u b q1 q2 q3)
 agree:=h2.agree
theorem Rel.change {w w':World} {S S':Pin} {I:Nat->Prop} (h:Rel G kp st a w S m) (hc:Chg I S w S' w') (hd:∀ k b u g,lk st.heap k=some b->m k=some u->bk u=some g->¬ I g) (hM:∀ g,I g->g < G.w0.heap.size->G.M g):Rel G kp st a w' S' m where
 defers:=h.defers
 pin0:=h.pin0.trans hc.pins
 pinNew:=λ b o h1 h2=>(hc.pinOld b o (Nat.lt_of_lt_of_le h1 h.size)).trans (h.pinNew b o h1 h2)
 agree:=hc.agree
 tmps:=λ t=>(h.tmps t).ext hc.pins (MLe.refl m)
 held:=λ k b hk=>(h.held k b hk).keep hc.pins (λ _ _ _ hv=>hv.ext hc.pins (MLe.refl m)) rfl (λ u g hu hg=>by
  have hl:=(h.held k b hk).lt hu hg
  exact ⟨hc.frame g hl (hd k b u g hk hu hg),λ o=>hc.pinOld g o hl⟩)
 inj:=h.inj
 own:=h.own
 os:=hc.os.trans h.os
 tape:=hc.tape.trans h.tape
 output:=hc.output.trans h.output
 size:=Nat.le_trans h.size hc.size
 frame:=λ b h1 h2=>(hc.frame b (Nat.lt_of_lt_of_le h1 h.size) λ q=>h2 (hM b q h1)).trans (h.frame b h1 h2)
 m0:=h.m0
 keep:=h.keep
theorem Rel.after {kp kp1:List Nat} {w w':World} {S S':Pin} (h:Rel G kp st a w S m) (hS:Ext S S') (hA:dX S' w') (hd:∀ k b u g,lk st.heap k=some b->m k=some u->bk u=some g->w'.heap[g]?=w.heap[g]?∧∀ o,S' g o=S g o):Rel (mkG w' S' m st.heap kp1) kp1 st a w' S' m where
 defers:=h.defers
 pin0:=Ext.refl _
 pinNew:=λ _ _ _ _=>rfl
 agree:=hA
 tmps:=λ t=>(h.tmps t).ext hS (MLe.refl m)
 held:=λ k b hk=>(h.held k b hk).keep hS (λ _ _ _ hv=>hv.ext hS (MLe.refl m)) rfl (λ u g hu hg=>hd k b u g hk hu hg)
 inj:=h.inj
 own:=λ k b u g hk hu hg=>.inr ⟨k,b,u,hk,hu,hg⟩
 os:=rfl
 tape:=rfl
 output:=rfl
 size:=Nat.le_refl _
 frame:=λ _ _ _=>rfl
 m0:=λ k u e=>by
  simp only [mkG] at e
  split at e
  ·exact ⟨u,e,.refl u⟩
  ·cases e
 keep:=λ k u e=>by
  simp only [mkG] at e
  split at e
  ·rename_i q; exact aCQ q
  ·cases e
theorem Rel.addC (h:Rel G kp st a w S m) {k:Nat} {cs:List AV} (hh:fJ S m w k (.cells cs)) (hn:lk st.heap k=none)
    (ho:∀ u g,m k=some u->bk u=some g->G.w0.heap.size≤g∨G.M g) (hd:∀ k' b u g u' ,lk st.heap k'=some b->m k'=some u->bk u=some g->m k=some u'->bk u'≠some g):Rel G kp ⟨st.tmps,(k,.cells cs)::st.heap⟩ a w S m :=
  { h with
    defers:=h.defers
    tmps:=h.tmps
    held:=λ j b hj=>by
      rw [bX] at hj
      split at hj
      · rename_i q; subst q; simp only [aJ] at hj; subst hj; exact hh
      · exact h.held j b hj
    inj:=λ j j' b b' u u' g q1 q2 q3 q4 q5 q6=>by
      rw [bX] at q1 q2
      split at q1
      · rename_i e1
        split at q2
        · rename_i e2; exact absurd (e1.trans e2.symm) q3
        · intro q7
          subst e1
          exact hd j' b' u' g u q2 q5 q7 q4 q6
      · split at q2
        · rename_i e2
          subst e2
          exact hd j b u g u' q1 q4 q6 q5
        · exact h.inj j j' b b' u u' g q1 q2 q3 q4 q5 q6
    own:=λ j b u g q1 q2 q3=>by
      rw [bX] at q1
      split at q1
      · rename_i e; subst e; exact ho u g q2 q3
      · exact h.own j b u g q1 q2 q3 }
def aUs (P:Program) (gf:Nat) (lb:Array Value) (I:Nat->Prop) (x0:Nat->AV) (N:Nat) (X Y:Pin->World->Prop):Prop :=
 ∀ (n l:Nat) (J:Nat->Pin->World->Prop),JOKI I J->(∀ k S W v,J k S W->k < N->CV S (x0 k) dE v->YieldAt Fence.wide (n - 1) P l #[v] W λ e W'=>e=.returned (.bool true)∧(∀ g,I g->W'.heap[g]?=W.heap[g]?)∧∃ S',Ext S S'∧J (k+1) S' W') ->
  ∀ (S0:Pin) (W:World),GOKg glb S0->X S0 W->J 0 S0 W->CallsIn Fence.wide n P gf (#[.func (.yield l) #[] #[]]++lb) W λ e W'=>(∃ v,e=.returned v)∧∃ S',Ext S0 S'∧J N S' W'∧Y S' W'
def aAa (m:Nm) (H:List (Nat × Blk)) (S:Pin) (W:World):Prop:=∀ k b,lk H k=some b->fJ S m W k b
set_option maxHeartbeats 1000000 in
theorem aQ6 {inv:Nat->St->Option LInv} {fuel:Nat} (hT:TyOK P C.tys) (hS:cF P E) (hM:P.follows .mixedOrders=true) {kp kp1:List Nat} (hCk:C.kp=kp1) (hkp:∀ k ∈ kp,inL k kp1=true) (hGE:∀ S,GOKg glb S->GOK E S)
    {T:List (Nat × AV)} {Hx Hy:List (Nat × Blk)} {H:Nat->List (Nat × Blk)} (hgl:GOKg glb S) (hR:Rel G kp ⟨T,Hx++H 0⟩ a w S m) (hn:a.tmps.size=C.nt)
    (hx1:∀ k b,lk Hx k=some b->lk (Hx++H 0) k=some b) (hx2:∀ k b,lk (H 0) k=some b->lk Hx k=none∧lk (Hx++H 0) k=some b) (hxc:∀ k b,lk Hx k=some b->∃ cs,b=.cells cs) (hyc:∀ k b,lk Hy k=some b->∃ b',lk Hx k=some b')
    {I:Nat->Prop} (hI:∀ g,I g↔∃ k b u,lk Hx k=some b∧m k=some u∧bk u=some g)
    {g:Operand} {gf:Nat} {lb:Array Value} (hg:a.eval g=.func (.func gf) #[] lb) (eg:∀ args w,(callFunc gf args).run P w=.ok (.enter gf args) w)
    {x0:Nat->AV} {N:Nat} (hIt:aUs P gf lb I x0 N (aAa m Hx) (aAa m Hy))
    {p0:Nat} (hp0:p0 < C.nt) (hTm:aQa kp1 T) {assign body:Code} (hsa:bT assign=true) (hsb:bT body=true) (hH:∀ k,k≤N->lM (H k)=true)
    (hbody:∀ k,k < N->cC P E C inv fuel assign (St.put ⟨T,H k⟩ p0 (x0 k)) (λ st1=>cond (lM st1.heap) (cC P E C inv fuel body st1 (λ st2=>leS st2 ⟨[],H (k+1)⟩) (λ _ _=>False) (λ _=>False)) False) (λ _ _=>False) (λ _=>False))
    {n:Nat} {Q:Exit->Act->World->Prop}
    (hdone:∀ (W:World) (S':Pin) (m':Nm),Rel G kp ⟨T,H N⟩ a W S' m'->Ext S S'->aAa m Hy S' W->(∀ k b u g,lk (H N) k=some b->m' k=some u->bk u=some g->¬ I g)->(∀ k u,inL k kp1=true->m k=some u->∃ u',m' k=some u'∧rM u u')->W.heap[w.heap.size]?=some (.deferred (some []))->Q .normal (dP [{ target:=.collected w.heap.size,args:=#[] }] a) W) :
    (Code.rangeFunc g #[p0] assign body).wpIn Fence.wide n P Q a w:=by
  have ha:=hR.defers
  subst hCk
  have hself:∀ k ∈ C.kp,inL k C.kp=true:=λ k hk=>vG hk
  have hIlt:∀ g,I g->g < w.heap.size:=λ g hg=>by
    obtain ⟨k,b,u,q1,q2,q3⟩:=(hI g).1 hg
    exact (hR.held k b (hx1 k b q1)).lt q2 q3
  have hIpin:∀ g o,I g->S g o=none:=λ g o hg=>by
    obtain ⟨k,b,u,q1,q2,q3⟩:=(hI g).1 hg
    obtain ⟨cs,rfl⟩:=hxc k b q1
    obtain ⟨g',arr,t,h1,_,_,h4⟩:=hR.held k _ (hx1 k _ q1)
    rw [h1] at q2
    injection q2 with q2
    subst q2
    simp only [bk,aJ] at q3
    subst q3
    exact h4 o
  have hdis0:∀ k b u g,lk (H 0) k=some b->m k=some u->bk u=some g->¬ I g:=λ k b u g q1 q2 q3 q4=>by
    obtain ⟨k',b',u',r1,r2,r3⟩:=(hI g).1 q4
    obtain ⟨e1,e2⟩:=hx2 k b q1
    have hne:k≠k':=λ e=>by subst e; rw [e1] at r1; cases r1
    exact hR.inj k k' b b' u u' g e2 (hx1 k' b' r1) hne q2 r2 q3 r3
  refine wpIn_rangeFunc ?_
  intro fn hfn
  rw [show Fence.wide.round=none from rfl]
  obtain ⟨rec,hrec⟩:∃ rec:LoopState->Option Code->Loop,rec=λ st pe=>{ state:=st,pending:=pe,fn,tmps:=a.tmps,params:=#[p0],assign,body,defers:=w.heap.size }:=⟨_,rfl⟩
  obtain ⟨W1,hW1⟩:∃ W1,(w.alloc (.deferred (some []))).alloc (.loop (rec .ready none))=W1:=⟨_,rfl⟩
  have hL1:W1.heap[w.heap.size+1]?=some (.loop (rec .ready none)):=by
    rw [← hW1]; have:=World.alloc_heap_new (w.alloc (.deferred (some []))) (.loop (rec .ready none)); rwa [World.size_alloc] at this
  have hK1:W1.heap[w.heap.size]?=some (.deferred (some [])):=by
    rw [← hW1]; exact (Below.heap_alloc _ _ _ (by simp)).trans (World.alloc_heap_new w _)
  have hb1:Below w.heap.size w W1:=by
    rw [← hW1]; exact ((Below.refl _ w).alloc (Nat.le_refl _) _).alloc (by simp) _
  have hag1:dX S W1:=λ b o v e=>⟨(hb1.cell (p:=⟨b,o,none⟩) (hR.agree.lt e)).trans (hR.agree b o v e).1,(hR.agree b o v e).2⟩
  have hR0:Rel (mkG w S m (Hx++H 0) C.kp) C.kp ⟨T,Hx++H 0⟩ a W1 S m:=(hR.begin_ (kp1:=C.kp)).next hb1 (Ext.refl S) (λ _ _ _=>rfl) hag1
  have hR1:Rel (mkG w S m (Hx++H 0) C.kp) C.kp ⟨T,H 0⟩ a W1 S m :=
    { hR0 with
      defers:=hR0.defers
      tmps:=hR0.tmps
      held:=λ k b hk=>hR0.held k b (hx2 k b hk).2
      inj:=λ k k' b b' u u' g q1 q2=>hR0.inj k k' b b' u u' g (hx2 k b q1).2 (hx2 k' b' q2).2
      own:=λ k b u g q1=>hR0.own k b u g (hx2 k b q1).2 }
  obtain ⟨G1,hG1⟩:∃ G1,G1=mkG w S m (Hx++H 0) C.kp:=⟨_,rfl⟩
  rw [← hG1] at hR1
  have hw0:G1.w0=w:=by rw [hG1]; rfl
  have hM1:∀ g,I g->G1.M g:=λ g hg=>by
    obtain ⟨k,b,u,q1,q2,q3⟩:=(hI g).1 hg
    rw [hG1]; exact ⟨k,b,u,hx1 k b q1,q2,q3⟩
  have hX1:aAa m Hx S W1:=λ k b hk=>hR0.held k b (hx1 k b hk)
  obtain ⟨J,hJ⟩:∃ J:Nat->Pin->World->Prop,J=λ k S' W'=>W'.heap[w.heap.size+1]?=some (.loop (rec .ready none))∧W'.heap[w.heap.size]?=some (.deferred (some []))∧GOKg glb S'∧Ext S S'∧(∀ g o,I g->S' g o=none)∧∃ m',Rel G1 C.kp ⟨T,H k⟩ a W' S' m'∧(∀ k' b u g,lk (H k) k'=some b->m' k'=some u->bk u=some g->¬ I g):=⟨_,rfl⟩
  refine ⟨w.heap.size+1,[{ target:=.collected w.heap.size,args:=#[] }],W1,{ target:=.fn (.func gf) lb,args:=#[.func (.yield (w.heap.size+1)) #[] #[]] },W1,gf,
    #[.func (.yield (w.heap.size+1)) #[] #[]]++lb,W1,?_,?_,λ f' hf'=>trivial,?_,λ q=>(by cases q),?_⟩
  · rw [← hW1,hrec]; exact run_enterLoop_outer _ _ _ _ _
  · simp only [resolve,hg]
    simp [go_sem]
  · simp [invoke,go_sem,eg]
  refine (hIt (n - 1) (w.heap.size+1) J ?jok ?round S W1 hgl hX1 (by rw [hJ]; exact ⟨hL1,hK1,hgl,Ext.refl S,hIpin,m,hR1,hdis0⟩)).mono ?_
  case jok =>
    rw [hJ]
    refine ⟨λ k S' W' ⟨_,_,_,_,_,m',h,_⟩=>h.agree,λ k S' W' ⟨h1,_,_,_,_,m',h,_⟩ g hg=>?_,λ k S' W' ⟨_,_,_,_,hp,_⟩=>hp,λ k S' W' S2 W2 ⟨h1,h2,h3,hx,hp,m',h,hd⟩ hc=>⟨?_,?_,?_,hx.trans hc.pins,?_,m',h.change hc hd (λ g hg _=>hM1 g hg),hd⟩⟩
    · have:=hIlt g hg
      have:=h.size
      rw [hw0] at this
      omega
    · exact (hc.frame _ (aM.1 h1).1 (λ q=>by have:=hIlt _ q; omega)).trans h1
    · exact (hc.frame _ (aM.1 h2).1 (λ q=>by have:=hIlt _ q; omega)).trans h2
    · exact λ g cs e=>CC.mono hc.pins cs g 0 (h3 g cs e)
    · intro g o hg
      rw [hc.pinOld g o (by have:=hIlt g hg; have:=h.size; rw [hw0] at this; omega)]
      exact hp g o hg
  case round =>
    intro k S' W' v0 hj hk hv0
    rw [hJ] at hj
    obtain ⟨hl,hd,hgl',hxt,hpi,m',hRk,hdis⟩:=hj
    have hy:=run_yield (P:=P) (args:=#[v0]) hl (by rw [hrec]; rfl)
    have c0:CV S' (x0 k) m' v0:=hv0.ext (Ext.refl _) (MLe.no m')
    have hRk2:=hRk.put c0 (d:=p0) (by rw [hn]; exact hp0)
    have eact:({ tmps:=((rec .ready none).params.zip #[v0]).foldl (λ tmps (t,a)=>tmps.setIfInBounds t a) (rec .ready none).tmps,defers:=[] }:Act)=a.put (some p0) v0:=by
      rw [hrec]
      have ef:((#[p0]:Array Tmp).zip #[v0]).foldl (λ tmps (x:Tmp × Value)=>tmps.setIfInBounds x.1 x.2) a.tmps=a.tmps.setIfInBounds p0 v0:=by simp
      have e2:({ tmps:=((#[p0]:Array Tmp).zip #[v0]).foldl (λ tmps (x:Tmp × Value)=>tmps.setIfInBounds x.1 x.2) a.tmps,defers:=[] }:Act)=a.put (some p0) v0:=by
        rw [ef]
        show ({ tmps:=a.tmps.setIfInBounds p0 v0,defers:=[] }:Act)={ a with tmps:=a.tmps.setIfInBounds p0 v0 }
        rw [← ha]
      exact e2
    have hnk:(a.put (some p0) v0).tmps.size=C.nt:=by rw [dY,hn]
    generalize a.put (some p0) v0=ak at hRk2 eact hnk
    have hltl:w.heap.size+1 < W'.heap.size:=(aM.1 hl).1
    have hokk:lM (St.put ⟨T,H k⟩ p0 (x0 k)).heap=true:=hH k (Nat.le_of_lt hk)
    have heT:(St.put ⟨T,H k⟩ p0 (x0 k)).heap=H k:=rfl
    have hbk:=hbody k hk
    have hdisk:∀ k' b u g,lk (St.put ⟨T,H k⟩ p0 (x0 k)).heap k'=some b->m' k'=some u->bk u=some g->¬ I g:=hdis
    generalize St.put ⟨T,H k⟩ p0 (x0 k)=stk at hRk2 hokk heT hbk hdisk
    have efn:(rec .ready none).assign=assign∧(rec .ready none).body=body:=by rw [hrec]; exact ⟨rfl,rfl⟩
    refine ⟨_,_,_,_,hy,?_⟩
    rw [efn.1,efn.2]
    refine roundIn_of_wpIn trivial ?_
    rw [eact]
    have hx1:=dL hT hS hM (G:=mkG W' S' m' stk.heap C.kp) (hGE S' hgl') (r:=some (w.heap.size+1)) (n:=n - 1 - 1) (ds:=[]) assign hsa stk _ _ _ hbk ak W' S' m' hRk2.begin_ hnk
    rw [bQ] at hx1
    refine Go.wpIn_mono hx1 ?_
    rintro e a1' w1 ⟨a1,rfl,he⟩
    rw [bQ]
    cases e with
    | normal =>
      obtain ⟨st1,S1,m1,hb0,hA,hn1⟩:=he
      obtain ⟨hok1,hb⟩:=aW hb0
      have j1:=hRk2.join hA hself
      have hnot:∀ {x:Nat} {o:Obj},W'.heap[x]?=some o->o.isCells=false->¬ (mkG W' S' m' stk.heap C.kp).M x:=λ {x o} hx ho ⟨q,blk,u,q1,q2,q3⟩=>hRk2.notObj hokk hx ho q blk u x q1 q2 q3 rfl
      have hl1:w1.heap[w.heap.size+1]?=some (.loop (rec .ready none)):=(hA.frame _ hltl (hnot hl rfl)).trans hl
      have hd1:w1.heap[w.heap.size]?=some (.deferred (some [])):=(hA.frame _ (aM.1 hd).1 (hnot hd rfl)).trans hd
      have hi1:∀ g,I g->w1.heap[g]?=W'.heap[g]?:=λ g hg=>hA.frame g (by have h1:=hIlt g hg; show g < W'.heap.size; omega) λ ⟨q,blk,u,q1,q2,q3⟩=>hdisk q blk u g q1 q2 q3 hg
      have hp1:∀ g o,I g->S1 g o=none:=λ g o hg=>(hA.pinNew g o (by have h1:=hIlt g hg; show g < W'.heap.size; omega) λ ⟨q,blk,u,q1,q2,q3⟩=>hdisk q blk u g q1 q2 q3 hg).trans (hpi g o hg)
      have hdis1:∀ k' b u g,lk st1.heap k'=some b->m1 k'=some u->bk u=some g->¬ I g:=λ k' b u g q1 q2 q3 q4=>by
        rcases hA.own k' b u g q1 q2 q3 with q | ⟨q,blk,u',r1,r2,r3⟩
        · have h1:=hIlt g q4
          have:W'.heap.size≤g:=q
          omega
        · exact hdisk q blk u' g r1 r2 r3 q4
      have hg1:GOKg glb S1:=λ g cs e=>CC.mono hA.pin0 cs g 0 (hgl' g cs e)
      refine ⟨_,run_beginRound hl1 (by rw [hrec]),?_⟩
      have j2:=j1.obj (o':=.loop { rec .ready none with state:=.busy }) hl1 rfl (by rw [hw0]; omega) (j1.notObj hok1 hl1 rfl)
      obtain ⟨w2,hw2⟩:∃ w2,w2=w1.putObj (w.heap.size+1) (.loop { rec .ready none with state:=.busy }):=⟨_,rfl⟩
      rw [← hw2] at j2 ⊢
      have hl2:w2.heap[w.heap.size+1]?=some (.loop { rec .ready none with state:=.busy }):=by rw [hw2]; exact World.putObj_heap_same (aM.1 hl1).1
      have hd2:w2.heap[w.heap.size]?=some (.deferred (some [])):=by rw [hw2]; exact (World.putObj_heap_other (by omega)).trans hd1
      have hi2:∀ g,I g->w2.heap[g]?=W'.heap[g]?:=λ g hg=>by
        rw [hw2]; exact (World.putObj_heap_other (by have h1:=hIlt g hg; omega)).trans (hi1 g hg)
      have hx2:=dL hT hS hM (G:=mkG w2 S1 m1 st1.heap C.kp) (hGE S1 hg1) (r:=some (w.heap.size+1)) (n:=n - 1 - 1) (ds:=[]) body hsb st1 _ _ _ hb a1 w2 S1 m1 j2.begin_ hn1
      rw [bQ] at hx2
      refine Go.wpIn_mono hx2 ?_
      rintro e a2' w3 ⟨a2,rfl,he⟩
      cases e with
      | normal =>
        obtain ⟨st2,S2,m2,hle,hB,hn2⟩:=he
        have hlt2:w.heap.size+1 < w2.heap.size:=(aM.1 hl2).1
        have hnot2:∀ {x:Nat} {o:Obj},w2.heap[x]?=some o->o.isCells=false->¬ (mkG w2 S1 m1 st1.heap C.kp).M x:=λ {x o} hx ho ⟨q,blk,u,q1,q2,q3⟩=>j2.notObj hok1 hx ho q blk u x q1 q2 q3 rfl
        have hl3:=(hB.frame _ (aM.1 hl2).1 (hnot2 hl2 rfl)).trans hl2
        have hd3:=(hB.frame _ (aM.1 hd2).1 (hnot2 hd2 rfl)).trans hd2
        have hi3:∀ g,I g->w3.heap[g]?=W'.heap[g]?:=λ g hg=>(hB.frame g (by have h1:=hIlt g hg; show g < w2.heap.size; omega) λ ⟨q,blk,u,q1,q2,q3⟩=>hdis1 q blk u g q1 q2 q3 hg).trans (hi2 g hg)
        have hp3:∀ g o,I g->S2 g o=none:=λ g o hg=>(hB.pinNew g o (by have h1:=hIlt g hg; show g < w2.heap.size; omega) λ ⟨q,blk,u,q1,q2,q3⟩=>hdis1 q blk u g q1 q2 q3 hg).trans (hp1 g o hg)
        have hB2:=hB.le hle
        have hdis3:∀ k' b u g,lk (H (k+1)) k'=some b->m2 k'=some u->bk u=some g->¬ I g:=λ k' b u g q1 q2 q3 q4=>by
          rcases hB2.own k' b u g q1 q2 q3 with q | ⟨q,blk,u',r1,r2,r3⟩
          · have h1:=hIlt g q4
            have:w2.heap.size≤g:=q
            omega
          · exact hdis1 q blk u' g r1 r2 r3 q4
        have j3:=(j2.join hB hself).le hle
        have hok3:lM (H (k+1))=true:=hH (k+1) (by omega)
        have j4:=j3.obj (o':=.loop (rec .ready none)) hl3 rfl (by rw [hw0]; omega) (j3.notObj hok3 hl3 rfl)
        have hend:=run_endRound (P:=P) none hl3
        have erec:({ ({ rec .ready none with state:=.busy }:Loop) with state:=if (none:Option Code).isNone then .ready else .done,pending:=none }:Loop)=rec .ready none:=by rw [hrec]; rfl
        rw [erec] at hend
        refine ⟨_,_,hend,rfl,λ g hg=>?_,S2,hA.pin0.trans hB.pin0,?_⟩
        · exact (World.putObj_heap_other (by have h1:=hIlt g hg; omega)).trans (hi3 g hg)
        rw [hJ]
        refine ⟨World.putObj_heap_same (aM.1 hl3).1,(World.putObj_heap_other (by omega)).trans hd3,λ g cs e=>CC.mono hB.pin0 cs g 0 (hg1 g cs e),hxt.trans (hA.pin0.trans hB.pin0),hp3,m2,?_,hdis3⟩
        refine hRk.rebase (kp1:=C.kp) j4 (hA.pin0.trans hB.pin0) (λ q u hq hu=>?_) hTm
        obtain ⟨u1,e1,g1⟩:=hA.m0 q u (by simp only [mkG]; rw [if_pos hq]; exact hu)
        obtain ⟨u2,e2,g2⟩:=hB.m0 q u1 (by simp only [mkG]; rw [if_pos hq]; exact e1)
        exact ⟨u2,e2,g1.trans g2⟩
      | exit _=>obtain ⟨_,_,_,q,_⟩:=he; exact q.elim
      | ret=>obtain ⟨_,_,_,q,_⟩:=he; exact q.elim
      | _=>exact he.elim
    | exit _=>obtain ⟨_,_,_,q,_⟩:=he; exact q.elim
    | ret=>obtain ⟨_,_,_,q,_⟩:=he; exact q.elim
    | _=>exact he.elim
  · rintro e W2 ⟨⟨v,rfl⟩,S2,hS2,hj,hY⟩
    rw [hJ] at hj
    obtain ⟨hl,hk,hgl2,_,hp2,m2,h2,hd2⟩:=hj
    refine ⟨none,_,by have:=run_endLoop (P:=P) hl (by rw [hrec]; simp); rw [hrec] at this; exact this,?_⟩
    have h3:=h2.obj (o':=.loop { rec .ready none with state:=.exhausted }) hl rfl (by rw [hw0]; omega) (h2.notObj (hH N (Nat.le_refl _)) hl rfl)
    rw [hG1] at h3
    have hY':aAa m Hy S2 (W2.putObj (w.heap.size+1) (.loop { rec .ready none with state:=.exhausted })):=λ k b hk=>(hY k b hk).keep (Ext.refl _) (λ _ _ _ h=>h) rfl λ u g hu hg=>by
      obtain ⟨b',e⟩:=hyc k b hk
      have h1:=hIlt g ((hI g).2 ⟨k,b',u,e,hu,hg⟩)
      exact ⟨World.putObj_heap_other (by omega),λ _=>rfl⟩
    have:=hdone _ S2 m2 (hR.join h3 hkp) hS2 hY' hd2 (λ k u q1 q2=>h3.m0 k u (by simp only [mkG]; rw [if_pos q1]; exact q2)) ((World.putObj_heap_other (by omega)).trans hk)
    unfold dP at this
    rw [ha] at this ⊢
    rw [hrec] at this
    exact this
structure PreOK (ops pre:Array Oper) (K:Nat):Prop where
 sz:pre.size=K
 le:K < ops.size
 at_:∀ i,i < K->pre[i]?=ops[i]?
 back:∀ i o,ops[i]?=some o->∀ e ∈ o.after,Region.binds .any e=true->e.on < i
 all:∀ i,i < K->i ∈ (jJ ops.toList []).getD K []
 nxt:∀ i o,K < i->ops[i]?=some o->∃ e ∈ o.after,Region.binds .any e=true∧e.on=i - 1
 gd:∀ i o,i < K->ops[i]?=some o->∀ j b,o.guard=some (j,b)->j < K
 nd:∀ i o,i < K->ops[i]?=some o->pN o=true
def aO9 (K i:Nat) (o:Oper):Bool :=
 o.after.toList.all (λ e=>!(Region.binds .any e)||Nat.blt e.on i) &&
 ((Nat.ble i K||o.after.toList.any (λ e=>Region.binds .any e&&Nat.beq e.on (i - 1))) &&
 (Nat.ble K i||((match o.guard with | some (j,_)=>Nat.blt j K | none=>true)&&pN o)))
def aTH (K:Nat):Nat->List Oper->Bool
 | _,[]=>true
 | i,o::l=>aO9 K i o&&aTH K (i+1) l
theorem aDd {K:Nat}:∀ {l:List Oper} {i j:Nat} {o:Oper},aTH K i l=true->l[j]?=some o->aO9 K (i+j) o=true
 | [],_,_,_,_,e=>by simp at e
 | x::l,i,0,o,h,e=>by simp only [aTH,aC] at h; simp at e; subst e; exact h.1
 | x::l,i,j+1,o,h,e=>by
  simp only [aTH,aC] at h
  have:=aDd h.2 (by simpa using e)
  rwa [show i+1+j=i+(j+1) by omega] at this
def aJ1 (ops:Array Oper) (K:Nat):Array Oper:=(ops.toList.take K).toArray
def aUL (ops:Array Oper) (K:Nat):Bool:=Nat.blt K ops.size&&(aTH K 0 ops.toList&&(List.range K).all λ i=>inL i ((jJ ops.toList []).getD K []))
theorem aJ0 {ops:Array Oper} {K:Nat} (h:aUL ops K=true):PreOK ops (aJ1 ops K) K:=by
 simp only [aUL,aC,List.all_eq_true,List.mem_range] at h
 obtain ⟨h1,h2,h3⟩:=h
 have hK:K < ops.size:=aK h1
 have hl:ops.toList.length=ops.size:=by simp
 have hc:∀ i o,ops[i]?=some o->aO9 K i o=true:=λ i o e=>by
  have:=aDd (j:=i) h2 (by simpa using e)
  rwa [Nat.zero_add] at this
 refine ⟨?_,hK,λ i hi=>?_,λ i o e ed hed hb=>?_,λ i hi=>gY.1 (h3 i hi),λ i o hi e=>?_,λ i o hi e j b hg=>?_,λ i o hi e=>?_⟩
 ·simp only [aJ1,List.size_toArray,List.length_take]; omega
 ·simp only [aJ1]
  rw [List.getElem?_toArray,List.getElem?_take]
  simp [hi]
 ·have:=hc i o e
  simp only [aO9,aC,List.all_eq_true,Bool.or_eq_true,Bool.not_eq_true'] at this
  rcases this.1 ed (Array.mem_toList_iff.2 hed) with q | q
  ·rw [hb] at q; cases q
  ·exact aK q
 ·have:=hc i o e
  simp only [aO9,aC,Bool.or_eq_true] at this
  rcases this.2.1 with q | q
  ·have:=aK q; omega
  ·obtain ⟨ed,hed,q⟩:=List.any_eq_true.1 q
   simp only [aC] at q
   exact ⟨ed,Array.mem_toList_iff.1 hed,q.1,aA q.2⟩
 ·have:=hc i o e
  simp only [aO9,aC,Bool.or_eq_true] at this
  rcases this.2.2 with q | q
  ·have:=aK q; omega
  ·rw [hg] at q; exact aK q.1
 ·have:=hc i o e
  simp only [aO9,aC,Bool.or_eq_true] at this
  rcases this.2.2 with q | q
  ·have:=aK q; omega
  ·exact q.2
section
variable {P:Program} {ops pre:Array Oper} {K:Nat} {n:Nat} {r:Option Nat} {Q:Exit->Act->World->Prop}
theorem xA (h:PreOK ops pre K):∀ (d F t:Nat) (li:Array Bool) (a:Act) (w:World),t+d=ops.size->K≤t->d≤F->(∀ i,i < t->li.getD i false=true)->(∀ i,t≤i->i < ops.size->li.getD i true=false)->wpListIn (Fr r) n P ops Q (ops.toList.drop t) a w->wpAnyIn (Fr r) n P .any ops Q F li a w
 | 0,F,t,li,a,w,ht,hK,hF,h1,h2,hl=>by
  have hr:Region.ready .any ops li=[]:=by
   apply List.eq_nil_iff_forall_not_mem.2
   intro j hj
   obtain ⟨q0,o,ho,_⟩:=mem_ready.1 hj
   have hlt:=(aM.1 ho).1
   have:=h1 j (by omega)
   simp only [Array.getD_eq_getD_getElem?] at this q0
   cases e:li[j]? with
   | none=>rw [e] at this; cases this
   | some b=>rw [e] at this q0; simp at this q0; rw [this] at q0; cases q0
  rw [List.drop_eq_nil_of_le (by simp; omega)] at hl
  cases F with
  | zero=>exact ⟨hr,hl⟩
  | succ F=>exact ⟨λ _=>hl,λ i hi=>by rw [hr] at hi; cases hi⟩
 | d+1,0,t,li,a,w,ht,hK,hF,h1,h2,hl=>by omega
 | d+1,F+1,t,li,a,w,ht,hK,hF,h1,h2,hl=>by
  have hlt:t < ops.size:=by omega
  have ho:ops[t]?=some ops[t]:=Array.getElem?_eq_getElem hlt
  have hrd:t ∈ Region.ready .any ops li:=mem_ready.2 ⟨h2 t (Nat.le_refl _) hlt,_,ho,λ e he hb=>h1 _ (h.back t _ ho e he hb)⟩
  refine ⟨λ e=>(by rw [e] at hrd; cases hrd),λ j hj=>?_⟩
  obtain ⟨q0,o,hj1,hj2⟩:=mem_ready.1 hj
  have hjs:=(aM.1 hj1).1
  have hjt:j=t:=by
   rcases Nat.lt_trichotomy j t with q | q | q
   ·have:=h1 j q
    simp only [Array.getD_eq_getD_getElem?] at this q0
    cases e:li[j]? with
    | none=>rw [e] at this; cases this
    | some b=>rw [e] at this q0; simp at this q0; rw [this] at q0; cases q0
   ·exact q
   ·obtain ⟨e,he,hb,hon⟩:=h.nxt j o (by omega) hj1
    have q1:=hj2 e he hb
    have q2:=h2 e.on (by omega) (by omega)
    simp only [Array.getD_eq_getD_getElem?] at q1 q2
    cases e':li[e.on]? with
    | none=>rw [e'] at q1; cases q1
    | some b=>rw [e'] at q1 q2; simp at q1 q2; rw [q1] at q2; cases q2
  subst hjt
  have hd:ops.toList.drop j=ops[j]::ops.toList.drop (j+1):=by
   rw [List.drop_eq_getElem_cons (by simpa using hlt)]; simp
  rw [hd] at hl
  have hli:j < li.size:=by
   rcases Nat.lt_or_ge j li.size with q | q
   ·exact q
   ·have:=h2 j (Nat.le_refl _) hlt
    simp [Array.getElem?_eq_none q] at this
  have next:∀ a w,wpListIn (Fr r) n P ops Q (ops.toList.drop (j+1)) a w->wpAnyIn (Fr r) n P .any ops Q F (li.setIfInBounds j true) a w:=λ a w hl =>
   xA h d F (j+1) _ a w (by omega) (by omega) (by omega) (λ i hi=>by
    by_cases e:j=i
    ·subst e; simp [hli]
    ·rw [getD_set_ne false e]; exact h1 i (by omega)) (λ i h3 h4=>by rw [getD_set_ne true (by omega)]; exact h2 i (by omega) h4) hl
  unfold wpOpIn
  rw [ho]
  unfold wpListIn at hl
  simp only
  split
  ·rename_i hw
   rw [if_pos hw] at hl
   exact oX hl next
  ·rename_i hw
   rw [if_neg hw] at hl
   exact ⟨hl.1,next _ _ hl.2⟩
theorem aL1 (h:PreOK ops pre K) {Qp:Exit->Act->World->Prop} (hQ:oE Qp) {i:Nat} (hi:i < K) {K1 K2:Act->World->Prop} (hk:∀ a w,K1 a w->K2 a w) {a:Act} {w:World} (hw:wpOp P pre Qp i K1 a w):wpOpIn (Fr r) n P ops Q i K2 a w:=by
 have he:=h.at_ i hi
 unfold wpOp at hw
 unfold wpOpIn
 rw [he] at hw
 cases ho:ops[i]? with
 | none=>simp only [ho] at hw ⊢; exact hk _ _ hw
 | some o =>
  simp only [ho] at hw ⊢
  have hwant:Region.wanted o (yielded ops a.tmps)=Region.wanted o (yielded pre a.tmps):=by
   unfold Region.wanted
   cases hg:o.guard with
   | none=>rfl
   | some p =>
    obtain ⟨j,b⟩:=p
    have hj:=h.gd i o hi ho j b hg
    simp only [yielded]
    rw [h.at_ j hj]
  rw [hwant]
  split
  ·rename_i q
   rw [if_pos q] at hw
   rcases hw with hw | hw
   ·have:=aVS (r:=r) (n:=n) (ds:=[]) (Q':=Q) hQ (uY (h.nd i o hi ho)) hw
    rw [bQ] at this
    exact oX this λ a' w' ⟨a0,e,q⟩=>by rw [e,bQ]; exact hk _ _ q
   ·exact absurd hw.2 hQ.out
  ·rename_i q
   rw [if_neg q] at hw
   exact ⟨λ _ _=>trivial,hk _ _ hw⟩
theorem aCI {D:Nat->Bool}:∀ {K:Nat},(∃ i,i < K∧D i=false)->∃ i,i < K∧D i=false∧∀ j,j < i->D j=true
 | 0,⟨i,h,_⟩=>by omega
 | K+1,⟨i,h,hd⟩=>by
  by_cases q:∃ i,i < K∧D i=false
  ·obtain ⟨i,h1,h2,h3⟩:=aCI q
   exact ⟨i,by omega,h2,h3⟩
  ·refine ⟨i,h,hd,λ j hj=>?_⟩
   cases e:D j with
   | true=>rfl
   | false=>exact absurd ⟨j,by omega,e⟩ q
theorem aPm (h:PreOK ops pre K) {Qp:Exit->Act->World->Prop} (hQ:oE Qp) (hl:∀ a w,Qp .normal a w->wpListIn (Fr r) n P ops Q (ops.toList.drop K) a w) :
  ∀ (f:Nat) (lp li:Array Bool) (a:Act) (w:World),lp.size=K->li.size=ops.size->(∀ i,i < K->lp[i]?=li[i]?)->(∀ i,K≤i->i < ops.size->li.getD i true=false)->tO ops (λ i=>li.getD i false) ->
   wpAny P .any pre Qp f lp a w->wpAnyIn (Fr r) n P .any ops Q (f+(ops.size - K)) li a w:=by
 have hK:=h.le
 have eqD:∀ (lp li:Array Bool) (i:Nat) (d:Bool),lp[i]?=li[i]?->lp.getD i d=li.getD i d:=λ lp li i d e=>by
  simp only [Array.getD_eq_getD_getElem?,e]
 have tr:∀ (lp li:Array Bool),(∀ i,i < K->lp[i]?=li[i]?)->∀ i,i < K->(i ∈ Region.ready .any pre lp↔i ∈ Region.ready .any ops li):=λ lp li he i hi=>by
  rw [mem_ready,mem_ready,eqD lp li i true (he i hi),h.at_ i hi]
  refine and_congr_right λ _=>exists_congr λ o=>and_congr_right λ ho=>?_
  refine forall_congr' λ e=>forall_congr' λ hm=>forall_congr' λ hb=>?_
  have:=h.back i o ho e hm hb
  rw [eqD lp li e.on false (he _ (by omega))]
 have stuck:∀ (lp li:Array Bool),lp.size=K->(∀ i,i < K->lp[i]?=li[i]?)->(∀ i,i < K->li.getD i false=true)->Region.ready .any pre lp=[]:=λ lp li hs he hall=>by
  apply List.eq_nil_iff_forall_not_mem.2
  intro i hi
  obtain ⟨q0,o,ho,_⟩:=mem_ready.1 hi
  have hlt:i < K:=by have:=(aM.1 ho).1; rw [h.sz] at this; exact this
  have q1:=hall i hlt
  rw [eqD lp li i true (he i hlt)] at q0
  simp only [Array.getD_eq_getD_getElem?] at q0 q1
  cases e:li[i]? with
  | none=>rw [e] at q1; cases q1
  | some b=>rw [e] at q0 q1; simp at q0 q1; rw [q1] at q0; cases q0
 have first:∀ (li:Array Bool),li.size=ops.size->(¬ ∀ i,i < K->li.getD i false=true)->∃ i,i < K∧li.getD i false=false∧i ∈ Region.ready .any ops li:=λ li hs hn=>by
  obtain ⟨i,h1,h2,h3⟩:=aCI (K:=K) (D:=λ i=>li.getD i false) (by
   refine Classical.byContradiction λ q=>hn λ i hi=>?_
   cases e:li.getD i false with
   | true=>rfl
   | false=>exact absurd ⟨i,hi,e⟩ q)
  refine ⟨i,h1,h2,mem_ready.2 ⟨?_,ops[i]'(by omega),Array.getElem?_eq_getElem _,λ e he hb=>h3 _ (h.back i _ (Array.getElem?_eq_getElem _) e he hb)⟩⟩
  have hlt:i < li.size:=by omega
  simp only [Array.getD_eq_getD_getElem?,Array.getElem?_eq_getElem hlt,Option.getD_some] at h2 ⊢
  exact h2
 intro f
 induction f with
 | zero =>
  intro lp li a w hlp hli he hlate hcl hw
  by_cases hall:∀ i,i < K->li.getD i false=true
  ·exact xA h (ops.size - K) _ K li a w (by omega) (Nat.le_refl _) (by omega) hall hlate (hl a w hw.2)
  ·obtain ⟨i,h1,h2,h3⟩:=first li hli hall
   have:=(tr lp li he i h1).2 h3
   rw [hw.1] at this; cases this
 | succ f ih =>
  intro lp li a w hlp hli he hlate hcl hw
  by_cases hall:∀ i,i < K->li.getD i false=true
  ·exact xA h (ops.size - K) _ K li a w (by omega) (Nat.le_refl _) (by omega) hall hlate (hl a w (hw.1 (stuck lp li hlp he hall)))
  ·obtain ⟨i0,h1,h2,h3⟩:=first li hli hall
   rw [show f+1+(ops.size - K)=(f+(ops.size - K))+1 by omega]
   refine ⟨λ e=>(by rw [e] at h3; cases h3),λ i hi=>?_⟩
   have hi':=hi
   obtain ⟨q0,o,ho,hdep⟩:=mem_ready.1 hi'
   have his:=(aM.1 ho).1
   have hcl':tO ops (λ j=>(li.setIfInBounds i true).getD j false):=by
    intro j o' hj hd e hm hb
    simp only at hd ⊢
    by_cases q:i=j
    ·subst q
     rw [ho] at hj
     injection hj with hj
     subst hj
     exact getD_set_true (hdep e hm hb)
    ·rw [getD_set_ne false q] at hd
     exact getD_set_true (hcl j o' hj hd e hm hb)
   have hiK:i < K:=by
    rcases Nat.lt_trichotomy i K with q | q | q
    ·exact q
    ·subst q
     exfalso
     have:=xB hcl' ops.toList [] (λ j=>by simp) (λ p q hp hq=>by simp at hq) i i0 (by simp [hli,his]) (h.all i0 h1)
     rw [getD_set_ne false (by omega),h2] at this
     cases this
    ·exfalso
     obtain ⟨e,hm,hb,hon⟩:=h.nxt i o q ho
     have q1:=hdep e hm hb
     have q2:=hlate e.on (by omega) (by omega)
     simp only [Array.getD_eq_getD_getElem?] at q1 q2
     cases e':li[e.on]? with
     | none=>rw [e'] at q1; cases q1
     | some b=>rw [e'] at q1 q2; simp at q1 q2; rw [q1] at q2; cases q2
   refine aL1 h hQ hiK (λ a w q=>ih (lp.setIfInBounds i true) (li.setIfInBounds i true) a w (by simp [hlp]) (by simp [hli]) (λ j hj=>?_) (λ j h4 h5=>?_) hcl' q) (hw.2 i ((tr lp li he i hiK).2 hi))
   ·rw [Array.getElem?_setIfInBounds,Array.getElem?_setIfInBounds,he j hj,hlp,hli]
    by_cases q:i=j
    ·subst q; simp [hiK,his]
    ·simp [q]
   ·rw [getD_set_ne true (by omega)]; exact hlate j h4 h5
theorem aJo (hM:P.follows .mixedOrders=true) {id:Nat} (hb:aUL ops K=true) {Qp:Exit->Act->World->Prop} (hQ:oE Qp) {a:Act} {w:World} (hw:wpAny P .any (aJ1 ops K) Qp (aJ1 ops K).size (Array.replicate (aJ1 ops K).size false) a { w with drawn:=w.drawn+1 })
  (hl:∀ a w,Qp .normal a w->wpListIn (Fr r) n P ops Q (ops.toList.drop K) a w):(Code.region id ops true).wpIn (Fr r) n P Q a w:=by
 have h:=aJ0 hb
 have hK:=h.le
 refine wpIn_region_any hM ?_
 have:=aPm (r:=r) (n:=n) h hQ hl (aJ1 ops K).size (Array.replicate (aJ1 ops K).size false) (Array.replicate ops.size false) a { w with drawn:=w.drawn+1 } (by simp [h.sz]) (by simp) (λ i hi=>by
  rw [Array.getElem?_replicate,Array.getElem?_replicate,h.sz]
  simp [hi,Nat.lt_trans hi hK]) (λ i h1 h2=>by
  simp [Array.getD_eq_getD_getElem?,Array.getElem?_replicate,h2]) (λ j o hj hd=>by
  simp only [Array.getD_eq_getD_getElem?,Array.getElem?_replicate] at hd
  split at hd <;> simp at hd) hw
 rwa [h.sz,show K+(ops.size - K)=ops.size by omega] at this
end
def IN (m:Nm) (H:List (Nat × Blk)):Nat->Prop:=λ g=>∃ k b u,lk H k=some b∧m k=some u∧bk u=some g
def aXb (m:Nm) (H:List (Nat × Blk)):Prop:=∀ k k' b b' u u' g,lk H k=some b->lk H k'=some b'->k≠k'->m k=some u->m k'=some u'->bk u=some g->bk u'≠some g
structure ItW (gf c1 c2:Nat) (Hx:List (Nat × Blk)) (kn:Nat) (cn:List AV) (N:Nat) (x0:Nat->AV):Prop where
 lt:Nat.blt gf fnB=true
 en:∀ args w,(callFunc gf args).run Tryz.prog w=.ok (.enter gf args) w
 it:∀ (m:Nm) (g1 g2:Nat),m c1=some (.pointer (some ⟨g1,0,none⟩))->m c2=some (.pointer (some ⟨g2,0,none⟩))->aXb m Hx->aUs Tryz.prog gf #[.pointer (some ⟨g1,0,none⟩),.pointer (some ⟨g2,0,none⟩)] (IN m Hx) x0 N (aAa m Hx) (aAa m [(kn,.cells cn)])
structure RLW where
 gf:Nat
 c1:Nat
 c2:Nat
 N:Nat
 x0:Nat->AV
 T:List (Nat × AV)
 Hx:List (Nat × Blk)
 kn:Nat
 cn:List AV
 H:Nat->List (Nat × Blk)
 kp:List Nat
def aT9:List (Nat × Blk)->Bool
 | []=>true
 | (_,.cells _)::l=>aT9 l
 | _=>false
theorem xD:∀ {l:List (Nat × Blk)} {k:Nat} {b:Blk},aT9 l=true->lk l k=some b->∃ cs,b=.cells cs
 | [],k,b,_,e=>by simp [lk] at e
 | (j,c)::l,k,b,h,e=>by
  cases c with
  | cells cs =>
   rw [bX] at e
   split at e
   ·simp only [aJ] at e; exact ⟨cs,e.symm⟩
   ·exact xD (by simpa only [aT9] using h) e
  | _=>simp [aT9] at h
def aUW (Hx:List (Nat × Blk)):List (Nat × Blk)->Bool
 | []=>true
 | (k,_)::l=>!(hasH k Hx)&&aUW Hx l
theorem aC8 {Hx:List (Nat × Blk)}:∀ {l:List (Nat × Blk)} {k:Nat} {b:Blk},aUW Hx l=true->lk l k=some b->lk Hx k=none
 | [],k,b,_,e=>by simp [lk] at e
 | (j,c)::l,k,b,h,e=>by
  simp only [aUW,aC,Bool.not_eq_true'] at h
  rw [bX] at e
  split at e
  ·rename_i q; subst q; exact vR h.1
  ·exact aC8 h.2 e
def aFN:List AV->Bool
 | []=>true
 | .int _ _::l=>aFN l
 | _=>false
theorem uX {S:Pin} {m m':Nm}:∀ {cs:List AV} {vs:List Value},aFN cs=true->CVl S cs m vs->CVl S cs m' vs
 | [],vs,_,h=>by simp only [CVl] at h ⊢; exact h
 | x::l,vs,hn,h=>by
  cases x with
  | int k v =>
   simp only [CVl] at h ⊢
   obtain ⟨u,us,e,h1,h2⟩:=h
   exact ⟨u,us,e,by simp only [CV] at h1 ⊢; exact h1,uX (by simpa only [aFN] using hn) h2⟩
  | _=>simp [aFN] at hn
def aVI (P:Program) (E:Env) (C:Cx) (inv:Nat->St->Option LInv) (fuel:Nat) (g:Operand) (ps:List Nat) (assign body:Code) (st:St) (L:RLW) (kn:Prop):Prop:=match g,ps with
 | .tmp tg,[p0]=>cond (Nat.blt p0 C.nt&&bT assign&&bT body&&!(hasT tg L.T)&&aT9 L.Hx&&hasH L.kn L.Hx&&aUW L.Hx (L.H 0)&&!(hasH L.kn (L.H L.N))&&aFN L.cn&&inL L.kn L.kp)
   (ItW L.gf L.c1 L.c2 L.Hx L.kn L.cn L.N L.x0∧leS st ⟨(tg,.fn L.gf [.ptr L.c1 0,.ptr L.c2 0])::L.T,L.Hx++L.H 0⟩∧kpT L.kp L.T∧(∀ k,k≤L.N->lM (L.H k)=true) ∧
    (∀ k,k < L.N->cC P E { C with kp:=L.kp } inv fuel assign (St.put ⟨L.T,L.H k⟩ p0 (L.x0 k)) (λ st1=>cond (lM st1.heap) (cC P E { C with kp:=L.kp } inv fuel body st1 (λ st2=>leS st2 ⟨[],L.H (k+1)⟩) (λ _ _=>False) (λ _=>False)) False) (λ _ _=>False) (λ _=>False))∧kn) False
 | _,_=>False
def acW (P:Program) (E:Env) (C:Cx) (inv:Nat->St->Option LInv) (fuel:Nat) (rl:St->Option RLW):Code->Bool->St->(Bool->St->Prop)->(Bool->St->Prop)->Prop
 | .seq a b,d,st,kn,kr=>acW P E C inv fuel rl a d st (λ d' st'=>acW P E C inv fuel rl b d' st' kn kr) kr
 | .block id (.rangeFunc g ps assign body),d,st,kn,kr=>(match d,rl st with
  | false,some L=>aVI P E C inv fuel g ps.toList assign body st L (kn true ⟨L.T,(L.kn,.cells L.cn)::L.H L.N⟩)
  | _,_=>False)
 | c,d,st,kn,kr=>cond d (cond (bT c) (cond (lM st.heap) (cC P E C inv fuel c st (kn true) (λ _ _=>False) (kr true)) False) False) (cC P E C inv fuel c st (kn false) (λ _ _=>False) (kr false))
theorem aCS {t:Nat}:∀ {T:List (Nat × Blk)},hasH t T=true->∃ b,lk T t=some b
 | [],h=>by simp [hasH] at h
 | (j,y)::l,h=>by
  rw [bX]
  simp only [hasH,Bool.or_eq_true] at h
  by_cases q:t=j
  ·exact ⟨y,if_pos q⟩
  ·rw [if_neg q]
   rcases h with h | h
   ·exact absurd (aA h).symm q
   ·exact aCS h
theorem aVH {E:Env} {C:Cx} {inv:Nat->St->Option LInv} {fuel:Nat} (hT:TyOK Tryz.prog C.tys) (hS:cF Tryz.prog E) (hGE:E.glob=glb) {G:Gh} (hG:GOKg glb G.S0) {n:Nat} {id:Nat} {g:Operand} {ps:Array Tmp} {assign body:Code} {st:St} {L:RLW} {kn kr:Bool->St->Prop}
  (h:aVI Tryz.prog E C inv fuel g ps.toList assign body st L (kn true ⟨L.T,(L.kn,.cells L.cn)::L.H L.N⟩)) {a:Act} {w:World} {S:Pin} {m:Nm} (hR:Rel G [] st a w S m) (hn:a.tmps.size=C.nt):(Code.block id (.rangeFunc g ps assign body)).wpIn Fence.wide n Tryz.prog (aUu G C kn kr) a w:=by
 unfold aVI at h
 split at h
 ·rename_i tg p0 hps
  obtain rfl:ps=#[p0]:=Array.toList_inj.1 hps
  obtain ⟨hb,hq,hle,hkT,hok,hbody,hkn⟩:=aW h
  simp only [aC,Bool.not_eq_true'] at hb
  obtain ⟨⟨⟨⟨⟨⟨⟨⟨⟨b0,b1⟩,b2⟩,b3⟩,b4⟩,b5⟩,b6⟩,b7⟩,b8⟩,b9⟩:=hb
  have hgS:GOKg glb S:=λ g cs e=>CC.mono hR.pin0 cs g 0 (hG g cs e)
  have hR1:=hR.le hle
  have hfv:=hR1.tmps tg
  have e1:St.get ⟨(tg,.fn L.gf [.ptr L.c1 0,.ptr L.c2 0])::L.T,L.Hx++L.H 0⟩ tg=.fn L.gf [.ptr L.c1 0,.ptr L.c2 0]:=by
   unfold St.get; simp only; rw [bX,if_pos rfl]
  rw [e1] at hfv
  simp only [CV,CVl] at hfv
  obtain ⟨us,hfv,v1,vs1,hus,⟨g1,hg1,rfl⟩,v2,vs2,rfl,⟨g2,hg2,rfl⟩,rfl⟩:=hfv
  obtain rfl:us=#[.pointer (some ⟨g1,0,none⟩),.pointer (some ⟨g2,0,none⟩)]:=Array.toList_inj.1 hus
  rw [qJ hq.lt] at hfv
  have hR3:Rel G [] ⟨L.T,L.Hx++L.H 0⟩ a w S m:={ hR1 with
   defers:=hR1.defers
   held:=hR1.held
   inj:=hR1.inj
   own:=hR1.own
   tmps:=λ t=>by
    have:=hR1.tmps t
    unfold St.get at this ⊢
    simp only at this ⊢
    rw [bX] at this
    by_cases q:t=tg
    ·subst q
     rw [aBh b3]; simp only [CV]
    ·rw [if_neg q] at this; exact this }
  have x1:∀ k b,lk L.Hx k=some b->lk (L.Hx++L.H 0) k=some b:=λ k b e=>by rw [fE,e]
  have x2:∀ k b,lk (L.H 0) k=some b->lk L.Hx k=none∧lk (L.Hx++L.H 0) k=some b:=λ k b e=>by
   have:=aC8 b6 e
   exact ⟨this,by rw [fE,this]; exact e⟩
  have hinj:aXb m L.Hx:=λ k k' b b' u u' g q1 q2 q3 q4 q5 q6=>hR3.inj k k' b b' u u' g (x1 k b q1) (x1 k' b' q2) q3 q4 q5 q6
  obtain ⟨bn,hbn⟩:=aCS b5
  obtain ⟨cs0,hcs0⟩:=xD b4 hbn
  subst hcs0
  obtain ⟨gn,arr0,t0,hgn,_,_,_⟩:=hR3.held L.kn _ (x1 _ _ hbn)
  refine wpIn_block (aQ6 (C:={ C with kp:=L.kp }) hT hS (by kernel_rfl) (kp:=[]) (kp1:=L.kp) rfl (λ k hk=>by cases hk) (λ S h=>by unfold GOK; rw [hGE]; exact h) hgS hR3 hn x1 x2 (λ k b e=>xD b4 e)
   (Hy:=[(L.kn,.cells L.cn)]) (λ k b e=>by
    rw [bX] at e
    split at e
    ·rename_i q; subst q; exact ⟨_,hbn⟩
    ·simp [lk] at e) (I:=IN m L.Hx) (λ g=>Iff.rfl) (gf:=L.gf) (lb:=#[.pointer (some ⟨g1,0,none⟩),.pointer (some ⟨g2,0,none⟩)]) (by
   show a.tmps.getD tg undef=_
   exact hfv) hq.en (hq.it m g1 g2 hg1 hg2 hinj) (aK b0) (aA9 hkT) b1 b2 hok hbody ?_)
  intro W S' m' h1 h2 h3 h4 h5 h6
  have hh:=h3 L.kn (.cells L.cn) (by rw [bX,if_pos rfl])
  obtain ⟨g',arr,t,q1,q2,q3,q4⟩:=hh
  rw [hgn] at q1
  injection q1 with q1
  injection q1 with q1
  injection q1 with q1
  injection q1 with q1 _ _
  subst q1
  have hm':m' L.kn=some (.pointer (some ⟨gn,0,none⟩)):=by
   obtain ⟨u',e',hgo⟩:=h5 L.kn _ b9 hgn
   rcases hgo with rfl | ⟨A,n',c,A',n'',c',_,⟨e,_⟩ | ⟨e,_⟩⟩
   ·exact e'
   ·cases e
   ·cases e
  have hI:IN m L.Hx gn:=⟨L.kn,_,_,hbn,hgn,rfl⟩
  refine ⟨true,_,a,_,S',m',rfl,⟨_,rfl,h6,hR.size⟩,hkn,?_,hn⟩
  refine h1.addC ⟨gn,arr,t,hm',q2,uX b8 q3,q4⟩ (vR b7) (λ u g e1 e2=>?_) (λ k' b u g u' r1 r2 r3 r4 r5=>?_)
  ·rw [hm'] at e1
   injection e1 with e1
   subst e1
   exact hR3.own L.kn _ _ g (x1 _ _ hbn) hgn e2
  ·rw [hm'] at r4
   injection r4 with r4
   subst r4
   simp only [bk,aJ] at r5
   subst r5
   exact h4 k' b u gn r1 r2 r3 hI
 ·exact h.elim
theorem aID {E:Env} {C:Cx} {inv:Nat->St->Option LInv} {fuel:Nat} {rl:St->Option RLW} (hT:TyOK Tryz.prog C.tys) (hS:cF Tryz.prog E) (hC:C.kp=[]) (hGE:E.glob=glb) {G:Gh} (hG:GOKg glb G.S0) {n:Nat} :
  ∀ (c:Code) (d:Bool) (st:St) (kn kr:Bool->St->Prop),acW Tryz.prog E C inv fuel rl c d st kn kr->∀ (a:Act) (w:World) (S:Pin) (m:Nm) (ds:List Deferred),aLT G d ds w->Rel G [] st a w S m->a.tmps.size=C.nt->c.wpIn Fence.wide n Tryz.prog (aUu G C kn kr) (dP ds a) w:=by
 intro c
 induction c with
 | seq x y ihx ihy =>
  intro d st kn kr h a w S m ds hD hR hn
  unfold acW at h
  refine wpIn_seq (Go.wpIn_mono (ihx d st _ kr h a w S m ds hD hR hn) ?_)
  intro e a' w' he
  cases e with
  | normal =>
   obtain ⟨d',ds',a0,st',S',m',rfl,hD',hk,hR',hn'⟩:=he
   exact ihy d' st' kn kr hk a0 w' S' m' ds' hD' hR' hn'
  | ret=>exact he
  | _=>exact he.elim
 | block id b ih =>
  intro d st kn kr h a w S m ds hD hR hn
  by_cases hb:∃ g ps x y,b=.rangeFunc g ps x y
  ·obtain ⟨g,ps,x,y,rfl⟩:=hb
   unfold acW at h
   split at h
   ·rename_i L hL
    have hds:ds=[]:=hD
    subst hds
    rw [bQ]
    exact aVH hT hS hGE hG h hR hn
   ·exact h.elim
  ·refine aCJ (inv:=inv) (fuel:=fuel) hT hS hC hGE hG ?_ hD hR hn
   cases b with
   | rangeFunc g ps x y=>exact absurd ⟨g,ps,x,y,rfl⟩ hb
   | _=>exact h
 | _ =>
  intro d st kn kr h a w S m ds hD hR hn
  exact aCJ (inv:=inv) (fuel:=fuel) hT hS hC hGE hG h hD hR hn
@[irreducible] def fnW (P:Program) (E:Env) (C:Cx) (inv:Nat->St->Option LInv) (fuel:Nat) (rl:St->Option RLW) (fn:Func) (xs:List AV) (r:AV):Prop :=
 match fn.body with
 | some c=>cond (Nat.beq C.nt fn.ntmps&&Nat.ble xs.length fn.ntmps) (acW P E C inv fuel rl c false ⟨lB xs 0,[]⟩ (aPL P E C fn r) (aPL P E C fn r)) False
 | none=>False
theorem aHe {E:Env} {C:Cx} {inv:Nat->St->Option LInv} {fuel:Nat} {rl:St->Option RLW} (hT:TyOK Tryz.prog C.tys) (hS:cF Tryz.prog E) (hGE:E.glob=glb) {f:FuncId} {fn:Func} (hf:Tryz.prog.funcs[f]?=some fn) (hkp:C.kp=[]) {xs:List AV} {r:AV}
    (h:fnW Tryz.prog E C inv fuel rl fn xs r):PureC Tryz.prog glb f xs r:=by
  intro w S vs hG hA hv
  unfold fnW at h
  split at h
  · rename_i c hc
    obtain ⟨hb,h⟩:=aW h
    simp only [aC] at hb
    have hnt:=aA hb.1
    have hle:=aK hb.2
    have hlen:=hv.len
    simp only [Array.length_toList] at hlen
    obtain ⟨G,hGd⟩:∃ G:Gh,G=⟨w,S,dE,λ _=>False⟩:=⟨_,rfl⟩
    have hR0:Rel G [] ⟨lB xs 0,[]⟩ { tmps:=vs++Array.replicate (fn.ntmps - vs.size) undef,defers:=[] } w S dE:=by
      subst hGd
      exact
      { defers:=rfl
        pin0:=Ext.refl S
        pinNew:=λ _ _ _ _=>rfl
        agree:=hA
        tmps:=λ t=>by
          unfold St.get
          rw [jM]
          simp only [Nat.zero_le,if_true,Nat.sub_zero]
          cases e:xs[t]? with
          | none=>simp only [CV]
          | some x =>
            obtain ⟨v,hv1,hv2⟩:=hv.get e
            have hlt:t < vs.size:=by have:=(aF.1 hv1).1; simpa using this
            have:vs[t]?=some v:=by simpa using hv1
            simp only [Array.getD_eq_getD_getElem?,Array.getElem?_append_left hlt,this,Option.getD_some]
            exact hv2
        held:=λ k b hk=>by simp [lk] at hk
        inj:=λ k k' b b' u u' g hk=>by simp [lk] at hk
        own:=λ k b u g hk=>by simp [lk] at hk
        os:=rfl
        tape:=rfl
        output:=rfl
        size:=Nat.le_refl _
        frame:=λ _ _ _=>rfl
        m0:=MLe.refl _
        keep:=λ k u e=>by cases e }
    have hGS:GOKg glb G.S0:=by rw [hGd]; exact hG
    have hrun:=aID (n:=3) hT hS hkp hGE hGS c false _ _ _ h _ w S dE [] rfl hR0 (by simp; omega)
    rw [bQ] at hrun
    refine callsIn_wide.1 (callsIn_of_wp_marks (n:=3) hf hc trivial (Go.wpIn_mono hrun ?_))
    have fin:∀ st a w' S0 m0,aJH Tryz.prog E C st fn.results.toList (λ x=>bL x λ y=>le y r)->Rel G [] st a w' S0 m0->∃ v,(results fn a.tmps).run Tryz.prog w'=.ok v w' ∧
          ∃ u S',Ending.returned v=.returned u∧Below w.heap.size w w'∧Ext S S'∧(∀ b o,b < w.heap.size->S' b o=S b o)∧dX S' w'∧CV S' r dE u:=by
      intro st0 a w' S0 m0 hk0 hR0
      unfold aJH at hk0
      rw [hkp] at hk0
      obtain ⟨st,S',m,hk,hR⟩:=cD _ _ S0 m0 _ hk0 hR0
      obtain ⟨x,v,h1,h2,h3⟩:=gI (C:=C) (by rw [hkp]; exact hR) hk
      obtain ⟨y,h4,h5⟩:=eY _ _ h1
      subst hGd
      exact ⟨v,h3,v,S',rfl,⟨hR.os,hR.tape,hR.output,hR.size,λ b hb=>hR.frame b hb (λ q=>q)⟩,hR.pin0,λ b o hb=>hR.pinNew b o hb (λ q=>q),hR.agree,fP _ _ _ _ h4 (h5 S' m v h2)⟩
    have key:∀ a' w',(∃ d ds a0 st S m,a'=dP ds a0∧aLT G d ds w'∧aPL Tryz.prog E C fn r d st∧Rel G [] st a0 w' S m∧a0.tmps.size=C.nt)->LeavesInM Fence.wide 3 Tryz.prog fn a'.tmps (λ e w'=>∃ u S',e=.returned u∧Below w.heap.size w w'∧Ext S S'∧(∀ b o,b < w.heap.size->S' b o=S b o)∧dX S' w'∧CV S' r dE u) a'.defers .returning w':=by
      rintro a' w' ⟨d,ds,a0,st,S1,m1,rfl,hD,hk,hR,hn⟩
      have hd0:=hR.defers
      show LeavesInM Fence.wide 3 Tryz.prog fn a0.tmps _ (a0.defers++ds) .returning w'
      rw [hd0,List.nil_append]
      cases d with
      | false =>
        obtain rfl:ds=[]:=hD
        exact fin st a0 w' S1 m1 hk hR
      | true =>
        obtain ⟨D,rfl,hd,hDs⟩:=(show ∃ D,_ from hD)
        obtain ⟨hok,hk⟩:=aW (show cond (lM st.heap) _ False from hk)
        refine ⟨by simp,.inl ⟨_,_,rfl,run_takeDeferred hd,?_⟩⟩
        exact fin st a0 _ S1 m1 hk (hR.obj hd rfl hDs (hR.notObj hok hd rfl))
    intro e a' w' he
    cases e with
    | normal=>exact key a' w' he
    | ret=>exact key a' w' he
    | _=>exact he.elim
  · exact h.elim
end Go.Proofs.YtgbbmadjdaphnaaGreatDoor
