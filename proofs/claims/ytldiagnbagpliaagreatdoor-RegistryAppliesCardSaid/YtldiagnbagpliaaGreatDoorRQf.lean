import Derived.Test.YtldiagnbagpliaaGreatDoorRQe
import Derived.Shelf.RegionOpenPlain
import Derived.Lib.JoinLaws
import Derived.Lib.Overlaps
import Derived.Lib.AppendZerosOnto
import Derived.Laws.IdiomCopy
import Derived.Laws.NewBlocks
import Derived.Shelf.Spec.SlicesInsert
set_option maxRecDepth 100000
namespace Go.Proofs.YtldiagnbagpliaaGreatDoor
open Go
set_option linter.unusedVariables false
set_option linter.unusedSimpArgs false
def fpI (q:List AV→Int) (l:LLR):Nat:=l.findIdx fun r=>decide (0≤q r)
def fpB (q:List AV→Int) (l:LLR):Bool:=decide (fpI q l < l.length)&&decide (q (l.getD (fpI q l) [])=0)
structure MonQ (q:List AV→Int) (l:LLR):Prop where
 fm:∀ i j:Nat,i < j→j < l.length→q (l.getD j []) < 0→q (l.getD i []) < 0
theorem fp_le (q:List AV→Int) (l:LLR):fpI q l≤l.length:=List.findIdx_le_length
theorem fp_uniq {q:List AV→Int} {l:LLR} {i:Nat} (hi:i≤l.length) (h1:∀ j,j < i→q (l.getD j []) < 0) (h2:i < l.length→0≤q (l.getD i [])):fpI q l=i:=by
 unfold fpI
 by_cases hl:i < l.length
 ·refine (List.findIdx_eq hl).2 ⟨by have:=h2 hl; rw [gD_lt hl] at this; exact decide_eq_true this,fun j hj=>?_⟩
  have:=h1 j hj
  rw [gD_lt (by omega)] at this
  exact decide_eq_false (by omega)
 ·have e:i=l.length:=by omega
  rw [e,List.findIdx_eq_length]
  intro x hx
  obtain ⟨j,hj,rfl⟩:=List.mem_iff_getElem.1 hx
  have:=h1 j (by omega)
  rw [gD_lt hj] at this
  exact decide_eq_false (by omega)
structure BsG (q:List AV→Int) (l:LLR) (p:Int × Int):Prop where
 flo:0≤p.1
 fij:p.1≤p.2
 fhi:p.2≤l.length
 fl:∀ k:Nat,(k:Int) < p.1→q (l.getD k []) < 0
 fr:∀ k:Nat,p.2≤k→k < l.length→0≤q (l.getD k [])
theorem bsG_l {q:List AV→Int} {l:LLR} {i j M:Int} (hm:MonQ q l) (h:BsG q l (i,j)) (m1:i≤M∧M < j) (hq:q (l.getD M.toNat []) < 0):BsG q l (M+1,j):=by
 obtain ⟨i0,ij,j1,hlo,hhi⟩:=h
 simp only at i0 ij j1 hlo hhi
 refine ⟨by simp only; omega,by simp only; omega,j1,fun w hw=>?_,hhi⟩
 simp only at hw
 rcases Nat.lt_or_ge w M.toNat with z | z
 ·exact hm.fm w M.toNat z (by omega) hq
 ·rw [show w=M.toNat by omega]; exact hq
theorem bsG_r {q:List AV→Int} {l:LLR} {i j M:Int} (hm:MonQ q l) (h:BsG q l (i,j)) (m1:i≤M∧M < j) (hq:¬ q (l.getD M.toNat []) < 0):BsG q l (i,M):=by
 obtain ⟨i0,ij,j1,hlo,hhi⟩:=h
 simp only at i0 ij j1 hlo hhi
 refine ⟨i0,by simp only; omega,by simp only; omega,hlo,fun w hw hw2=>?_⟩
 simp only at hw
 rcases Nat.eq_or_lt_of_le (show M.toNat≤w by omega) with z | z
 ·rw [← z]; omega
 ·apply Int.not_lt.1
  intro z2
  exact hq (hm.fm M.toNat w z hw2 z2)
theorem bsG_end {q:List AV→Int} {l:LLR} {i:Int} (h:BsG q l (i,i)):i=(fpI q l:Nat):=by
 obtain ⟨i0,ij,j1,hlo,hhi⟩:=h
 simp only at i0 ij j1 hlo hhi
 have:=fp_uniq (q:=q) (l:=l) (i:=i.toNat) (by omega) (fun w hw=>hlo w (by omega)) (fun hw=>hhi _ (by omega) hw)
 omega
def qS (nm:ByteArray) (r:List AV):Int:=cmpS (sNm r) nm
def qP (t:Int) (r:List AV):Int:=cmpI (rE r) t
def stN (l:LLR) (nm:ByteArray):Nat:=fpI (qS nm) l
def stH (l:LLR) (nm:ByteArray):Bool:=fpB (qS nm) l
def pdN (ps:LLR) (t:Int):Nat:=fpI (qP t) ps
def pdH (ps:LLR) (t:Int):Bool:=fpB (qP t) ps
theorem cmpS_lt {s t:ByteArray}:cmpS s t < 0↔Op.bytesLess s.toList t.toList=true:=by
 unfold cmpS
 constructor
 ·intro h
  split at h
  ·assumption
  ·split at h <;> omega
 ·intro h
  rw [if_pos h]; decide
theorem cmpS_tr {s t u:ByteArray} (h1:cmpS s t < 0) (h2:cmpS t u < 0):cmpS s u < 0:=by
 rw [← lex_nm0] at *
 exact lexI_tr h1 h2
theorem snO_mon {l:LLR} (h:snO l=true) (nm:ByteArray):MonQ (qS nm) l:=by
 have st:∀ (d i:Nat),i+d+1 < l.length→cmpS (sNm (l.getD i [])) (sNm (l.getD (i+d+1) [])) < 0:=by
  intro d
  induction d with
  | zero =>
   intro i hi
   rcases of_decide_eq_true h (i+1) hi with q | q
   ·omega
   ·exact cmpS_lt.2 (by simpa using q)
  | succ d ih =>
   intro i hi
   have h1:=ih i (by omega)
   rcases of_decide_eq_true h (i+d+1+1) (by omega) with q | q
   ·omega
   ·simp only [Nat.add_sub_cancel] at q
    rw [show i+(d+1)+1=i+d+1+1 by omega]
    exact cmpS_tr h1 (cmpS_lt.2 q)
 refine ⟨fun i j hij hj hq=>?_⟩
 have:=st (j - i - 1) i (by omega)
 rw [show i+(j - i - 1)+1=j by omega] at this
 exact cmpS_tr this hq
theorem cmpI_lt {a b:Int}:cmpI a b < 0↔a < b:=by
 unfold cmpI
 constructor
 ·intro h
  split at h
  ·assumption
  ·split at h <;> omega
 ·intro h
  rw [if_pos h]; decide
theorem cmpI_z {a b:Int}:cmpI a b=0↔a=b:=by
 unfold cmpI
 constructor
 ·intro h
  split at h
  ·omega
  ·split at h
   ·omega
   ·omega
 ·intro h
  rw [if_neg (by omega),if_neg (by omega)]
theorem asc_mon {ps:LLR} (h:ascB ps=true) (t:Int):MonQ (qP t) ps:=by
 refine ⟨fun i j hij hj hq=>?_⟩
 have:=asc_step h (j - i - 1) i (by omega)
 rw [show i+(j - i - 1)+1=j by omega] at this
 exact cmpI_lt.2 (Int.lt_trans this (cmpI_lt.1 hq))
def sc1_s (cmpS:ByteArray→ByteArray→Int):Sp
 | [.agg [.int .i64 k,.str nm,.sl 7 false ps],.str n]=>some (True,.int .i64 (cmpS nm n))
 | _=>none
def sc1_T (cmpS:ByteArray→ByteArray→Int):Prop :=
 ∀ (gl:Glob) (k:Int) (nm n:ByteArray) (ps:List (List AV)),(IR9 k)∧nm.size.le (9223372036854775807:Nat)∧True∧True→n.size.le (9223372036854775807:Nat)→True∧cmpS nm n=cmpS nm n
theorem sc1_P:sc1_T cmpS:=by
 unfold sc1_T
 intro gl k nm n ps _ _
 exact ⟨trivial,rfl⟩
def sc1_S (cmpS:ByteArray→ByteArray→Int):Prop:=∀ (gl:Glob) (k:Int) (nm n:ByteArray) (ps:List (List AV)),fnK Tryz.prog { glob:=gl,spec:=lk [(90,(fcmpS_s cmpS))],specH:=lk [],nowf:=true } { nt:=9,drop:=drp [(1,480)] } (fun _ _=>none) 6 Tryz.f89 [.agg [.int .i64 k,.str nm,.sl 7 false ps],.str n] (.int .i64 (cmpS nm n))
theorem sc1_e (cmpS:ByteArray→ByteArray→Int):sc1_T cmpS=sc1_S cmpS:=by kernel_rfl
theorem sc1_v:sc1_S cmpS:=Eq.mp (sc1_e ..) (sc1_P)
theorem sc1_ok (gl:Glob):SOK Tryz.prog gl 89 (sc1_s cmpS):=by
 refine ⟨fok Tryz.func89 (by kernel_rfl) (by kernel_rfl),?_⟩
 intro xs pre r h hp
 unfold sc1_s at h
 split at h
 ·simp only [Option.some.injEq,Prod.mk.injEq] at h
  obtain ⟨h1,h2⟩:=h
  subst h1 h2
  exact fnK_sound tyNil (by exact specOK rfl rfl ⟨(fcmpS_ok gl),trivial⟩ trivial) (by kernel_rfl) Tryz.func89 rfl (sc1_v gl _ _ _ _)
 ·cases h
def pc1_s (cmpI:Int→Int→Int):Sp
 | [.agg [.int .i64 fr,.bool cl,.int .i64 f,.int .i64 a,.int .i64 b,.int .i64 c,.sl 2 false bs],.int .i64 n]=>some (True,.int .i64 (cmpI fr n))
 | _=>none
def pc1_T (cmpI:Int→Int→Int):Prop :=
  ∀ (gl:Glob) (fr f a b c n:Int) (cl:Bool) (bs:List (List AV)),(IR9 fr)∧True∧(IR9 f)∧(IR9 a)∧(IR9 b)∧((-9223372036854775808:Int)≤c∧c ≤
 (9223372036854775807:Int))∧True∧True→IR9 n→True∧cmpI fr n=cmpI fr n
theorem pc1_P:pc1_T cmpI:=by
 unfold pc1_T
 intro gl fr f a b c n cl bs _ _
 exact ⟨trivial,rfl⟩
def pc1_S (cmpI:Int→Int→Int):Prop:=∀ (gl:Glob) (fr f a b c n:Int) (cl:Bool) (bs:List (List AV)),fnK Tryz.prog { glob:=gl,spec:=lk [(103,(fcmpI_s cmpI))],specH:=lk [],nowf:=true } { nt:=9,drop:=drp [(1,480)] } (fun _ _=>none) 6 Tryz.f102 [.agg [.int .i64 fr,.bool cl,.int .i64 f,.int .i64 a,.int .i64 b,.int .i64 c,.sl 2 false bs],.int .i64 n] (.int .i64 (cmpI fr n))
theorem pc1_e (cmpI:Int→Int→Int):pc1_T cmpI=pc1_S cmpI:=by kernel_rfl
theorem pc1_v:pc1_S cmpI:=Eq.mp (pc1_e ..) (pc1_P)
theorem pc1_ok (gl:Glob):SOK Tryz.prog gl 102 (pc1_s cmpI):=by
 refine ⟨fok Tryz.func102 (by kernel_rfl) (by kernel_rfl),?_⟩
 intro xs pre r h hp
 unfold pc1_s at h
 split at h
 ·simp only [Option.some.injEq,Prod.mk.injEq] at h
  obtain ⟨h1,h2⟩:=h
  subst h1 h2
  exact fnK_sound tyNil (by exact specOK rfl rfl ⟨(fcmpI_ok gl),trivial⟩ trivial) (by kernel_rfl) Tryz.func102 rfl (pc1_v gl _ _ _ _ _ _ _ _)
 ·cases h
structure SrcS (l:LLR):Prop where
 fp:StsP l
 fs:snO l=true
structure SrcD (ps:LLR):Prop where
 fp:PdsP ps
 fs:ascB ps=true
def bg3 (s:Nat) (l:LLR) (f:Bool) (tgt:AV) (cf:Nat) (q:List AV→Int):LInv:=⟨Int × Int,fun p=>⟨[(0,.sl s f l),(1,tgt),(2,.fn cf []),(6,.int .i64 0),(7,.bool false),(8,.int .i64 l.length),(9,.int .i64 p.1),(10,.int .i64 p.2)],[]⟩,BsG q l,fun p=>(p.2 - p.1).toNat,none⟩
def bsS_s (cmpS:ByteArray→ByteArray→Int) (stN:LLR→ByteArray→Nat) (stH:LLR→ByteArray→Bool):Sp
 | [.sl 3 f l,.str nm,.fn 89 []]=>some (SrcS l,.tup [.int .i64 (stN l nm:Nat),.bool (stH l nm)])
 | _=>none
def bsS_T (cmpS:ByteArray→ByteArray→Int) (stN:LLR→ByteArray→Nat) (stH:LLR→ByteArray→Bool):Prop :=
  ∀ (gl:Glob) (f:Bool) (l:List (List AV)) (nm:ByteArray),SrcS l→True→nm.size.le (9223372036854775807:Nat)→True→(∃ x,BsG (qS nm) l x∧(((bif f then f=true else True)∧l=l)∧nm=nm∧True∧(0:Int)=0∧false=false∧(↑l.length:Int)=(↑l.length:Int)∧(0:Int)=x.fst∧(↑l.length:Int)=x.snd∧True)∧True)∧∀ (x:Int × Int),BsG (qS nm) l x→bif decide (x.fst < x.snd) then bif decide (rng .i64 (x.fst+x.snd)) then bif
 decide (0≤IntKind.i64.wrap (IntKind.u64.wrap (x.fst+x.snd) / (2:Int))∧IntKind.i64.wrap (IntKind.u64.wrap (x.fst+x.snd) / (2:Int)) < (↑l.length:Int)) then ∃ n s xs,List.take [AV.int .i64 n,.str s,.sl (7:Nat) false xs].length (l.getD (IntKind.i64.wrap (IntKind.u64.wrap (x.fst+x.snd) / (2:Int))).toNat [])=[AV.int .i64 n,.str s,.sl (7:Nat) false xs]∧True∧bif decide (cmpS s nm < (0:Int))
 then bif decide (rng .i64 (IntKind.i64.wrap (IntKind.u64.wrap (x.fst+x.snd) / (2:Int))+(1:Int))) then ∃ y,BsG (qS nm) l y∧(bg3 (3:Nat) l f (AV.str nm) (89:Nat) (qS nm)).m y < (bg3 (3:Nat) l f (AV.str nm) (89:Nat) (qS nm)).m x∧(((bif f then f=true else True)∧l=l)∧nm=nm∧True∧(0:Int)=0∧false=false∧(↑l.length:Int)=(↑l.length:Int)∧IntKind.i64.wrap (IntKind.u64.wrap (x.fst+x.snd) / (2:Int)) +
 (1:Int)=y.fst∧x.snd=y.snd∧True)∧True else False else ∃ y,BsG (qS nm) l y∧(bg3 (3:Nat) l f (AV.str nm) (89:Nat) (qS nm)).m y < (bg3 (3:Nat) l f (AV.str nm) (89:Nat) (qS nm)).m x∧(((bif f then f=true else True)∧l=l)∧nm=nm∧True∧(0:Int)=0∧false=false∧(↑l.length:Int)=(↑l.length:Int)∧x.fst=y.fst∧IntKind.i64.wrap (IntKind.u64.wrap (x.fst+x.snd) / (2:Int))=y.snd∧True)∧True else False else False else bif
 decide (x.fst < (↑l.length:Int)) then bif decide (0≤x.fst∧x.fst < (↑l.length:Int)) then ∃ n s xs,List.take [AV.int .i64 n,.str s,.sl (7:Nat) false xs].length (l.getD x.fst.toNat [])=[AV.int .i64 n,.str s,.sl (7:Nat) false xs]∧True∧x.fst=(↑(stN l nm):Int)∧decide (cmpS s nm=(0:Int))=stH l nm∧True else False else x.fst=(↑(stN l nm):Int)∧false=stH l nm∧True
theorem bsS_P:bsS_T cmpS stN stH:=by
 unfold bsS_T
 intro gl f l nm hp _ _ _
 have hs:=hp.fp.fs
 have bf:cond f (f=true) True:=by cases f <;> trivial
 have hm:=snO_mon hp.fs nm
 refine ⟨⟨(0,(l.length:Int)),⟨by simp,by simp,by simp,fun j hj=>by simp only at hj; omega,fun j hj hj2=>by simp only at hj; omega⟩,by (repeat' (first | exact trivial | exact rfl | assumption | apply And.intro))⟩,?_⟩
 rintro ⟨i,j⟩ hI
 have ⟨i0,ij,j1,_,_⟩:=hI
 simp only at i0 ij j1
 dsimp only
 refine csx (fun hij=>cdI (by omega) ?_) (fun hij=>?_)
 ·have e1:IntKind.u64.wrap (i+j)=i+j:=wrap_eq (by show _∧_; omega)
  have e2:IntKind.i64.wrap ((i+j) / 2)=(i+j) / 2:=wrap_eq (by show _∧_; omega)
  rw [e1,e2]
  obtain ⟨M,hM⟩:∃ M,M=(i+j) / 2:=⟨_,rfl⟩
  rw [← hM]
  have m1:i≤M∧M < j:=by omega
  refine cd1 (by omega) ?_
  obtain ⟨k,nm2,ps,hr,_⟩:=hp.fp.fr M.toNat (by omega)
  have hq:qS nm (l.getD M.toNat [])=cmpS nm2 nm:=by rw [hr]; rfl
  refine ⟨k,nm2,ps,by rw [hr]; rfl,trivial,csx (fun q=>cdI (by omega) ⟨(M+1,j),bsG_l hm hI m1 (by rw [hq]; exact q),by simp only [bg3]; omega,by (repeat' (first | exact trivial | exact rfl | assumption | apply And.intro))⟩) (fun q=>⟨(i,M),bsG_r hm hI m1 (by rw [hq]; exact q),by simp only [bg3]; omega,by (repeat' (first | exact trivial | exact rfl | assumption | apply And.intro))⟩)⟩
 ·have e:i=j:=by omega
  subst e
  have he:=bsG_end hI
  have hx:stN l nm=i.toNat:=by unfold stN; omega
  refine csx (fun hi=>cd1 (by omega) ?_) (fun hi=>⟨by unfold stN; omega,?_,trivial⟩)
  ·obtain ⟨k,nm2,ps,hr,_⟩:=hp.fp.fr i.toNat (by omega)
   refine ⟨k,nm2,ps,by rw [hr]; rfl,trivial,by unfold stN; omega,?_,trivial⟩
   unfold stH fpB
   rw [show fpI (qS nm) l=i.toNat from hx,decide_eq_true (show i.toNat < l.length by omega),hr]; rfl
  ·unfold stH fpB
   rw [show fpI (qS nm) l=i.toNat from hx,decide_eq_false (show ¬ i.toNat < l.length by omega)]; rfl
def bsS_S (cmpS:ByteArray→ByteArray→Int) (stN:LLR→ByteArray→Nat) (stH:LLR→ByteArray→Bool):Prop:=∀ (gl:Glob) (f:Bool) (l:List (List AV)) (nm:ByteArray),SrcS l→fnK Tryz.prog { glob:=gl,spec:=lk [(89,(sc1_s cmpS))],specH:=lk [],shape:=[28,44],slz:=[(28,[7]),(44,[7])],nowf:=true } { nt:=49,drop:=drp [(1,12288),(2,16384),(3,98304),(4,16515072),(5,2130706432),(6,12884901888),(7,17179869184),(8,562915593682944)] } (invs [(3,bg3 3 l f (.str nm) 89 (qS nm))]) 6 Tryz.f88 [.sl 3 f l,.str nm,.fn 89 []] (.tup [.int .i64 (stN l nm:Nat),.bool (stH l nm)])
theorem bsS_e (cmpS:ByteArray→ByteArray→Int) (stN:LLR→ByteArray→Nat) (stH:LLR→ByteArray→Bool):bsS_T cmpS stN stH=bsS_S cmpS stN stH:=by kernel_rfl
theorem bsS_v:bsS_S cmpS stN stH:=Eq.mp (bsS_e ..) (bsS_P)
theorem bsS_ok (gl:Glob):SOK Tryz.prog gl 88 (bsS_s cmpS stN stH):=by
 refine ⟨fok Tryz.func88 (by kernel_rfl) (by kernel_rfl),?_⟩
 intro xs pre r h hp
 unfold bsS_s at h
 split at h
 ·simp only [Option.some.injEq,Prod.mk.injEq] at h
  obtain ⟨h1,h2⟩:=h
  subst h1 h2
  exact fnK_sound tyNil (by exact specOK rfl rfl ⟨(sc1_ok gl),trivial⟩ trivial) (by kernel_rfl) Tryz.func88 rfl (bsS_v gl _ _ _ hp)
 ·cases h
def bsP_s (cmpI:Int→Int→Int) (pdN:LLR→Int→Nat) (pdH:LLR→Int→Bool):Sp
 | [.sl 7 f l,.int .i64 n,.fn 102 []]=>some (SrcD l,.tup [.int .i64 (pdN l n:Nat),.bool (pdH l n)])
 | _=>none
def bsP_T (cmpI:Int→Int→Int) (pdN:LLR→Int→Nat) (pdH:LLR→Int→Bool):Prop :=
  ∀ (gl:Glob) (f:Bool) (l:List (List AV)) (n:Int),SrcD l→True→IR9 n→True→(∃ x,BsG (qP n) l x∧(((bif f then f=true else True)∧l=l)∧n=n∧True∧(0:Int)=0∧false=false∧(↑l.length:Int)=(↑l.length:Int)∧(0:Int)=x.fst∧(↑l.length:Int)=x.snd∧True)∧True)∧∀ (x:Int × Int),BsG (qP n) l x→bif decide (x.fst < x.snd) then bif decide (rng .i64 (x.fst +
 x.snd)) then bif decide (0≤IntKind.i64.wrap (IntKind.u64.wrap (x.fst+x.snd) / (2:Int))∧IntKind.i64.wrap (IntKind.u64.wrap (x.fst+x.snd) / (2:Int)) < (↑l.length:Int)) then ∃ n_1 b n_2 n_3 n_4 n_5 xs,List.take [AV.int .i64 n_1,.bool b,.int .i64 n_2,.int .i64 n_3,.int .i64 n_4,.int .i64 n_5,.sl (2:Nat) false xs].length (l.getD (IntKind.i64.wrap (IntKind.u64.wrap (x.fst+x.snd) /
 (2:Int))).toNat [])=[AV.int .i64 n_1,.bool b,.int .i64 n_2,.int .i64 n_3,.int .i64 n_4,.int .i64 n_5,.sl (2:Nat) false xs]∧True∧bif decide (cmpI n_1 n < (0:Int)) then bif decide (rng .i64 (IntKind.i64.wrap (IntKind.u64.wrap (x.fst+x.snd) / (2:Int))+(1:Int))) then ∃ y,BsG (qP n) l y∧(bg3 (7:Nat) l f (AV.int .i64 n) (102:Nat) (qP n)).m y < (bg3 (7:Nat) l f (AV.int .i64 n) (102:Nat) (qP n)).m
 x∧(((bif f then f=true else True)∧l=l)∧n=n∧True∧(0:Int)=0∧false=false∧(↑l.length:Int)=(↑l.length:Int)∧IntKind.i64.wrap (IntKind.u64.wrap (x.fst+x.snd) / (2:Int))+(1:Int)=y.fst∧x.snd=y.snd∧True)∧True else False else ∃ y,BsG (qP n) l y∧(bg3 (7:Nat) l f (AV.int .i64 n) (102:Nat) (qP n)).m y < (bg3 (7:Nat) l f (AV.int .i64 n) (102:Nat) (qP n)).m x∧(((bif f then f=true else
 True)∧l=l)∧n=n∧True∧(0:Int)=0∧false=false∧(↑l.length:Int)=(↑l.length:Int)∧x.fst=y.fst∧IntKind.i64.wrap (IntKind.u64.wrap (x.fst+x.snd) / (2:Int))=y.snd∧True)∧True else False else False else bif decide (x.fst < (↑l.length:Int)) then bif decide (0≤x.fst∧x.fst < (↑l.length:Int)) then ∃ n_1 b n_2 n_3 n_4 n_5 xs,List.take [AV.int .i64 n_1,.bool b,.int .i64 n_2,.int .i64 n_3,.int .i64 n_4,.int
 .i64 n_5,.sl (2:Nat) false xs].length (l.getD x.fst.toNat [])=[AV.int .i64 n_1,.bool b,.int .i64 n_2,.int .i64 n_3,.int .i64 n_4,.int .i64 n_5,.sl (2:Nat) false xs]∧True∧x.fst=(↑(pdN l n):Int)∧decide (cmpI n_1 n=(0:Int))=pdH l n∧True else False else x.fst=(↑(pdN l n):Int)∧false=pdH l n∧True
theorem bsP_P:bsP_T cmpI pdN pdH:=by
 unfold bsP_T
 intro gl f l n hp _ _ _
 have hs:=hp.fp.fs
 have bf:cond f (f=true) True:=by cases f <;> trivial
 have hm:=asc_mon hp.fs n
 refine ⟨⟨(0,(l.length:Int)),⟨by simp,by simp,by simp,fun j hj=>by simp only at hj; omega,fun j hj hj2=>by simp only at hj; omega⟩,by (repeat' (first | exact trivial | exact rfl | assumption | apply And.intro))⟩,?_⟩
 rintro ⟨i,j⟩ hI
 have ⟨i0,ij,j1,_,_⟩:=hI
 simp only at i0 ij j1
 dsimp only
 refine csx (fun hij=>cdI (by omega) ?_) (fun hij=>?_)
 ·have e1:IntKind.u64.wrap (i+j)=i+j:=wrap_eq (by show _∧_; omega)
  have e2:IntKind.i64.wrap ((i+j) / 2)=(i+j) / 2:=wrap_eq (by show _∧_; omega)
  rw [e1,e2]
  obtain ⟨M,hM⟩:∃ M,M=(i+j) / 2:=⟨_,rfl⟩
  rw [← hM]
  have m1:i≤M∧M < j:=by omega
  refine cd1 (by omega) ?_
  obtain ⟨fr,cl,fa,a,b,c,bs,hr,_⟩:=hp.fp.fr M.toNat (by omega)
  have hq:qP n (l.getD M.toNat [])=cmpI fr n:=by rw [hr]; rfl
  refine ⟨fr,cl,fa,a,b,c,bs,by rw [hr]; rfl,trivial,csx (fun q=>cdI (by omega) ⟨(M+1,j),bsG_l hm hI m1 (by rw [hq]; exact q),by simp only [bg3]; omega,by (repeat' (first | exact trivial | exact rfl | assumption | apply And.intro))⟩) (fun q=>⟨(i,M),bsG_r hm hI m1 (by rw [hq]; exact q),by simp only [bg3]; omega,by (repeat' (first | exact trivial | exact rfl | assumption | apply And.intro))⟩)⟩
 ·have e:i=j:=by omega
  subst e
  have he:=bsG_end hI
  have hx:pdN l n=i.toNat:=by unfold pdN; omega
  refine csx (fun hi=>cd1 (by omega) ?_) (fun hi=>⟨by unfold pdN; omega,?_,trivial⟩)
  ·obtain ⟨fr,cl,fa,a,b,c,bs,hr,_⟩:=hp.fp.fr i.toNat (by omega)
   refine ⟨fr,cl,fa,a,b,c,bs,by rw [hr]; rfl,trivial,by unfold pdN; omega,?_,trivial⟩
   unfold pdH fpB
   rw [show fpI (qP n) l=i.toNat from hx,decide_eq_true (show i.toNat < l.length by omega),hr]; rfl
  ·unfold pdH fpB
   rw [show fpI (qP n) l=i.toNat from hx,decide_eq_false (show ¬ i.toNat < l.length by omega)]; rfl
def bsP_S (cmpI:Int→Int→Int) (pdN:LLR→Int→Nat) (pdH:LLR→Int→Bool):Prop:=∀ (gl:Glob) (f:Bool) (l:List (List AV)) (n:Int),SrcD l→fnK Tryz.prog { glob:=gl,spec:=lk [(102,(pc1_s cmpI))],specH:=lk [],shape:=[28,44],slz:=[(28,[2]),(44,[2])],nowf:=true } { nt:=49,drop:=drp [(1,12288),(2,16384),(3,98304),(4,16515072),(5,2130706432),(6,12884901888),(7,17179869184),(8,562915593682944)] } (invs [(3,bg3 7 l f (.int .i64 n) 102 (qP n))]) 6 Tryz.f101 [.sl 7 f l,.int .i64 n,.fn 102 []] (.tup [.int .i64 (pdN l n:Nat),.bool (pdH l n)])
theorem bsP_e (cmpI:Int→Int→Int) (pdN:LLR→Int→Nat) (pdH:LLR→Int→Bool):bsP_T cmpI pdN pdH=bsP_S cmpI pdN pdH:=by kernel_rfl
theorem bsP_v:bsP_S cmpI pdN pdH:=Eq.mp (bsP_e ..) (bsP_P)
theorem bsP_ok (gl:Glob):SOK Tryz.prog gl 101 (bsP_s cmpI pdN pdH):=by
 refine ⟨fok Tryz.func101 (by kernel_rfl) (by kernel_rfl),?_⟩
 intro xs pre r h hp
 unfold bsP_s at h
 split at h
 ·simp only [Option.some.injEq,Prod.mk.injEq] at h
  obtain ⟨h1,h2⟩:=h
  subst h1 h2
  exact fnK_sound tyNil (by exact specOK rfl rfl ⟨(pc1_ok gl),trivial⟩ trivial) (by kernel_rfl) Tryz.func101 rfl (bsP_v gl _ _ _ hp)
 ·cases h
def gstation_s (stN:LLR→ByteArray→Nat) (stH:LLR→ByteArray→Bool):Sp
 | [.agg [.sl 3 f l],.str nm]=>some (SrcS l,.tup [.int .i64 (stN l nm:Nat),.bool (stH l nm)])
 | _=>none
def gstation_T (stN:LLR→ByteArray→Nat) (stH:LLR→ByteArray→Bool) (cmpS:ByteArray→ByteArray→Int):Prop :=
 ∀ (gl:Glob) (f:Bool) (l:List (List AV)) (nm:ByteArray),SrcS l→True∧True→nm.size.le (9223372036854775807:Nat)→SrcS l∧(↑(stN l nm):Int)=(↑(stN l nm):Int)∧stH l nm=stH l nm∧True
theorem gstation_P:gstation_T stN stH cmpS:=by
 unfold gstation_T
 intro gl f l nm hp _ _
 exact ⟨hp,rfl,rfl,trivial⟩
def gstation_S (stN:LLR→ByteArray→Nat) (stH:LLR→ByteArray→Bool) (cmpS:ByteArray→ByteArray→Int):Prop:=∀ (gl:Glob) (f:Bool) (l:List (List AV)) (nm:ByteArray),SrcS l→fnK Tryz.prog { glob:=gl,spec:=lk [(88,(bsS_s cmpS stN stH))],specH:=lk [],nowf:=true } { nt:=12,drop:=drp [(1,4032)] } (fun _ _=>none) 6 Tryz.f47 [.agg [.sl 3 f l],.str nm] (.tup [.int .i64 (stN l nm:Nat),.bool (stH l nm)])
theorem gstation_e (stN:LLR→ByteArray→Nat) (stH:LLR→ByteArray→Bool) (cmpS:ByteArray→ByteArray→Int):gstation_T stN stH cmpS=gstation_S stN stH cmpS:=by kernel_rfl
theorem gstation_v:gstation_S stN stH cmpS:=Eq.mp (gstation_e ..) (gstation_P)
theorem gstation_ok (gl:Glob):SOK Tryz.prog gl 47 (gstation_s stN stH):=by
 refine ⟨fok Tryz.func47 (by kernel_rfl) (by kernel_rfl),?_⟩
 intro xs pre r h hp
 unfold gstation_s at h
 split at h
 ·simp only [Option.some.injEq,Prod.mk.injEq] at h
  obtain ⟨h1,h2⟩:=h
  subst h1 h2
  exact fnK_sound tyNil (by exact specOK rfl rfl ⟨(bsS_ok gl),trivial⟩ trivial) (by kernel_rfl) Tryz.func47 rfl (gstation_v gl _ _ _ hp)
 ·cases h
def gperiod_s (pdN:LLR→Int→Nat) (pdH:LLR→Int→Bool):Sp
 | [.agg [.int .i64 k,.str nm,.sl 7 f ps],.int .i64 n]=>some (SrcD ps,.tup [.int .i64 (pdN ps n:Nat),.bool (pdH ps n)])
 | _=>none
def gperiod_T (pdN:LLR→Int→Nat) (pdH:LLR→Int→Bool) (cmpI:Int→Int→Int):Prop :=
 ∀ (gl:Glob) (f:Bool) (k:Int) (nm:ByteArray) (ps:List (List AV)) (n:Int),SrcD ps→(IR9 k)∧nm.size.le (9223372036854775807:Nat)∧True∧True→IR9 n→SrcD ps∧(↑(pdN ps n):Int)=(↑(pdN ps n):Int)∧pdH ps n=pdH ps n∧True
theorem gperiod_P:gperiod_T pdN pdH cmpI:=by
 unfold gperiod_T
 intro gl f k nm ps n hp _ _
 exact ⟨hp,rfl,rfl,trivial⟩
def gperiod_S (pdN:LLR→Int→Nat) (pdH:LLR→Int→Bool) (cmpI:Int→Int→Int):Prop:=∀ (gl:Glob) (f:Bool) (k:Int) (nm:ByteArray) (ps:List (List AV)) (n:Int),SrcD ps→fnK Tryz.prog { glob:=gl,spec:=lk [(101,(bsP_s cmpI pdN pdH))],specH:=lk [],nowf:=true } { nt:=12,drop:=drp [(1,4032)] } (fun _ _=>none) 6 Tryz.f61 [.agg [.int .i64 k,.str nm,.sl 7 f ps],.int .i64 n] (.tup [.int .i64 (pdN ps n:Nat),.bool (pdH ps n)])
theorem gperiod_e (pdN:LLR→Int→Nat) (pdH:LLR→Int→Bool) (cmpI:Int→Int→Int):gperiod_T pdN pdH cmpI=gperiod_S pdN pdH cmpI:=by kernel_rfl
theorem gperiod_v:gperiod_S pdN pdH cmpI:=Eq.mp (gperiod_e ..) (gperiod_P)
theorem gperiod_ok (gl:Glob):SOK Tryz.prog gl 61 (gperiod_s pdN pdH):=by
 refine ⟨fok Tryz.func61 (by kernel_rfl) (by kernel_rfl),?_⟩
 intro xs pre r h hp
 unfold gperiod_s at h
 split at h
 ·simp only [Option.some.injEq,Prod.mk.injEq] at h
  obtain ⟨h1,h2⟩:=h
  subst h1 h2
  exact fnK_sound tyNil (by exact specOK rfl rfl ⟨(bsP_ok gl),trivial⟩ trivial) (by kernel_rfl) Tryz.func61 rfl (gperiod_v gl _ _ _ _ _ hp)
 ·cases h
def atK (ps:LLR) (t:Int):Int:=if pdH ps t then (pdN ps t:Int) else (pdN ps t:Int) - 1
def atB (ps:LLR) (t:Int):Bool:=decide (0≤atK ps t)
def pzR:List AV:=pdA 0 false 0 0 0 0 []
def atR (ps:LLR) (t:Int):List AV:=if atB ps t then ps.getD (atK ps t).toNat [] else pzR
def pI (i:Nat) (r:List AV):Int:=cellI ((r.drop i).take 1)
def pC (r:List AV):Bool:=match r with
 | _::.bool b::_=>b
 | _=>false
def pB (r:List AV):LLR:=match r with
 | [_,_,_,_,_,_,.sl _ _ bs]=>bs
 | _=>[]
def cloR_s:Sp
 | [.sl 2 f xs]=>some (xs.length≤1000,.sl 2 false xs)
 | _=>none
def cloR_T:Prop :=
 ∀ (gl:Glob) (f:Bool) (xs:List (List AV)),xs.length≤(1000:Nat)→True→(xs=[]→xs=[])∧bif decide ((0:Nat)=0∧(0:Nat)+xs.length≤(9223372036854775807:Nat)∧((0:Nat)+xs.length)*(16:Nat)≤(140737488355328:Nat)) then bif decide (([]++xs).length=([]++xs).length) then True∧[]++xs=xs else False else False
theorem cloR_P:cloR_T:=by
 unfold cloR_T
 intro gl f xs hl _
 exact ⟨id,cd1 ⟨rfl,by omega,by omega⟩ (cd1 rfl ⟨trivial,rfl⟩)⟩
def cloR_S:Prop:=∀ (gl:Glob) (f:Bool) (xs:List (List AV)),xs.length≤1000→fnK Tryz.prog { glob:=gl,spec:=lk [],specH:=lk [],nowf:=true,nq:=true } { nt:=8,drop:=drp [(1,8),(3,224)] } (fun _ _=>none) 6 Tryz.f59 [.sl 2 f xs] (.sl 2 false xs)
theorem cloR_e:cloR_T=cloR_S:=by kernel_rfl
theorem cloR_v:cloR_S:=Eq.mp (cloR_e ..) (cloR_P)
theorem cloR_ok (gl:Glob):SOK Tryz.prog gl 59 cloR_s:=by
 refine ⟨fok Tryz.func59 (by kernel_rfl) (by kernel_rfl),?_⟩
 intro xs pre r h hp
 unfold cloR_s at h
 split at h
 ·simp only [Option.some.injEq,Prod.mk.injEq] at h
  obtain ⟨h1,h2⟩:=h
  subst h1 h2
  exact fnK_sound tyNil (by exact specOK rfl rfl trivial trivial) (by kernel_rfl) Tryz.func59 rfl (cloR_v gl _ _ hp)
 ·cases h
def gat_s (pdN:LLR→Int→Nat) (pdH:LLR→Int→Bool) (pI:Nat→List AV→Int) (pC:List AV→Bool) (pB:List AV→LLR) (atR:LLR→Int→List AV) (atB:LLR→Int→Bool):Sp
 | [.agg [.int .i64 k,.str nm,.sl 7 f ps],.int .i64 t]=>some (SrcD ps,.tup [.agg [.int .i64 (pI 0 (atR ps t)),.bool (pC (atR ps t)),.int .i64 (pI 2 (atR ps t)),.int .i64 (pI 3 (atR ps t)),.int .i64 (pI 4 (atR ps t)),.int .i64 (pI 5 (atR ps t)),.sl 2 false (pB (atR ps t))],.bool (atB ps t)])
 | _=>none
def gat_T (pdN:LLR→Int→Nat) (pdH:LLR→Int→Bool) (pI:Nat→List AV→Int) (pC:List AV→Bool) (pB:List AV→LLR) (atR:LLR→Int→List AV) (atB:LLR→Int→Bool):Prop :=
  ∀ (gl:Glob) (f:Bool) (k:Int) (nm:ByteArray) (ps:List (List AV)) (t:Int),SrcD ps→(IR9 k)∧nm.size.le (9223372036854775807:Nat)∧True∧True→IR9 t→SrcD ps∧bif !pdH ps t then bif decide (rng .i64 ((↑(pdN ps t):Int) - (1:Int))) then bif decide ((↑(pdN ps t):Int) - (1:Int) < (0:Int)) then
 ((0:Int)=pI (0:Nat) (atR ps t)∧false=pC (atR ps t)∧(0:Int)=pI (2:Nat) (atR ps t)∧(0:Int)=pI (3:Nat) (atR ps t)∧(0:Int)=pI (4:Nat) (atR ps t)∧(0:Int)=pI (5:Nat) (atR ps t)∧pB (atR ps t)=[]∧True)∧false=atB ps t∧True else bif decide ((0:Int)≤(↑(pdN ps t):Int) - (1:Int)∧(↑(pdN ps t):Int) - (1:Int) < (↑ps.length:Int)) then ∃ n b n_1 n_2 n_3 n_4 xs,List.take [AV.int .i64 n,.bool b,.int .i64 n_1,.int
 .i64 n_2,.int .i64 n_3,.int .i64 n_4,.sl (2:Nat) false xs].length (ps.getD ((↑(pdN ps t):Int) - (1:Int)).toNat [])=[AV.int .i64 n,.bool b,.int .i64 n_1,.int .i64 n_2,.int .i64 n_3,.int .i64 n_4,.sl (2:Nat) false xs]∧xs.length≤(1000:Nat)∧(n=pI (0:Nat) (atR ps t)∧b=pC (atR ps t)∧n_1=pI (2:Nat) (atR ps t)∧n_2=pI (3:Nat) (atR ps t)∧n_3=pI (4:Nat) (atR ps t)∧n_4=pI (5:Nat) (atR ps t)∧(True∧xs=pB (atR
 ps t))∧True)∧true=atB ps t∧True else False else False else bif decide ((0:Int)≤(↑(pdN ps t):Int)∧(↑(pdN ps t):Int) < (↑ps.length:Int)) then ∃ n b n_1 n_2 n_3 n_4 xs,List.take [AV.int .i64 n,.bool b,.int .i64 n_1,.int .i64 n_2,.int .i64 n_3,.int .i64 n_4,.sl (2:Nat) false xs].length (ps.getD (↑(pdN ps t):Int).toNat [])=[AV.int .i64 n,.bool b,.int .i64 n_1,.int .i64 n_2,.int .i64 n_3,.int .i64
 n_4,.sl (2:Nat) false xs]∧xs.length≤(1000:Nat)∧(n=pI (0:Nat) (atR ps t)∧b=pC (atR ps t)∧n_1=pI (2:Nat) (atR ps t)∧n_2=pI (3:Nat) (atR ps t)∧n_3=pI (4:Nat) (atR ps t)∧n_4=pI (5:Nat) (atR ps t)∧(True∧xs=pB (atR ps t))∧True)∧true=atB ps t∧True else False
theorem gat_P:gat_T pdN pdH pI pC pB atR atB:=by
 unfold gat_T
 intro gl f k nm ps t hp _ _
 have hs:=hp.fp.fs
 have le:=fp_le (qP t) ps
 have le:pdN ps t≤ps.length:=le
 refine ⟨hp,csplit (fun q=>cdI (by omega) (csx (fun q2=>?_) (fun q2=>cd1 (by omega) ?_))) (fun q=>?_)⟩
 ·have q:pdH ps t=false:=by simpa using q
  have hK:atK ps t=(pdN ps t:Int) - 1:=by unfold atK; rw [if_neg (by rw [q]; decide)]
  have hB:atB ps t=false:=by unfold atB; rw [hK]; exact decide_eq_false (by omega)
  have hR:atR ps t=pzR:=by unfold atR; rw [if_neg (by rw [hB]; decide)]
  rw [hR,hB]
  exact ⟨⟨rfl,rfl,rfl,rfl,rfl,rfl,rfl,trivial⟩,rfl,trivial⟩
 ·have q:pdH ps t=false:=by simpa using q
  have hK:atK ps t=(pdN ps t:Int) - 1:=by unfold atK; rw [if_neg (by rw [q]; decide)]
  have hB:atB ps t=true:=by unfold atB; rw [hK]; exact decide_eq_true (by omega)
  obtain ⟨fr,cl,fa,a,b,c,bs,hr,hb,hl⟩:=hp.fp.fr ((pdN ps t:Int) - 1).toNat (by omega)
  have hR:atR ps t=pdA fr cl fa a b c bs:=by unfold atR; rw [if_pos hB,hK,hr]
  refine ⟨fr,cl,fa,a,b,c,bs,by rw [hr]; rfl,hl,?_⟩
  rw [hR,hB]
  exact ⟨⟨rfl,rfl,rfl,rfl,rfl,rfl,⟨trivial,rfl⟩,trivial⟩,rfl,trivial⟩
 ·have q:pdH ps t=true:=by simpa using q
  have hlt:pdN ps t < ps.length:=by
   have:=q
   unfold pdH fpB at this
   rw [Bool.and_eq_true] at this
   exact of_decide_eq_true this.1
  have hK:atK ps t=(pdN ps t:Int):=by unfold atK; rw [if_pos q]
  have hB:atB ps t=true:=by unfold atB; rw [hK]; exact decide_eq_true (by omega)
  refine cd1 (by omega) ?_
  obtain ⟨fr,cl,fa,a,b,c,bs,hr,hb,hl⟩:=hp.fp.fr ((pdN ps t:Int)).toNat (by omega)
  have hR:atR ps t=pdA fr cl fa a b c bs:=by unfold atR; rw [if_pos hB,hK,hr]
  refine ⟨fr,cl,fa,a,b,c,bs,by rw [hr]; rfl,hl,?_⟩
  rw [hR,hB]
  exact ⟨⟨rfl,rfl,rfl,rfl,rfl,rfl,⟨trivial,rfl⟩,trivial⟩,rfl,trivial⟩
def gat_S (pdN:LLR→Int→Nat) (pdH:LLR→Int→Bool) (pI:Nat→List AV→Int) (pC:List AV→Bool) (pB:List AV→LLR) (atR:LLR→Int→List AV) (atB:LLR→Int→Bool):Prop:=∀ (gl:Glob) (f:Bool) (k:Int) (nm:ByteArray) (ps:List (List AV)) (t:Int),SrcD ps→fnK Tryz.prog { glob:=gl,spec:=lk [(61,(gperiod_s pdN pdH)),(59,cloR_s)],specH:=lk [],shape:=[26],slz:=[(26,[2])],nowf:=true } { nt:=32,drop:=drp [(1,32256),(2,32768),(3,393216),(4,524288),(5,2097152),(6,130023424),(7,2013265920),(8,2147483648)] } (fun _ _=>none) 6 Tryz.f48 [.agg [.int .i64 k,.str nm,.sl 7 f ps],.int .i64 t] (.tup [.agg [.int .i64 (pI 0 (atR ps t)),.bool (pC (atR ps t)),.int .i64 (pI 2 (atR ps t)),.int .i64 (pI 3 (atR ps t)),.int .i64 (pI 4 (atR ps t)),.int .i64 (pI 5 (atR ps t)),.sl 2 false (pB (atR ps t))],.bool (atB ps t)])
theorem gat_e (pdN:LLR→Int→Nat) (pdH:LLR→Int→Bool) (pI:Nat→List AV→Int) (pC:List AV→Bool) (pB:List AV→LLR) (atR:LLR→Int→List AV) (atB:LLR→Int→Bool):gat_T pdN pdH pI pC pB atR atB=gat_S pdN pdH pI pC pB atR atB:=by kernel_rfl
theorem gat_v:gat_S pdN pdH pI pC pB atR atB:=Eq.mp (gat_e ..) (gat_P)
theorem gat_ok (gl:Glob):SOK Tryz.prog gl 48 (gat_s pdN pdH pI pC pB atR atB):=by
 refine ⟨fok Tryz.func48 (by kernel_rfl) (by kernel_rfl),?_⟩
 intro xs pre r h hp
 unfold gat_s at h
 split at h
 ·simp only [Option.some.injEq,Prod.mk.injEq] at h
  obtain ⟨h1,h2⟩:=h
  subst h1 h2
  exact fnK_sound tyNil (by exact specOK rfl rfl ⟨(gperiod_ok gl),(cloR_ok gl),trivial⟩ trivial) (by kernel_rfl) Tryz.func48 rfl (gat_v gl _ _ _ _ _ hp)
 ·cases h
structure UbP (rd bs:LLR) (x:Int × LLR):Prop where
 flo:0≤x.1
 fhi:x.1≤rd.length
 fe:x.2=unb (rd.take x.1.toNat) bs
def ub3 (rd bs:LLR) (f g:Bool):LInv:=⟨Int × LLR,fun x=>⟨[(1,.sl 2 g bs),(5,.rw 1500 2 x.2.length),(10,.sl 2 f rd),(11,.int .i64 rd.length),(12,.int .i64 x.1)],[(1500,.row 76 2 x.2)]⟩,UbP rd bs,fun x=>(rd.length - x.1).toNat,none⟩
def gunb_s (fdV:LLR→Int→Int) (fdB:LLR→Int→Bool) (unb:LLR→LLR→LLR) (vdE:LLR→Int):Sp
 | [.sl 2 f rd,.sl 2 g bs]=>some (RdsP rd∧RdsP bs∧rd.length≤1000,.sl 2 false (unb rd bs))
 | _=>none
def gunb_T (fdV:LLR→Int→Int) (fdB:LLR→Int→Bool) (unb:LLR→LLR→LLR) (vdE:LLR→Int):Prop :=
  ∀ (f g:Bool) (rd bs:List (List AV)),RdsP rd∧RdsP bs∧rd.length≤(1000:Nat)→True→True→(∃ x,UbP rd bs x∧(((bif g then g=true else True)∧bs=bs)∧(0:Nat)=List.length x.snd∧((bif f then f=true else True)∧rd=rd)∧(↑rd.length:Int)=(↑rd.length:Int)∧(0:Int)=x.fst∧True)∧[]=x.snd∧True)∧∀ (x:Int × LLR),UbP rd bs x→bif decide (x.fst < (↑rd.length:Int)) then bif decide (0≤x.fst∧x.fst <
 (↑rd.length:Int)) then ∃ n n_1,List.take [AV.int .i64 n,.int .i64 n_1].length (rd.getD x.fst.toNat [])=[AV.int .i64 n,.int .i64 n_1]∧RdsP bs∧RdsP [[AV.int .i64 n,.int .i64 (IntKind.i64.wrap (n_1 - fdV bs n))]]∧bif decide (vdE [[AV.int .i64 n,.int .i64 (IntKind.i64.wrap (n_1 - fdV bs n))]]=(0:Int)) then bif decide (List.length x.snd=List.length x.snd∧List.length x.snd+[[AV.int .i64 n,.int .i64
 (IntKind.i64.wrap (n_1 - fdV bs n))]].length≤(9223372036854775807:Nat)∧(List.length x.snd+[[AV.int .i64 n,.int .i64 (IntKind.i64.wrap (n_1 - fdV bs n))]].length)*(16:Nat)≤(140737488355328:Nat)) then ∃ y,UbP rd bs y∧(ub3 rd bs f g).m y < (ub3 rd bs f g).m x∧(((bif g then g=true else True)∧bs=bs)∧(x.snd++[[AV.int .i64 n,.int .i64 (IntKind.i64.wrap (n_1 - fdV bs n))]]).length=List.length
 y.snd∧((bif f then f=true else True)∧rd=rd)∧(↑rd.length:Int)=(↑rd.length:Int)∧IntKind.i64.wrap (x.fst+(1:Int))=y.fst∧True)∧x.snd++[[AV.int .i64 n,.int .i64 (IntKind.i64.wrap (n_1 - fdV bs n))]]=y.snd∧True else False else ∃ y,UbP rd bs y∧(ub3 rd bs f g).m y < (ub3 rd bs f g).m x∧(((bif g then g=true else True)∧bs=bs)∧List.length x.snd=List.length y.snd∧((bif f then f=true else
 True)∧rd=rd)∧(↑rd.length:Int)=(↑rd.length:Int)∧IntKind.i64.wrap (x.fst+(1:Int))=y.fst∧True)∧x.snd=y.snd∧True else False else bif decide (List.length x.snd=List.length x.snd) then True∧x.snd=unb rd bs else False
theorem gunb_P:gunb_T fdV fdB unb vdE:=by
 unfold gunb_T
 intro f g rd bs ⟨hr,hb,hl⟩ _ _
 have bf:cond f (f=true) True:=by cases f <;> trivial
 have bg:cond g (g=true) True:=by cases g <;> trivial
 refine ⟨⟨(0,[]),⟨by simp,by simp,by simp [unb]⟩,by (repeat' (first | exact trivial | exact rfl | assumption | apply And.intro))⟩,?_⟩
 rintro ⟨i,out⟩ ⟨i0,i1,e⟩
 simp only at i0 i1 e
 dsimp only
 have w1:i < rd.length→IntKind.i64.wrap (i+1)=i+1:=fun h=>wrap_eq (by show _∧_; omega)
 have ol:out.length≤1000:=by
  rw [e]
  exact Nat.le_trans (unb_len _ _) (Nat.le_trans (by rw [List.length_take]; omega) hl)
 refine csx (fun hi=>cd1 (by omega) ?_) (fun hi=>cd1 rfl ⟨trivial,by rw [e,List.take_of_length_le (by omega)]⟩)
 obtain ⟨n,v,hn,r1,r2⟩:=hr.row i.toNat (by omega)
 have ht:unb (rd.take (i.toNat+1)) bs=if ck n (IntKind.i64.wrap (v - fdV bs n))=0 then out++[[.int .i64 n,.int .i64 (IntKind.i64.wrap (v - fdV bs n))]] else out:=by
  have:=unb_take (bs:=bs) (show i.toNat < rd.length by omega)
  rw [hn,← e] at this
  exact this
 have hz:vdE [[.int .i64 n,.int .i64 (IntKind.i64.wrap (v - fdV bs n))]]=0↔ck n (IntKind.i64.wrap (v - fdV bs n))=0:=by
  rw [vd_zero]
  exact ⟨fun h=>h.1 _ (List.mem_singleton.2 rfl),fun h=>⟨fun r hr=>by rw [List.mem_singleton.1 hr]; exact h,List.pairwise_singleton _ _⟩⟩
 rw [w1 hi]
 refine ⟨n,v,by rw [hn]; rfl,hb,rds_add rdsP_nil r1 (wrap_rng _ _) (by simp),csx (fun q=>cd1 ⟨rfl,by simp; omega,by simp; omega⟩ ⟨(i+1,out++[[.int .i64 n,.int .i64 (IntKind.i64.wrap (v - fdV bs n))]]),⟨by simp only; omega,by simp only; omega,?_⟩,by simp only [ub3]; omega,by (repeat' (first | exact trivial | exact rfl | assumption | apply And.intro))⟩) (fun q=>⟨(i+1,out),⟨by simp only; omega,by simp only; omega,?_⟩,by simp only [ub3]; omega,by (repeat' (first | exact trivial | exact rfl | assumption | apply And.intro))⟩)⟩
 ·simp only
  rw [show (i+1).toNat=i.toNat+1 by omega,ht,if_pos (hz.1 q)]
 ·simp only
  rw [show (i+1).toNat=i.toNat+1 by omega,ht,if_neg (fun z=>q (hz.2 z))]
def gunb_S (fdV:LLR→Int→Int) (fdB:LLR→Int→Bool) (unb:LLR→LLR→LLR) (vdE:LLR→Int):Prop:=∀ (f g:Bool) (rd bs:List (List AV)),RdsP rd∧RdsP bs∧rd.length≤1000→fnK Tryz.prog { glob:=glb,spec:=lk [(92,(efind_s fdV fdB)),(46,(evalid_s vdE))],specH:=lk [],shape:=[15],nowf:=true,wrap:=true } { nt:=38,drop:=drp [(4,49152),(5,8323072),(6,260046848),(7,1879048192),(8,64424509440),(9,68719476736),(10,137438953472)],emp:=fun id=>cond (Nat.beq id 2) [(5,1500,76,2)] [] } (invs [(3,ub3 rd bs f g)]) 6 Tryz.f50 [.sl 2 f rd,.sl 2 g bs] (.sl 2 false (unb rd bs))
theorem gunb_e (fdV:LLR→Int→Int) (fdB:LLR→Int→Bool) (unb:LLR→LLR→LLR) (vdE:LLR→Int):gunb_T fdV fdB unb vdE=gunb_S fdV fdB unb vdE:=by kernel_rfl
theorem gunb_v:gunb_S fdV fdB unb vdE:=Eq.mp (gunb_e ..) (gunb_P)
theorem gunb_ok:SOK Tryz.prog glb 50 (gunb_s fdV fdB unb vdE):=by
 refine ⟨fok Tryz.func50 (by kernel_rfl) (by kernel_rfl),?_⟩
 intro xs pre r h hp
 unfold gunb_s at h
 split at h
 ·simp only [Option.some.injEq,Prod.mk.injEq] at h
  obtain ⟨h1,h2⟩:=h
  subst h1 h2
  exact fnK_sound tyNil (by exact specOK rfl rfl ⟨(efind_ok glb),(evalid_ok),trivial⟩ trivial) (by kernel_rfl) Tryz.func50 rfl (gunb_v  _ _ _ _ hp)
 ·cases h
def apI (l:LLR) (n:ByteArray) (t:Int):Bool:=stH l n&&atB (sPs (l.getD (stN l n) [])) t
def apP (l:LLR) (n:ByteArray) (t:Int):List AV:=if stH l n then atR (sPs (l.getD (stN l n) [])) t else pzR
def atE (l:LLR) (n:ByteArray) (t:Int):Int:=if rgV l≠0 then rgV l else if apI l n t then 0 else 6
def atZ (l:LLR) (n:ByteArray) (t:Int):List AV:=if atE l n t=0 then apP l n t else pzR
structure RgZ (l:LLR):Prop where
 fp:StsP l
 fs:snO l=true
 fa:∀ i,i < l.length→ascB (sPs (l.getD i []))=true
theorem rg_zero {l:LLR} (hp:StsP l) (h:rgV l=0):RgZ l:=by
 unfold rgV at h
 repeat' split at h
 all_goals first
  | (exact absurd h (by decide))
  | skip
 next _ _ _ _ h5 hs =>
  refine ⟨hp,hs,fun i hi=>?_⟩
  have h5:l.any p5R=false:=by simpa using h5
  have:=List.any_eq_false.1 h5 (l.getD i []) (by rw [gD_lt hi]; exact List.getElem_mem _)
  unfold p5R at this
  simpa using this
theorem RgZ.src {l:LLR} (h:RgZ l):SrcS l:=⟨h.fp,h.fs⟩
theorem stH_lt {l:LLR} {n:ByteArray} (h:stH l n=true):stN l n < l.length:=by
 unfold stH fpB at h
 rw [Bool.and_eq_true] at h
 exact of_decide_eq_true h.1
def zI (e x:Int):Int:=if e=0 then x else 0
def zN (e:Int) (s:ByteArray):ByteArray:=if e=0 then s else ⟨#[]⟩
def zS (e:Int) (l:LLR):LLR:=if e=0 then l else []
def apE (l:LLR) (k:Int) (n:ByteArray) (t f a b c:Int) (rd:LLR):Int :=
 if rgV l≠0 then rgV l else if exK k=false then 4 else if vdE rd≠0 then vdE rd else if k=1∧apI l n t=false then 6 else if (stH l n=true∧rE (l.getD (stN l n) [])≠k)∨(apI l n t=true∧pC (apP l n t)=true) then 7 else if k≠1∧isN f a b c=false then 9 else 0
def apX (i:Nat) (l:LLR) (k:Int) (n:ByteArray) (t x:Int):Int:=if k=1 then pI i (apP l n t) else x
theorem ap_err {E e k t x2 x3 x4 x5:Int} {n:ByteArray} {U:LLR} (h:E=e) (he:e≠0):(0=zI E k∧(⟨#[]⟩:ByteArray)=zN E n∧0=zI E t∧0=zI E x2∧0=zI E x3∧0=zI E x4∧0=zI E x5∧zS E U=[]∧True)∧e=E∧True:=by
 subst h
 have z:∀ x:Int,0=zI E x:=fun x=>by unfold zI; rw [if_neg he]
 exact ⟨⟨z _,by unfold zN; rw [if_neg he],z _,z _,z _,z _,z _,by unfold zS; rw [if_neg he],trivial⟩,rfl,trivial⟩
theorem ap_ok {E k t x2 x3 x4 x5 y2 y3 y4 y5:Int} {n:ByteArray} {U V:LLR} (h:E=0) (h2:y2=x2) (h3:y3=x3) (h4:y4=x4) (h5:y5=x5) (hu:U=V):(k=zI E k∧n=zN E n∧t=zI E t∧y2=zI E x2∧y3=zI E x3∧y4=zI E x4∧y5=zI E x5∧(True∧U=zS E V)∧True)∧0=E∧True:=by
 subst h h2 h3 h4 h5 hu
 exact ⟨⟨rfl,rfl,rfl,rfl,rfl,rfl,rfl,⟨trivial,rfl⟩,trivial⟩,rfl,trivial⟩
theorem at_bias {ps:LLR} {t:Int} (hp:PdsP ps):RdsP (pB (atR ps t)):=by
 unfold atR
 split
 ·rcases Nat.lt_or_ge (atK ps t).toNat ps.length with h | h
  ·obtain ⟨fr,cl,fa,a,b,c,bs,hr,hb,_⟩:=hp.fr _ h
   rw [hr]; exact hb
  ·rw [List.getD_eq_getElem?_getD,List.getElem?_eq_none h]; exact rdsP_nil
 ·exact rdsP_nil
def gApply_s (rgV:LLR→Int) (stN:LLR→ByteArray→Nat) (stH:LLR→ByteArray→Bool) (pI:Nat→List AV→Int) (pC:List AV→Bool) (pB:List AV→LLR) (atR:LLR→Int→List AV) (atB:LLR→Int→Bool) (exK:Int→Bool) (vdE:LLR→Int) (isN:Int→Int→Int→Int→Bool) (unb:LLR→LLR→LLR) (zI:Int→Int→Int) (zN:Int→ByteArray→ByteArray) (zS:Int→LLR→LLR) (apE:LLR→Int→ByteArray→Int→Int→Int→Int→Int→LLR→Int) (apX:Nat→LLR→Int→ByteArray→Int→Int→Int) (apP:LLR→ByteArray→Int→List AV):Sp
 | [.agg [.sl 3 g l],.agg [.int .i64 k,.str n,.int .i64 t,.int .i64 f,.int .i64 a,.int .i64 b,.int .i64 c,.sl 2 h rd]]=>some (StsP l∧RdsP rd∧rd.length≤1000,.tup [.agg [.int .i64 (zI (apE l k n t f a b c rd) k),.str (zN (apE l k n t f a b c rd) n),.int .i64 (zI (apE l k n t f a b c rd) t),.int .i64 (zI (apE l k n t f a b c rd) (apX 2 l k n t f)),.int .i64 (zI (apE l k n t f a b c rd) (apX 3 l k n t a)),.int .i64 (zI (apE l k n t f a b c rd) (apX 4 l k n t b)),.int .i64 (zI (apE l k n t f a b c rd) (apX 5 l k n t c)),.sl 2 false (zS (apE l k n t f a b c rd) (unb rd (pB (apP l n t))))],.int .i64 (apE l k n t f a b c rd)])
 | _=>none
abbrev apZr (zI:Int→Int→Int) (zN:Int→ByteArray→ByteArray) (zS:Int→LLR→LLR) (apE:LLR→Int→ByteArray→Int→Int→Int→Int→Int→LLR→Int) (apX:Nat→LLR→Int→ByteArray→Int→Int→Int) (apP:LLR→ByteArray→Int→List AV) (unb:LLR→LLR→LLR) (pB:List AV→LLR) (l rd:LLR) (k t f a b c:Int) (n:ByteArray):Prop:=(0:Int)=zI (apE l k n t f a b c rd) k∧(⟨#[]⟩:ByteArray)=zN (apE l k n t f a b c rd) n∧(0:Int)=zI (apE l k n t f a b c rd) t∧(0:Int)=zI (apE l k n t f a b c rd) (apX (2:Nat) l k n t f)∧(0:Int)=zI (apE l k n t f a b c rd) (apX (3:Nat) l k n t a)∧(0:Int)=zI (apE l k n t f a b c rd) (apX (4:Nat) l k n t b)∧(0:Int)=zI (apE l k n t f a b c rd) (apX (5:Nat) l k n t c)∧zS (apE l k n t f a b c rd) (unb rd (pB (apP l n t)))=[]∧True
abbrev apYr (zI:Int→Int→Int) (zN:Int→ByteArray→ByteArray) (zS:Int→LLR→LLR) (apE:LLR→Int→ByteArray→Int→Int→Int→Int→Int→LLR→Int) (apX:Nat→LLR→Int→ByteArray→Int→Int→Int) (apP:LLR→ByteArray→Int→List AV) (unb:LLR→LLR→LLR) (pB:List AV→LLR) (l rd:LLR) (k t f a b c:Int) (n:ByteArray) (x2 x3 x4 x5:Int) (U:LLR):Prop:=k=zI (apE l k n t f a b c rd) k∧n=zN (apE l k n t f a b c rd) n∧t=zI (apE l k n t f a b c rd) t∧x2=zI (apE l k n t f a b c rd) (apX (2:Nat) l k n t f)∧x3=zI (apE l k n t f a b c rd) (apX (3:Nat) l k n t a)∧x4=zI (apE l k n t f a b c rd) (apX (4:Nat) l k n t b)∧x5=zI (apE l k n t f a b c rd) (apX (5:Nat) l k n t c)∧(True∧U=zS (apE l k n t f a b c rd) (unb rd (pB (apP l n t))))∧True
def gApply_T (rgV:LLR→Int) (stN:LLR→ByteArray→Nat) (stH:LLR→ByteArray→Bool) (pI:Nat→List AV→Int) (pC:List AV→Bool) (pB:List AV→LLR) (atR:LLR→Int→List AV) (atB:LLR→Int→Bool) (exK:Int→Bool) (vdE:LLR→Int) (isN:Int→Int→Int→Int→Bool) (unb:LLR→LLR→LLR) (zI:Int→Int→Int) (zN:Int→ByteArray→ByteArray) (zS:Int→LLR→LLR) (apE:LLR→Int→ByteArray→Int→Int→Int→Int→Int→LLR→Int) (apX:Nat→LLR→Int→ByteArray→Int→Int→Int) (apP:LLR→ByteArray→Int→List AV) (p1R:List AV→Bool) (p2R:List AV→Bool) (p3R:List AV→Bool) (p4R:List AV→Bool) (p5R:List AV→Bool) (pdN:LLR→Int→Nat) (pdH:LLR→Int→Bool) (nrm:Int→Int→Int→Int→Int × Int × Int × Int) (vld:Int→Int→Int→Int→Bool) (fdV:LLR→Int→Int) (fdB:LLR→Int→Bool):Prop :=
  ∀ (g h:Bool) (l rd:List (List AV)) (k t f a b c:Int) (n:ByteArray),StsP l∧RdsP rd∧rd.length≤(1000:Nat)→True∧True→(IR9 k)∧n.size.le (9223372036854775807:Nat)∧(IR9 t)∧(IR9 f)∧((-9223372036854775808:Int)≤a∧a ≤
 (9223372036854775807:Int))∧(IR9 b)∧(IR9 c)∧True∧True→StsP l∧bif decide ¬rgV l=(0:Int) then (apZr zI zN zS apE apX apP unb pB l rd k t f a b c n)∧rgV l=apE l k n t f a b c rd∧True else True∧bif !exK k then (apZr zI zN zS apE apX apP unb pB l rd k t f a b c n)∧(4:Int)=apE l k n t f a b c
 rd∧True else RdsP rd∧bif decide ¬vdE rd=(0:Int) then (apZr zI zN zS apE apX apP unb pB l rd k t f a b c n)∧vdE rd=apE l k n t f a b c rd∧True else SrcS l∧bif stH l n then bif decide ((0:Int)≤(↑(stN l n):Int)∧(↑(stN l n):Int) < (↑l.length:Int)) then ∃ n_1 s xs,List.take [AV.int .i64 n_1,.str s,.sl (7:Nat) false xs].length (l.getD (↑(stN l n):Int).toNat [])=[AV.int .i64 n_1,.str s,.sl (7:Nat) false
 xs]∧SrcD xs∧bif decide (k=(1:Int)) then bif !atB xs t then (apZr zI zN zS apE apX apP unb pB l rd k t f a b c n)∧(6:Int)=apE l k n t f a b c rd∧True else bif stH l n then bif decide ((0:Int)≤(↑(stN l n):Int)∧(↑(stN l n):Int) < (↑l.length:Int)) then ∃ n_2,List.take [AV.int .i64 n_2].length (List.drop (0:Nat) (l.getD (↑(stN l n):Int).toNat []))=[AV.int .i64 n_2]∧bif decide ¬n_2=k then (apZr zI zN
 zS apE apX apP unb pB l rd k t f a b c n)∧(7:Int)=apE l k n t f a b c rd∧True else bif atB xs t then bif pC (atR xs t) then (apZr zI zN zS apE apX apP unb pB l rd k t f a b c n)∧(7:Int)=apE l k n t f a b c rd∧True else bif decide ¬k=(1:Int) then True∧bif !isN f a b c then (apZr zI zN zS apE apX apP unb pB l rd k t f a b c n)∧(9:Int)=apE l k n t f a b c rd∧True else bif decide (k=(1:Int)) then (RdsP
 rd∧RdsP (pB (atR xs t))∧rd.length≤(1000:Nat))∧(apYr zI zN zS apE apX apP unb pB l rd k t f a b c n (pI (2:Nat) (atR xs t)) (pI (3:Nat) (atR xs t)) (pI (4:Nat) (atR xs t)) (pI (5:Nat) (atR xs t)) (unb rd (pB (atR xs t))))∧(0:Int)=apE l k n t f a b c rd∧True else (RdsP rd∧RdsP (pB (atR xs t))∧rd.length≤(1000:Nat))∧(apYr zI zN zS apE apX apP unb pB l rd k t f a b c n (f) (a) (b) (c) (unb rd (pB
 (atR xs t))))∧(0:Int)=apE l k n t f a b c rd∧True else bif decide (k=(1:Int)) then (RdsP rd∧RdsP (pB (atR xs t))∧rd.length≤(1000:Nat))∧(apYr zI zN zS apE apX apP unb pB l rd k t f a b c n (pI (2:Nat) (atR xs t)) (pI (3:Nat) (atR xs t)) (pI (4:Nat) (atR xs t)) (pI (5:Nat) (atR xs t)) (unb rd (pB (atR xs t))))∧(0:Int)=apE l k n t f a b c rd∧True else (RdsP rd∧RdsP (pB (atR xs t))∧rd.length ≤
 (1000:Nat))∧(apYr zI zN zS apE apX apP unb pB l rd k t f a b c n (f) (a) (b) (c) (unb rd (pB (atR xs t))))∧(0:Int)=apE l k n t f a b c rd∧True else bif decide ¬k=(1:Int) then True∧bif !isN f a b c then (apZr zI zN zS apE apX apP unb pB l rd k t f a b c n)∧(9:Int)=apE l k n t f a b c rd∧True else bif decide (k=(1:Int)) then (RdsP rd∧RdsP (pB (atR xs t))∧rd.length≤(1000:Nat))∧(apYr zI zN zS apE apX
 apP unb pB l rd k t f a b c n (pI (2:Nat) (atR xs t)) (pI (3:Nat) (atR xs t)) (pI (4:Nat) (atR xs t)) (pI (5:Nat) (atR xs t)) (unb rd (pB (atR xs t))))∧(0:Int)=apE l k n t f a b c rd∧True else (RdsP rd∧RdsP (pB (atR xs t))∧rd.length≤(1000:Nat))∧(apYr zI zN zS apE apX apP unb pB l rd k t f a b c n (f) (a) (b) (c) (unb rd (pB (atR xs t))))∧(0:Int)=apE l k n t f a b c rd∧True else bif decide
 (k=(1:Int)) then (RdsP rd∧RdsP (pB (atR xs t))∧rd.length≤(1000:Nat))∧(apYr zI zN zS apE apX apP unb pB l rd k t f a b c n (pI (2:Nat) (atR xs t)) (pI (3:Nat) (atR xs t)) (pI (4:Nat) (atR xs t)) (pI (5:Nat) (atR xs t)) (unb rd (pB (atR xs t))))∧(0:Int)=apE l k n t f a b c rd∧True else (RdsP rd∧RdsP (pB (atR xs t))∧rd.length≤(1000:Nat))∧(apYr zI zN zS apE apX apP unb pB l rd k t f a b c n (f) (a)
 (b) (c) (unb rd (pB (atR xs t))))∧(0:Int)=apE l k n t f a b c rd∧True else False else bif atB xs t then bif pC (atR xs t) then (apZr zI zN zS apE apX apP unb pB l rd k t f a b c n)∧(7:Int)=apE l k n t f a b c rd∧True else bif decide ¬k=(1:Int) then True∧bif !isN f a b c then (apZr zI zN zS apE apX apP unb pB l rd k t f a b c n)∧(9:Int)=apE l k n t f a b c rd∧True else bif decide (k=(1:Int)) then
 (RdsP rd∧RdsP (pB (atR xs t))∧rd.length≤(1000:Nat))∧(apYr zI zN zS apE apX apP unb pB l rd k t f a b c n (pI (2:Nat) (atR xs t)) (pI (3:Nat) (atR xs t)) (pI (4:Nat) (atR xs t)) (pI (5:Nat) (atR xs t)) (unb rd (pB (atR xs t))))∧(0:Int)=apE l k n t f a b c rd∧True else (RdsP rd∧RdsP (pB (atR xs t))∧rd.length≤(1000:Nat))∧(apYr zI zN zS apE apX apP unb pB l rd k t f a b c n (f) (a) (b) (c) (unb rd
 (pB (atR xs t))))∧(0:Int)=apE l k n t f a b c rd∧True else bif decide (k=(1:Int)) then (RdsP rd∧RdsP (pB (atR xs t))∧rd.length≤(1000:Nat))∧(apYr zI zN zS apE apX apP unb pB l rd k t f a b c n (pI (2:Nat) (atR xs t)) (pI (3:Nat) (atR xs t)) (pI (4:Nat) (atR xs t)) (pI (5:Nat) (atR xs t)) (unb rd (pB (atR xs t))))∧(0:Int)=apE l k n t f a b c rd∧True else (RdsP rd∧RdsP (pB (atR xs t))∧rd.length ≤
 (1000:Nat))∧(apYr zI zN zS apE apX apP unb pB l rd k t f a b c n (f) (a) (b) (c) (unb rd (pB (atR xs t))))∧(0:Int)=apE l k n t f a b c rd∧True else bif decide ¬k=(1:Int) then True∧bif !isN f a b c then (apZr zI zN zS apE apX apP unb pB l rd k t f a b c n)∧(9:Int)=apE l k n t f a b c rd∧True else bif decide (k=(1:Int)) then (RdsP rd∧RdsP (pB (atR xs t))∧rd.length≤(1000:Nat))∧(apYr zI zN zS apE apX
 apP unb pB l rd k t f a b c n (pI (2:Nat) (atR xs t)) (pI (3:Nat) (atR xs t)) (pI (4:Nat) (atR xs t)) (pI (5:Nat) (atR xs t)) (unb rd (pB (atR xs t))))∧(0:Int)=apE l k n t f a b c rd∧True else (RdsP rd∧RdsP (pB (atR xs t))∧rd.length≤(1000:Nat))∧(apYr zI zN zS apE apX apP unb pB l rd k t f a b c n (f) (a) (b) (c) (unb rd (pB (atR xs t))))∧(0:Int)=apE l k n t f a b c rd∧True else bif decide
 (k=(1:Int)) then (RdsP rd∧RdsP (pB (atR xs t))∧rd.length≤(1000:Nat))∧(apYr zI zN zS apE apX apP unb pB l rd k t f a b c n (pI (2:Nat) (atR xs t)) (pI (3:Nat) (atR xs t)) (pI (4:Nat) (atR xs t)) (pI (5:Nat) (atR xs t)) (unb rd (pB (atR xs t))))∧(0:Int)=apE l k n t f a b c rd∧True else (RdsP rd∧RdsP (pB (atR xs t))∧rd.length≤(1000:Nat))∧(apYr zI zN zS apE apX apP unb pB l rd k t f a b c n (f) (a)
 (b) (c) (unb rd (pB (atR xs t))))∧(0:Int)=apE l k n t f a b c rd∧True else bif stH l n then bif decide ((0:Int)≤(↑(stN l n):Int)∧(↑(stN l n):Int) < (↑l.length:Int)) then ∃ n_2,List.take [AV.int .i64 n_2].length (List.drop (0:Nat) (l.getD (↑(stN l n):Int).toNat []))=[AV.int .i64 n_2]∧bif decide ¬n_2=k then (apZr zI zN zS apE apX apP unb pB l rd k t f a b c n)∧(7:Int)=apE l k n t f a b c rd∧True
 else bif atB xs t then bif pC (atR xs t) then (apZr zI zN zS apE apX apP unb pB l rd k t f a b c n)∧(7:Int)=apE l k n t f a b c rd∧True else bif decide ¬k=(1:Int) then True∧bif !isN f a b c then (apZr zI zN zS apE apX apP unb pB l rd k t f a b c n)∧(9:Int)=apE l k n t f a b c rd∧True else bif decide (k=(1:Int)) then (RdsP rd∧RdsP (pB (atR xs t))∧rd.length≤(1000:Nat))∧(apYr zI zN zS apE apX apP
 unb pB l rd k t f a b c n (pI (2:Nat) (atR xs t)) (pI (3:Nat) (atR xs t)) (pI (4:Nat) (atR xs t)) (pI (5:Nat) (atR xs t)) (unb rd (pB (atR xs t))))∧(0:Int)=apE l k n t f a b c rd∧True else (RdsP rd∧RdsP (pB (atR xs t))∧rd.length≤(1000:Nat))∧(apYr zI zN zS apE apX apP unb pB l rd k t f a b c n (f) (a) (b) (c) (unb rd (pB (atR xs t))))∧(0:Int)=apE l k n t f a b c rd∧True else bif decide (k=(1:Int))
 then (RdsP rd∧RdsP (pB (atR xs t))∧rd.length≤(1000:Nat))∧(apYr zI zN zS apE apX apP unb pB l rd k t f a b c n (pI (2:Nat) (atR xs t)) (pI (3:Nat) (atR xs t)) (pI (4:Nat) (atR xs t)) (pI (5:Nat) (atR xs t)) (unb rd (pB (atR xs t))))∧(0:Int)=apE l k n t f a b c rd∧True else (RdsP rd∧RdsP (pB (atR xs t))∧rd.length≤(1000:Nat))∧(apYr zI zN zS apE apX apP unb pB l rd k t f a b c n (f) (a) (b) (c)
 (unb rd (pB (atR xs t))))∧(0:Int)=apE l k n t f a b c rd∧True else bif decide ¬k=(1:Int) then True∧bif !isN f a b c then (apZr zI zN zS apE apX apP unb pB l rd k t f a b c n)∧(9:Int)=apE l k n t f a b c rd∧True else bif decide (k=(1:Int)) then (RdsP rd∧RdsP (pB (atR xs t))∧rd.length≤(1000:Nat))∧(apYr zI zN zS apE apX apP unb pB l rd k t f a b c n (pI (2:Nat) (atR xs t)) (pI (3:Nat) (atR xs t))
 (pI (4:Nat) (atR xs t)) (pI (5:Nat) (atR xs t)) (unb rd (pB (atR xs t))))∧(0:Int)=apE l k n t f a b c rd∧True else (RdsP rd∧RdsP (pB (atR xs t))∧rd.length≤(1000:Nat))∧(apYr zI zN zS apE apX apP unb pB l rd k t f a b c n (f) (a) (b) (c) (unb rd (pB (atR xs t))))∧(0:Int)=apE l k n t f a b c rd∧True else bif decide (k=(1:Int)) then (RdsP rd∧RdsP (pB (atR xs t))∧rd.length≤(1000:Nat))∧(apYr zI zN zS
 apE apX apP unb pB l rd k t f a b c n (pI (2:Nat) (atR xs t)) (pI (3:Nat) (atR xs t)) (pI (4:Nat) (atR xs t)) (pI (5:Nat) (atR xs t)) (unb rd (pB (atR xs t))))∧(0:Int)=apE l k n t f a b c rd∧True else (RdsP rd∧RdsP (pB (atR xs t))∧rd.length≤(1000:Nat))∧(apYr zI zN zS apE apX apP unb pB l rd k t f a b c n (f) (a) (b) (c) (unb rd (pB (atR xs t))))∧(0:Int)=apE l k n t f a b c rd∧True else False else
 bif atB xs t then bif pC (atR xs t) then (apZr zI zN zS apE apX apP unb pB l rd k t f a b c n)∧(7:Int)=apE l k n t f a b c rd∧True else bif decide ¬k=(1:Int) then True∧bif !isN f a b c then (apZr zI zN zS apE apX apP unb pB l rd k t f a b c n)∧(9:Int)=apE l k n t f a b c rd∧True else bif decide (k=(1:Int)) then (RdsP rd∧RdsP (pB (atR xs t))∧rd.length≤(1000:Nat))∧(apYr zI zN zS apE apX apP unb pB
 l rd k t f a b c n (pI (2:Nat) (atR xs t)) (pI (3:Nat) (atR xs t)) (pI (4:Nat) (atR xs t)) (pI (5:Nat) (atR xs t)) (unb rd (pB (atR xs t))))∧(0:Int)=apE l k n t f a b c rd∧True else (RdsP rd∧RdsP (pB (atR xs t))∧rd.length≤(1000:Nat))∧(apYr zI zN zS apE apX apP unb pB l rd k t f a b c n (f) (a) (b) (c) (unb rd (pB (atR xs t))))∧(0:Int)=apE l k n t f a b c rd∧True else bif decide (k=(1:Int)) then
 (RdsP rd∧RdsP (pB (atR xs t))∧rd.length≤(1000:Nat))∧(apYr zI zN zS apE apX apP unb pB l rd k t f a b c n (pI (2:Nat) (atR xs t)) (pI (3:Nat) (atR xs t)) (pI (4:Nat) (atR xs t)) (pI (5:Nat) (atR xs t)) (unb rd (pB (atR xs t))))∧(0:Int)=apE l k n t f a b c rd∧True else (RdsP rd∧RdsP (pB (atR xs t))∧rd.length≤(1000:Nat))∧(apYr zI zN zS apE apX apP unb pB l rd k t f a b c n (f) (a) (b) (c) (unb rd
 (pB (atR xs t))))∧(0:Int)=apE l k n t f a b c rd∧True else bif decide ¬k=(1:Int) then True∧bif !isN f a b c then (apZr zI zN zS apE apX apP unb pB l rd k t f a b c n)∧(9:Int)=apE l k n t f a b c rd∧True else bif decide (k=(1:Int)) then (RdsP rd∧RdsP (pB (atR xs t))∧rd.length≤(1000:Nat))∧(apYr zI zN zS apE apX apP unb pB l rd k t f a b c n (pI (2:Nat) (atR xs t)) (pI (3:Nat) (atR xs t)) (pI
 (4:Nat) (atR xs t)) (pI (5:Nat) (atR xs t)) (unb rd (pB (atR xs t))))∧(0:Int)=apE l k n t f a b c rd∧True else (RdsP rd∧RdsP (pB (atR xs t))∧rd.length≤(1000:Nat))∧(apYr zI zN zS apE apX apP unb pB l rd k t f a b c n (f) (a) (b) (c) (unb rd (pB (atR xs t))))∧(0:Int)=apE l k n t f a b c rd∧True else bif decide (k=(1:Int)) then (RdsP rd∧RdsP (pB (atR xs t))∧rd.length≤(1000:Nat))∧(apYr zI zN zS apE
 apX apP unb pB l rd k t f a b c n (pI (2:Nat) (atR xs t)) (pI (3:Nat) (atR xs t)) (pI (4:Nat) (atR xs t)) (pI (5:Nat) (atR xs t)) (unb rd (pB (atR xs t))))∧(0:Int)=apE l k n t f a b c rd∧True else (RdsP rd∧RdsP (pB (atR xs t))∧rd.length≤(1000:Nat))∧(apYr zI zN zS apE apX apP unb pB l rd k t f a b c n (f) (a) (b) (c) (unb rd (pB (atR xs t))))∧(0:Int)=apE l k n t f a b c rd∧True else False else bif
 decide (k=(1:Int)) then (apZr zI zN zS apE apX apP unb pB l rd k t f a b c n)∧(6:Int)=apE l k n t f a b c rd∧True else bif stH l n then bif decide ((0:Int)≤(↑(stN l n):Int)∧(↑(stN l n):Int) < (↑l.length:Int)) then ∃ n_1,List.take [AV.int .i64 n_1].length (List.drop (0:Nat) (l.getD (↑(stN l n):Int).toNat []))=[AV.int .i64 n_1]∧bif decide ¬n_1=k then (apZr zI zN zS apE apX apP unb pB l rd k t f a b
 c n)∧(7:Int)=apE l k n t f a b c rd∧True else bif decide ¬k=(1:Int) then True∧bif !isN f a b c then (apZr zI zN zS apE apX apP unb pB l rd k t f a b c n)∧(9:Int)=apE l k n t f a b c rd∧True else bif decide (k=(1:Int)) then (RdsP rd∧RdsP []∧rd.length≤(1000:Nat))∧(apYr zI zN zS apE apX apP unb pB l rd k t f a b c n ((0:Int)) ((0:Int)) ((0:Int)) ((0:Int)) (unb rd []))∧(0:Int)=apE l k n t f a b c
 rd∧True else (RdsP rd∧RdsP []∧rd.length≤(1000:Nat))∧(apYr zI zN zS apE apX apP unb pB l rd k t f a b c n (f) (a) (b) (c) (unb rd []))∧(0:Int)=apE l k n t f a b c rd∧True else bif decide (k=(1:Int)) then (RdsP rd∧RdsP []∧rd.length≤(1000:Nat))∧(apYr zI zN zS apE apX apP unb pB l rd k t f a b c n ((0:Int)) ((0:Int)) ((0:Int)) ((0:Int)) (unb rd []))∧(0:Int)=apE l k n t f a b c rd∧True else (RdsP
 rd∧RdsP []∧rd.length≤(1000:Nat))∧(apYr zI zN zS apE apX apP unb pB l rd k t f a b c n (f) (a) (b) (c) (unb rd []))∧(0:Int)=apE l k n t f a b c rd∧True else False else bif decide ¬k=(1:Int) then True∧bif !isN f a b c then (apZr zI zN zS apE apX apP unb pB l rd k t f a b c n)∧(9:Int)=apE l k n t f a b c rd∧True else bif decide (k=(1:Int)) then (RdsP rd∧RdsP []∧rd.length≤(1000:Nat))∧(apYr zI zN zS
 apE apX apP unb pB l rd k t f a b c n ((0:Int)) ((0:Int)) ((0:Int)) ((0:Int)) (unb rd []))∧(0:Int)=apE l k n t f a b c rd∧True else (RdsP rd∧RdsP []∧rd.length≤(1000:Nat))∧(apYr zI zN zS apE apX apP unb pB l rd k t f a b c n (f) (a) (b) (c) (unb rd []))∧(0:Int)=apE l k n t f a b c rd∧True else bif decide (k=(1:Int)) then (RdsP rd∧RdsP []∧rd.length≤(1000:Nat))∧(apYr zI zN zS apE apX apP unb pB l
 rd k t f a b c n ((0:Int)) ((0:Int)) ((0:Int)) ((0:Int)) (unb rd []))∧(0:Int)=apE l k n t f a b c rd∧True else (RdsP rd∧RdsP []∧rd.length≤(1000:Nat))∧(apYr zI zN zS apE apX apP unb pB l rd k t f a b c n (f) (a) (b) (c) (unb rd []))∧(0:Int)=apE l k n t f a b c rd∧True
theorem gApply_P:gApply_T rgV stN stH pI pC pB atR atB exK vdE isN unb zI zN zS apE apX apP p1R p2R p3R p4R p5R pdN pdH nrm vld fdV fdB:=by
 unfold gApply_T
 intro g h l rd k t f a b c n ⟨hp,hr,hl⟩ _ _
 unfold apZr apYr
 obtain ⟨E,hE⟩:∃ E,E=apE l k n t f a b c rd:=⟨_,rfl⟩
 rw [← hE]
 unfold apE at hE
 refine ⟨hp,csx (fun q=>ap_err (hE.trans (if_pos q)) q) (fun q=>?_)⟩
 rw [if_neg q] at hE
 have hz:=rg_zero hp (Decidable.not_not.1 q)
 refine ⟨trivial,csplit (fun q2=>ap_err (hE.trans (if_pos (by simpa using q2))) (by decide)) (fun q2=>?_)⟩
 have q2:exK k=true:=by simpa using q2
 rw [if_neg (by rw [q2]; decide)] at hE
 refine ⟨hr,csx (fun q3=>ap_err (hE.trans (if_pos q3)) q3) (fun q3=>?_)⟩
 rw [if_neg q3] at hE
 refine ⟨hz.src,csplit (fun q4=>?_) (fun q4=>?_)⟩
 ·have hlt:=stH_lt q4
  refine cd1 (by omega) ?_
  obtain ⟨k2,nm2,ps,hrow,hps⟩:=hp.fr ((stN l n:Int)).toNat (by omega)
  have hrow':=hrow
  rw [Int.toNat_natCast] at hrow'
  have hP:sPs (l.getD (stN l n) [])=ps:=by rw [hrow']; rfl
  have hk2:rE (l.getD (stN l n) [])=k2:=by rw [hrow']; rfl
  have hsrc:SrcD ps:=⟨hps,by rw [← hP]; exact hz.fa _ hlt⟩
  have hI:apI l n t=atB ps t:=by unfold apI; rw [q4,hP]; rfl
  have hA:apP l n t=atR ps t:=by unfold apP; rw [if_pos q4,hP]
  have hX:∀ (i:Nat) (x:Int),apX i l k n t x=if k=1 then pI i (atR ps t) else x:=fun i x=>by unfold apX; rw [hA]
  have hb:RdsP (pB (atR ps t)):=at_bias hps
  rw [hI,hA,hk2] at hE
  rw [hA]
  refine ⟨k2,nm2,ps,by rw [hrow]; rfl,hsrc,csx (fun k1=>csplit (fun w=>ap_err (hE.trans (if_pos ⟨k1,by simpa using w⟩)) (by decide)) (fun w=>(fun e6:¬ (k=1∧atB ps t=false)=>?_) (fun z=>by rw [z.2] at w; cases w))) (fun k1=>(fun e6:¬ (k=1∧atB ps t=false)=>?_) (fun z=>k1 z.1))⟩
  all_goals
   rw [if_neg e6] at hE
   refine csplit (fun _=>cd1 (by omega) ⟨k2,by rw [hrow]; rfl,csx (fun w7=>ap_err (hE.trans (if_pos (.inl ⟨q4,w7⟩))) (by decide)) (fun w7=>csplit (fun wb=>csplit (fun wc=>ap_err (hE.trans (if_pos (.inr ⟨wb,wc⟩))) (by decide)) (fun wc=>(fun e7:¬ ((stH l n=true∧k2≠k)∨(atB ps t=true∧pC (atR ps t)=true))=>?_) (fun z=>z.elim (fun y=>w7 y.2) (fun y=>by rw [wc] at y; cases y.2)))) (fun wb=>(fun e7:¬ ((stH l n=true∧k2≠k)∨(atB ps t=true∧pC (atR ps t)=true))=>?_) (fun z=>z.elim (fun y=>w7 y.2) (fun y=>by rw [wb] at y; cases y.1))))⟩) (fun z=>absurd (q4.symm.trans z) (by decide))
  all_goals
   rw [if_neg e7] at hE
   refine csx (fun z1=>⟨trivial,csplit (fun zn=>ap_err (hE.trans (if_pos ⟨z1,by simpa using zn⟩)) (by decide)) (fun zn=>(fun e9:¬ (k≠1∧isN f a b c=false)=>?_) (fun y=>by rw [y.2] at zn; cases zn))⟩) (fun z1=>(fun e9:¬ (k≠1∧isN f a b c=false)=>?_) (fun y=>z1 y.1))
  all_goals
   rw [if_neg e9] at hE
   exact csx (fun y=>⟨⟨hr,hb,hl⟩,ap_ok hE (by rw [hX,if_pos y]) (by rw [hX,if_pos y]) (by rw [hX,if_pos y]) (by rw [hX,if_pos y]) rfl⟩) (fun y=>⟨⟨hr,hb,hl⟩,ap_ok hE (by rw [hX,if_neg y]) (by rw [hX,if_neg y]) (by rw [hX,if_neg y]) (by rw [hX,if_neg y]) rfl⟩)
 ·have hI:apI l n t=false:=by unfold apI; rw [q4]; rfl
  have hA:apP l n t=pzR:=by unfold apP; rw [if_neg (by rw [q4]; decide)]
  have hX:∀ (i:Nat) (x:Int),apX i l k n t x=if k=1 then pI i pzR else x:=fun i x=>by unfold apX; rw [hA]
  rw [hI,hA] at hE
  rw [hA]
  refine csx (fun k1=>ap_err (hE.trans (if_pos ⟨k1,rfl⟩)) (by decide)) (fun k1=>csplit (fun z=>absurd (q4.symm.trans z) (by decide)) (fun _=>csx (fun _=>⟨trivial,?_⟩) (fun z=>absurd k1 z)))
  rw [if_neg (fun z=>k1 z.1),if_neg (fun z=>z.elim (fun w=>by rw [q4] at w; cases w.1) (fun w=>by cases w.1))] at hE
  refine csplit (fun zn=>ap_err (hE.trans (if_pos ⟨k1,by simpa using zn⟩)) (by decide)) (fun zn=>csx (fun y=>absurd y k1) (fun y=>⟨⟨hr,rdsP_nil,hl⟩,ap_ok (hE.trans (if_neg (fun w=>by rw [w.2] at zn; cases zn))) (by rw [hX,if_neg y]) (by rw [hX,if_neg y]) (by rw [hX,if_neg y]) (by rw [hX,if_neg y]) rfl⟩))
def gApply_S (rgV:LLR→Int) (stN:LLR→ByteArray→Nat) (stH:LLR→ByteArray→Bool) (pI:Nat→List AV→Int) (pC:List AV→Bool) (pB:List AV→LLR) (atR:LLR→Int→List AV) (atB:LLR→Int→Bool) (exK:Int→Bool) (vdE:LLR→Int) (isN:Int→Int→Int→Int→Bool) (unb:LLR→LLR→LLR) (zI:Int→Int→Int) (zN:Int→ByteArray→ByteArray) (zS:Int→LLR→LLR) (apE:LLR→Int→ByteArray→Int→Int→Int→Int→Int→LLR→Int) (apX:Nat→LLR→Int→ByteArray→Int→Int→Int) (apP:LLR→ByteArray→Int→List AV) (p1R:List AV→Bool) (p2R:List AV→Bool) (p3R:List AV→Bool) (p4R:List AV→Bool) (p5R:List AV→Bool) (pdN:LLR→Int→Nat) (pdH:LLR→Int→Bool) (nrm:Int→Int→Int→Int→Int × Int × Int × Int) (vld:Int→Int→Int→Int→Bool) (fdV:LLR→Int→Int) (fdB:LLR→Int→Bool):Prop:=∀ (g h:Bool) (l rd:List (List AV)) (k t f a b c:Int) (n:ByteArray),StsP l∧RdsP rd∧rd.length≤1000→fnK Tryz.prog { glob:=glb,spec:=lk [(28,(gvalidR_s rgV p1R p2R p3R p4R p5R)),(45,(gexists_s exK)),(46,(evalid_s vdE)),(47,(gstation_s stN stH)),(48,(gat_s pdN pdH pI pC pB atR atB)),(49,(gnormalP_s nrm vld isN)),(50,(gunb_s fdV fdB unb vdE))],specH:=lk [],shape:=[43,66],slz:=[(43,[7])],nowf:=true } { nt:=103,drop:=drp [(1,12288),(2,16384),(3,196608),(4,1835008),(5,4194304),(6,58720256),(7,67108864),(8,805306368),(10,136365211648),(13,562675075514368),(14,142989288169013248),(15,144115188075855872),(16,302230878442904990253056),(17,302231454903657293676544),(18,617761093823075508274855936),(19,618970019642690137449562112),(20,3713820117856140824697372672),(21,69324642199981295394350956544),(22,4991374238398653268393268871168),(23,5070602400912917605986812821504)],emp:=fun id=>cond (Nat.beq id 22) [(1000806,1500,76,2)] [] } (fun _ _=>none) 6 Tryz.f16 [.agg [.sl 3 g l],.agg [.int .i64 k,.str n,.int .i64 t,.int .i64 f,.int .i64 a,.int .i64 b,.int .i64 c,.sl 2 h rd]] (.tup [.agg [.int .i64 (zI (apE l k n t f a b c rd) k),.str (zN (apE l k n t f a b c rd) n),.int .i64 (zI (apE l k n t f a b c rd) t),.int .i64 (zI (apE l k n t f a b c rd) (apX 2 l k n t f)),.int .i64 (zI (apE l k n t f a b c rd) (apX 3 l k n t a)),.int .i64 (zI (apE l k n t f a b c rd) (apX 4 l k n t b)),.int .i64 (zI (apE l k n t f a b c rd) (apX 5 l k n t c)),.sl 2 false (zS (apE l k n t f a b c rd) (unb rd (pB (apP l n t))))],.int .i64 (apE l k n t f a b c rd)])
theorem gApply_e (rgV:LLR→Int) (stN:LLR→ByteArray→Nat) (stH:LLR→ByteArray→Bool) (pI:Nat→List AV→Int) (pC:List AV→Bool) (pB:List AV→LLR) (atR:LLR→Int→List AV) (atB:LLR→Int→Bool) (exK:Int→Bool) (vdE:LLR→Int) (isN:Int→Int→Int→Int→Bool) (unb:LLR→LLR→LLR) (zI:Int→Int→Int) (zN:Int→ByteArray→ByteArray) (zS:Int→LLR→LLR) (apE:LLR→Int→ByteArray→Int→Int→Int→Int→Int→LLR→Int) (apX:Nat→LLR→Int→ByteArray→Int→Int→Int) (apP:LLR→ByteArray→Int→List AV) (p1R:List AV→Bool) (p2R:List AV→Bool) (p3R:List AV→Bool) (p4R:List AV→Bool) (p5R:List AV→Bool) (pdN:LLR→Int→Nat) (pdH:LLR→Int→Bool) (nrm:Int→Int→Int→Int→Int × Int × Int × Int) (vld:Int→Int→Int→Int→Bool) (fdV:LLR→Int→Int) (fdB:LLR→Int→Bool):gApply_T rgV stN stH pI pC pB atR atB exK vdE isN unb zI zN zS apE apX apP p1R p2R p3R p4R p5R pdN pdH nrm vld fdV fdB=gApply_S rgV stN stH pI pC pB atR atB exK vdE isN unb zI zN zS apE apX apP p1R p2R p3R p4R p5R pdN pdH nrm vld fdV fdB:=by kernel_rfl
theorem gApply_v:gApply_S rgV stN stH pI pC pB atR atB exK vdE isN unb zI zN zS apE apX apP p1R p2R p3R p4R p5R pdN pdH nrm vld fdV fdB:=Eq.mp (gApply_e ..) (gApply_P)
theorem gApply_ok:SOK Tryz.prog glb 16 (gApply_s rgV stN stH pI pC pB atR atB exK vdE isN unb zI zN zS apE apX apP):=by
 refine ⟨fok Tryz.func16 (by kernel_rfl) (by kernel_rfl),?_⟩
 intro xs pre r h hp
 unfold gApply_s at h
 split at h
 ·simp only [Option.some.injEq,Prod.mk.injEq] at h
  obtain ⟨h1,h2⟩:=h
  subst h1 h2
  exact fnK_sound tyNil (by exact specOK rfl rfl ⟨(gvalidR_ok),(gexists_ok glb),(evalid_ok),(gstation_ok glb),(gat_ok glb),(gnormalP_ok),(gunb_ok),trivial⟩ trivial) (by kernel_rfl) Tryz.func16 rfl (gApply_v  _ _ _ _ _ _ _ _ _ _ _ hp)
 ·cases h
end Go.Proofs.YtldiagnbagpliaaGreatDoor
namespace Go.Proofs.YtldiagnbagpliaaGreatDoor
open Go
set_option linter.unusedVariables false
set_option linter.unusedSimpArgs false
def cloRd_s:Sp
 | [.sl 2 f xs]=>some (xs.length≤1000,.sl 2 false xs)
 | _=>none
def cloRd_T:Prop :=
 ∀ (gl:Glob) (f:Bool) (xs:List (List AV)),xs.length≤(1000:Nat)→True→(xs=[]→xs=[])∧bif decide ((0:Nat)=0∧(0:Nat)+xs.length≤(9223372036854775807:Nat)∧((0:Nat)+xs.length)*(16:Nat)≤(140737488355328:Nat)) then bif decide (([]++xs).length=([]++xs).length) then True∧[]++xs=xs else False else False
theorem cloRd_P:cloRd_T:=by
 unfold cloRd_T
 intro gl f xs hl _
 exact ⟨id,cd1 ⟨rfl,by omega,by omega⟩ (cd1 rfl ⟨trivial,rfl⟩)⟩
def cloRd_S:Prop:=∀ (gl:Glob) (f:Bool) (xs:List (List AV)),xs.length≤1000→fnK Tryz.prog { glob:=gl,spec:=lk [],specH:=lk [],nowf:=true,nq:=true } { nt:=8,drop:=drp [(1,8),(3,224)] } (fun _ _=>none) 6 Tryz.f59 [.sl 2 f xs] (.sl 2 false xs)
theorem cloRd_e:cloRd_T=cloRd_S:=by kernel_rfl
theorem cloRd_v:cloRd_S:=Eq.mp (cloRd_e ..) (cloRd_P)
theorem cloRd_ok (gl:Glob):SOK Tryz.prog gl 59 cloRd_s:=by
 refine ⟨fok Tryz.func59 (by kernel_rfl) (by kernel_rfl),?_⟩
 intro xs pre r h hp
 unfold cloRd_s at h
 split at h
 ·simp only [Option.some.injEq,Prod.mk.injEq] at h
  obtain ⟨h1,h2⟩:=h
  subst h1 h2
  exact fnK_sound tyNil (by exact specOK rfl rfl trivial trivial) (by kernel_rfl) Tryz.func59 rfl (cloRd_v gl _ _ hp)
 ·cases h
def cloSt_s:SpH
 | [.sl 3 f xs],[]=>some (xs.length≤1000000,.rw 0 3 xs.length,[.row 59 3 xs])
 | _,_=>none
def cloSt_T:Prop :=
 ∀ (gl:Glob) (f:Bool) (xs:List (List AV)),xs.length≤(1000000:Nat)→True→(xs=[]→(0:Nat)=xs.length∧[]=xs∧True)∧bif decide ((0:Nat)=0∧(0:Nat)+xs.length≤(9223372036854775807:Nat)∧((0:Nat)+xs.length)*(48:Nat)≤(140737488355328:Nat)) then ([]++xs).length=xs.length∧[]++xs=xs∧True else False
theorem cloSt_P:cloSt_T:=by
 unfold cloSt_T
 intro gl f xs hl
 intros
 exact ⟨fun e=>by subst e; exact ⟨rfl,rfl,trivial⟩,cd1 ⟨rfl,by omega,by omega⟩ ⟨rfl,rfl,trivial⟩⟩
def cloSt_S:Prop:=∀ (gl:Glob) (f:Bool) (xs:List (List AV)),xs.length≤1000000→fnH Tryz.prog { glob:=gl,spec:=lk [],specH:=lk [],nowf:=true,nq:=true } { nt:=8,drop:=drp [(1,8),(3,224)],fr:=1000,kp:=[],emp:=fun id=>cond (Nat.beq id 900001) [(2,1500,59,3)] [],own:=true } (fun _ _=>none) 6 Tryz.f97 [.sl 3 f xs] [] (.rw 0 3 xs.length) [.row 59 3 xs]
theorem cloSt_e:cloSt_T=cloSt_S:=by kernel_rfl
theorem cloSt_v:cloSt_S:=Eq.mp (cloSt_e ..) (cloSt_P)
theorem cloSt_ok (gl:Glob):HOK Tryz.prog gl 97 cloSt_s:=by
 refine ⟨fok Tryz.func97 (by kernel_rfl) (by kernel_rfl),?_⟩
 intro xs bs pre r bs2 h hp
 unfold cloSt_s at h
 split at h
 ·simp only [Option.some.injEq,Prod.mk.injEq] at h
  obtain ⟨h1,h2,h3⟩:=h
  subst h1 h2 h3
  exact fnH_sound tyNil (by exact specOK rfl rfl trivial trivial) (by kernel_rfl) Tryz.func97 (cloSt_v gl _ _ hp)
 ·cases h
def cloPd_s:SpH
 | [.sl 7 f xs],[]=>some (xs.length≤1000000,.rw 0 7 xs.length,[.row 49 7 xs])
 | _,_=>none
def cloPd_T:Prop :=
 ∀ (gl:Glob) (f:Bool) (xs:List (List AV)),xs.length≤(1000000:Nat)→True→(xs=[]→(0:Nat)=xs.length∧[]=xs∧True)∧bif decide ((0:Nat)=0∧(0:Nat)+xs.length≤(9223372036854775807:Nat)∧((0:Nat)+xs.length)*(72:Nat)≤(140737488355328:Nat)) then ([]++xs).length=xs.length∧[]++xs=xs∧True else False
theorem cloPd_P:cloPd_T:=by
 unfold cloPd_T
 intro gl f xs hl
 intros
 exact ⟨fun e=>by subst e; exact ⟨rfl,rfl,trivial⟩,cd1 ⟨rfl,by omega,by omega⟩ ⟨rfl,rfl,trivial⟩⟩
def cloPd_S:Prop:=∀ (gl:Glob) (f:Bool) (xs:List (List AV)),xs.length≤1000000→fnH Tryz.prog { glob:=gl,spec:=lk [],specH:=lk [],nowf:=true,nq:=true } { nt:=8,drop:=drp [(1,8),(3,224)],fr:=1000,kp:=[],emp:=fun id=>cond (Nat.beq id 900001) [(2,1500,49,7)] [],own:=true } (fun _ _=>none) 6 Tryz.f98 [.sl 7 f xs] [] (.rw 0 7 xs.length) [.row 49 7 xs]
theorem cloPd_e:cloPd_T=cloPd_S:=by kernel_rfl
theorem cloPd_v:cloPd_S:=Eq.mp (cloPd_e ..) (cloPd_P)
theorem cloPd_ok (gl:Glob):HOK Tryz.prog gl 98 cloPd_s:=by
 refine ⟨fok Tryz.func98 (by kernel_rfl) (by kernel_rfl),?_⟩
 intro xs bs pre r bs2 h hp
 unfold cloPd_s at h
 split at h
 ·simp only [Option.some.injEq,Prod.mk.injEq] at h
  obtain ⟨h1,h2,h3⟩:=h
  subst h1 h2 h3
  exact fnH_sound tyNil (by exact specOK rfl rfl trivial trivial) (by kernel_rfl) Tryz.func98 (cloPd_v gl _ _ hp)
 ·cases h
def hoP (l:LLR) (i:Nat):LLR:=sPs (l.getD i [])
def hol (l:LLR) (i b:Nat):LLR:=setEl l i 2 [.rw b 7 (hoP l i).length]
def hpl (l:LLR) (i:Nat) (x:Int) (b:Nat):LLR:=if (i:Int) < x then hol l i b else l
def hpP (l:LLR) (i:Nat) (x:Int):LLR:=if (i:Int) < x then hoP l i else []
theorem mapLL_setEl (f:AV→AV) (xs:LLR) (j fo:Nat) (ys:List AV):mapLL f (setEl xs j fo ys)=setEl (mapLL f xs) j fo (ys.map f):=by
 unfold mapLL setEl
 rw [List.map_set]
 congr 1
 unfold spl
 rw [List.map_append,List.map_append,List.map_take,List.map_drop,List.length_map]
 have:(xs.map fun x=>x.map f).getD j []=(xs.getD j []).map f:=by
  simp only [List.getD_eq_getElem?_getD,List.getElem?_map]
  cases xs[j]? <;> rfl
 rw [this]
theorem setEl_len (xs:LLR) (j fo:Nat) (ys:List AV):(setEl xs j fo ys).length=xs.length:=by simp [setEl]
theorem setEl_get (xs:LLR) (j fo:Nat) (ys:List AV) (i:Nat):(setEl xs j fo ys).getD i []=if i=j∧j < xs.length then spl (xs.getD j []) fo ys else xs.getD i []:=by
 unfold setEl
 simp only [List.getD_eq_getElem?_getD,List.getElem?_set]
 by_cases e:j=i
 ·subst e
  by_cases h:j < xs.length
  ·rw [if_pos rfl,if_pos h,if_pos ⟨rfl,h⟩]; rfl
  ·rw [if_pos rfl,if_neg h,if_neg (fun q=>h q.2),List.getElem?_eq_none (by omega)]
 ·rw [if_neg e,if_neg (fun q=>e q.1.symm)]
theorem ll_ext {a b:LLR} (hl:a.length=b.length) (h:∀ i,i < a.length→a.getD i []=b.getD i []):a=b:=by
 refine List.ext_getElem hl fun i h1 h2=>?_
 have:=h i h1
 rw [List.getD_eq_getElem?_getD,List.getD_eq_getElem?_getD,List.getElem?_eq_getElem h1,List.getElem?_eq_getElem h2] at this
 exact this
structure Flat (f:AV→AV):Prop where
 fi:∀ k n,f (.int k n)=.int k n
 fb:∀ b,f (.bool b)=.bool b
 fs:∀ s,f (.str s)=.str s
 fl:∀ s g xs,f (.sl s g xs)=.sl s g xs
theorem flat_kill (k:Nat):Flat (killA k):=⟨fun _ _=>rfl,fun _=>rfl,fun _=>rfl,fun _ _ _=>rfl⟩
theorem flat_frs (k s:Nat) (xs:LLR):Flat (frsA k s xs):=⟨fun _ _=>rfl,fun _=>rfl,fun _=>rfl,fun _ _ _=>rfl⟩
theorem flat_ren (j k:Nat):Flat (renA j k):=⟨fun _ _=>rfl,fun _=>rfl,fun _=>rfl,fun _ _ _=>rfl⟩
theorem flat_rn (f:Nat→Option Nat):Flat (rnT f):=⟨fun _ _=>rfl,fun _=>rfl,fun _=>rfl,fun _ _ _=>rfl⟩
theorem mapLL_get (f:AV→AV) (xs:LLR) (i:Nat):(mapLL f xs).getD i []=(xs.getD i []).map f:=by
 unfold mapLL
 simp only [List.getD_eq_getElem?_getD,List.getElem?_map]
 cases xs[i]? <;> rfl
theorem Flat.st {f:AV→AV} (hf:Flat f) {l:LLR} (hl:StsP l):mapLL f l=l:=by
 refine ll_ext (mapLL_len f l) fun i hi=>?_
 rw [mapLL_len] at hi
 obtain ⟨k,nm,ps,hr,_⟩:=hl.fr i hi
 rw [mapLL_get,hr]
 simp only [stA,List.map_cons,List.map_nil,hf.fi,hf.fs,hf.fl]
theorem Flat.hol {f:AV→AV} (hf:Flat f) {l:LLR} (hl:StsP l) {i b c:Nat} (hb:f (.rw b 7 (hoP l i).length)=.rw c 7 (hoP l i).length):mapLL f (hol l i b)=Go.Proofs.YtldiagnbagpliaaGreatDoor.hol l i c:=by
 unfold Go.Proofs.YtldiagnbagpliaaGreatDoor.hol
 rw [mapLL_setEl,hf.st hl,List.map_cons,List.map_nil,hb]
theorem st_nm {l:LLR} (hl:StsP l):NmIn [] l:=by
 intro j i x y hx hy k hk
 have hj:j < l.length:=(List.getElem?_eq_some_iff.1 hx).1
 obtain ⟨kd,nm,ps,hr,_⟩:=hl.fr j hj
 have e:x=stA kd nm ps:=by
  rw [← hr,List.getD_eq_getElem?_getD,hx]; rfl
 subst e
 have hi:i < 3:=by have:=(List.getElem?_eq_some_iff.1 hy).1; simpa [stA] using this
 rcases i with _ | _ | _ | i
 ·simp [stA] at hy; subst hy; cases hk
 ·simp [stA] at hy; subst hy; cases hk
 ·simp [stA] at hy; subst hy; cases hk
 ·omega
theorem setEl_same {l:LLR} {x fo:Nat} {ys:List AV} (h:spl (l.getD x []) fo ys=l.getD x []):setEl l x fo ys=l:=by
 refine ll_ext (setEl_len _ _ _ _) fun i hi=>?_
 rw [setEl_get]
 split
 ·rename_i q; rw [q.1]; exact h
 ·rfl
theorem setEl_out {l:LLR} {x fo:Nat} {ys:List AV} (h:l.length≤x):setEl l x fo ys=l:=by
 refine ll_ext (setEl_len _ _ _ _) fun i hi=>?_
 rw [setEl_get,if_neg (fun q=>by omega)]
theorem setEl_at {l:LLR} {x:Nat} {a b c v:AV} (hx:x < l.length) (h:l.getD x []=[a,b,c]):(setEl l x 2 [v]).getD x []=[a,b,v]:=by
 rw [setEl_get,if_pos ⟨rfl,hx⟩,h]; rfl
theorem hol_len (l:LLR) (i b:Nat):(hol l i b).length=l.length:=setEl_len _ _ _ _
theorem hpl_len (l:LLR) (i:Nat) (x:Int) (b:Nat):(hpl l i x b).length=l.length:=by
 unfold hpl; split
 ·exact hol_len _ _ _
 ·rfl
theorem hpl_at {l:LLR} {i:Nat} {x:Int} {b j:Nat} (h:x≤j):(hpl l i x b).getD j []=l.getD j []:=by
 unfold hpl hol; split
 ·rw [setEl_get,if_neg (fun q=>by omega)]
 ·rfl
theorem Flat.hpl {f:AV→AV} (hf:Flat f) {l:LLR} (hl:StsP l) {i:Nat} {x:Int} {b:Nat} (hb:f (.rw b 7 (hoP l i).length)=.rw b 7 (hoP l i).length):mapLL f (hpl l i x b)=Go.Proofs.YtldiagnbagpliaaGreatDoor.hpl l i x b:=by
 unfold Go.Proofs.YtldiagnbagpliaaGreatDoor.hpl; split
 ·exact hf.hol hl hb
 ·exact hf.st hl
theorem hpl_here {l:LLR} (hl:StsP l) (i:Nat):mapLL (renA 1026 1501) (mapLL (killA 1501) (setEl (hpl l i i 1501) i 2 [.rw 1026 7 (hoP l i).length]))=hpl l i (i+1) 1501:=by
 have e1:hpl l i i 1501=l:=if_neg (by omega)
 have e2:hpl l i (i+1) 1501=hol l i 1501:=if_pos (by omega)
 rw [e1,e2]
 show mapLL (renA 1026 1501) (mapLL (killA 1501) (hol l i 1026))=_
 rw [(flat_kill 1501).hol hl (c:=1026) rfl,(flat_ren 1026 1501).hol hl (c:=1501) rfl]
theorem hpl_else {l:LLR} (hl:StsP l) {i:Nat} {x:Int} (h0:0≤x) (hx:x < l.length) (hn:¬ x=i):mapLL (frsA 1026 7 (hoP l x.toNat)) (setEl (hpl l i x 1501) x.toNat 2 [.rw 1026 7 (hoP l x.toNat).length])=hpl l i (x+1) 1501:=by
 have e1:hpl l i (x+1) 1501=hpl l i x 1501:=by
  unfold hpl
  by_cases q:(i:Int) < x
  ·rw [if_pos q,if_pos (by omega)]
  ·rw [if_neg q,if_neg (by omega)]
 rw [e1,mapLL_setEl,(flat_frs _ _ _).hpl hl rfl]
 refine setEl_same ?_
 rw [hpl_at (by omega)]
 obtain ⟨k,nm,ps,hr,_⟩:=hl.fr x.toNat (by omega)
 have hP:hoP l x.toNat=ps:=by unfold hoP; rw [hr]; rfl
 rw [hP,hr]
 have e2:frsA 1026 7 ps (.rw 1026 7 ps.length)=.sl 7 false ps:=by
  simp only [frsA,if_true,true_and]
 rw [List.map_cons,List.map_nil,e2]
 rfl
theorem hpl_end {l:LLR} (hl:StsP l) {i:Nat} {x:Int} (hx:¬ x < l.length):mapLL (rnT (rnP [1501] [1])) (hpl l i x 1501)=hol l i 1∧hpP l i x=hoP l i:=by
 unfold hpl hpP
 by_cases q:(i:Int) < x
 ·rw [if_pos q,if_pos q]
  exact ⟨(flat_rn _).hol hl rfl,rfl⟩
 ·rw [if_neg q,if_neg q]
  refine ⟨?_,?_⟩
  ·rw [(flat_rn _).st hl]
   exact (setEl_out (by omega)).symm
  ·unfold hoP
   rw [List.getD_eq_getElem?_getD,List.getElem?_eq_none (by omega)]; rfl
structure CoI (l:LLR) (x:Int):Prop where
 flo:0≤x
 fhi:x≤l.length
def co3 (l:LLR) (g:Bool) (i:Nat):LInv:=⟨Int,fun x=>⟨[(1,.ptr 1001 0),(2,.ptr 1002 0),(3,.ptr 1003 0),(13,.int .i64 l.length),(14,.int .i64 x)],[(1001,.cells [.sl 3 g l]),(1002,.cells [.nils]),(1003,.cells [.rw 1009 3 l.length]),(1009,.nrow 59 3 [1501] (hpl l i x 1501)),(1501,.row 49 7 (hpP l i x))]⟩,CoI l,fun x=>(l.length - x).toNat,none⟩
def co8 (l:LLR) (g:Bool) (i:Nat) (x:Int):LInv:=⟨Int,fun k=>⟨[(1,.ptr 1001 0),(2,.ptr 1002 0),(3,.ptr 1003 0),(5,.prw 1009 3 l.length x.toNat 0),(13,.int .i64 l.length),(14,.int .i64 x),(33,.int .i64 (hoP l x.toNat).length),(34,.int .i64 k)],[(1001,.cells [.sl 3 g l]),(1002,.cells [.nils]),(1003,.cells [.rw 1009 3 l.length]),(1009,.nrow 59 3 [1501,1026] (setEl (hpl l i x 1501) x.toNat 2 [.rw 1026 7 (hoP l x.toNat).length])),(1026,.row 49 7 (hoP l x.toNat)),(1501,.row 49 7 (hpP l i x))]⟩,CoI (hoP l x.toNat),fun k=>((hoP l x.toNat).length - k).toNat,none⟩
section
variable (i:Nat)
def gcop_s (i:Nat):SpH
 | [.agg [.sl 3 g l]],[]=>some (StsP l,.agg [.rw 0 3 l.length],[.nrow 59 3 [1] (hol l i 1),.row 49 7 (hoP l i)])
 | _,_=>none
def gcop_T (i:Nat):Prop :=
  ∀ (gl:Glob) (g:Bool) (l:List (List AV)),StsP l→True∧True→l.length≤(1000000:Nat)∧(∀ (j i:Nat) (x:List AV) (y:AV),l[j]?=some x→x[i]?=some y→∀ (k:Nat),nn k y=false→inL k []=true)∧(∃ x,CoI l x∧((0:Nat)=0∧(0:Nat)=0∧(0:Nat)=0∧(↑l.length:Int)=(↑l.length:Int)∧(0:Int)=x∧True)∧(((bif g then g=true else True)∧l=l)∧True)∧(True∧True)∧(l.length=l.length∧True)∧l=hpl l i x (1501:Nat)∧[]=hpP l i
 x∧True)∧∀ (x:Int),CoI l x→bif decide (x < (↑l.length:Int)) then bif decide (0≤x∧x < (↑l.length:Int)) then bif decide (l.length=List.length (hpl l i x (1501:Nat))∧x.toNat < List.length (hpl l i x (1501:Nat))) then ∃ xs,List.take [AV.sl (7:Nat) false xs].length (List.drop (2:Nat) (List.getD (hpl l i x (1501:Nat)) x.toNat []))=[AV.sl (7:Nat) false xs]∧xs.length≤(1000000:Nat)∧bif decide
 (l.length=List.length (hpl l i x (1501:Nat))∧x.toNat < List.length (hpl l i x (1501:Nat))) then bif decide (l.length=(setEl (hpl l i x (1501:Nat)) x.toNat (2:Nat) [AV.rw (1026:Nat) (7:Nat) xs.length]).length∧x.toNat < (setEl (hpl l i x (1501:Nat)) x.toNat (2:Nat) [AV.rw (1026:Nat) (7:Nat) xs.length]).length) then ∃ n,List.take [AV.rw (1026:Nat) (7:Nat) n].length (List.drop (2:Nat) ((setEl (hpl l i
 x (1501:Nat)) x.toNat (2:Nat) [AV.rw (1026:Nat) (7:Nat) xs.length]).getD x.toNat []))=[AV.rw (1026:Nat) (7:Nat) n]∧(∃ x_1,CoI (hoP l x.toNat) x_1∧((0:Nat)=0∧(0:Nat)=0∧(0:Nat)=0∧(l.length=l.length∧x.toNat=x.toNat∧(0:Nat)=0)∧(↑l.length:Int)=(↑l.length:Int)∧x=x∧(↑n:Int)=(↑(List.length (hoP l x.toNat)):Int)∧(0:Int)=x_1∧True)∧(((bif g then g=true else
 True)∧l=l)∧True)∧(True∧True)∧(l.length=l.length∧True)∧setEl (hpl l i x (1501:Nat)) x.toNat (2:Nat) [AV.rw (1026:Nat) (7:Nat) xs.length]=setEl (hpl l i x (1501:Nat)) x.toNat (2:Nat) [AV.rw (1026:Nat) (7:Nat) (List.length (hoP l x.toNat))]∧xs=hoP l x.toNat∧hpP l i x=hpP l i x∧True)∧∀ (x_1:Int),CoI (hoP l x.toNat) x_1→bif decide (x_1 < (↑(List.length (hoP l x.toNat)):Int)) then bif decide
 (l.length=(setEl (hpl l i x (1501:Nat)) x.toNat (2:Nat) [AV.rw (1026:Nat) (7:Nat) (List.length (hoP l x.toNat))]).length∧x.toNat < (setEl (hpl l i x (1501:Nat)) x.toNat (2:Nat) [AV.rw (1026:Nat) (7:Nat) (List.length (hoP l x.toNat))]).length) then ∃ n,List.take [AV.rw (1026:Nat) (7:Nat) n].length (List.drop (2:Nat) ((setEl (hpl l i x (1501:Nat)) x.toNat (2:Nat) [AV.rw (1026:Nat) (7:Nat)
 (List.length (hoP l x.toNat))]).getD x.toNat []))=[AV.rw (1026:Nat) (7:Nat) n]∧bif decide (l.length=(setEl (hpl l i x (1501:Nat)) x.toNat (2:Nat) [AV.rw (1026:Nat) (7:Nat) (List.length (hoP l x.toNat))]).length∧x.toNat < (setEl (hpl l i x (1501:Nat)) x.toNat (2:Nat) [AV.rw (1026:Nat) (7:Nat) (List.length (hoP l x.toNat))]).length) then ∃ n_1,List.take [AV.rw (1026:Nat) (7:Nat) n_1].length
 (List.drop (2:Nat) ((setEl (hpl l i x (1501:Nat)) x.toNat (2:Nat) [AV.rw (1026:Nat) (7:Nat) (List.length (hoP l x.toNat))]).getD x.toNat []))=[AV.rw (1026:Nat) (7:Nat) n_1]∧bif decide (0≤x_1∧x_1 < (↑n_1:Int)) then bif decide (n_1=List.length (hoP l x.toNat)∧x_1.toNat < List.length (hoP l x.toNat)) then ∃ xs,List.take [AV.sl (2:Nat) false xs].length (List.drop (6:Nat) (List.getD (hoP l
 x.toNat) x_1.toNat []))=[AV.sl (2:Nat) false xs]∧xs.length≤(1000:Nat)∧bif decide (0≤x_1∧x_1 < (↑n:Int)) then bif decide (n=List.length (hoP l x.toNat)∧x_1.toNat < List.length (hoP l x.toNat)) then bif decide (rng .i64 (x_1+(1:Int))) then ∃ y,CoI (hoP l x.toNat) y∧((fun x=>co8 l g i x) x).m y < ((fun x=>co8 l g i x) x).m
 x_1∧((0:Nat)=0∧(0:Nat)=0∧(0:Nat)=0∧(l.length=l.length∧x.toNat=x.toNat∧(0:Nat)=0)∧(↑l.length:Int)=(↑l.length:Int)∧x=x∧(↑(List.length (hoP l x.toNat)):Int)=(↑(List.length (hoP l x.toNat)):Int)∧x_1+(1:Int)=y∧True)∧(((bif g then g=true else True)∧l=l)∧True)∧(True∧True)∧(l.length=l.length∧True)∧setEl (hpl l i x (1501:Nat)) x.toNat (2:Nat) [AV.rw (1026:Nat) (7:Nat) (List.length (hoP l x.toNat))]=setEl
 (hpl l i x (1501:Nat)) x.toNat (2:Nat) [AV.rw (1026:Nat) (7:Nat) (List.length (hoP l x.toNat))]∧setEl (hoP l x.toNat) x_1.toNat (6:Nat) [AV.sl (2:Nat) false xs]=hoP l x.toNat∧hpP l i x=hpP l i x∧True else False else False else False else False else False else False else False else (x=(↑i:Int)→bif decide (rng .i64 (x+(1:Int))) then ∃ y,CoI l y∧((fun x=>co3 l g i) (0:Int)).m y < ((fun x=>co3 l
 g i) (0:Int)).m x∧((0:Nat)=0∧(0:Nat)=0∧(0:Nat)=0∧(↑l.length:Int)=(↑l.length:Int)∧x+(1:Int)=y∧True)∧(((bif g then g=true else True)∧l=l)∧True)∧(True∧True)∧(l.length=l.length∧True)∧mapLL (renA (1026:Nat) (1501:Nat)) (mapLL (killA (1501:Nat)) (setEl (hpl l i x (1501:Nat)) x.toNat (2:Nat) [AV.rw (1026:Nat) (7:Nat) (List.length (hoP l x.toNat))]))=hpl l i y (1501:Nat)∧hoP l x.toNat=hpP l i y∧True else
 False)∧(¬x=(↑i:Int)→bif decide (rng .i64 (x+(1:Int))) then ∃ y,CoI l y∧((fun x=>co3 l g i) (0:Int)).m y < ((fun x=>co3 l g i) (0:Int)).m x∧((0:Nat)=0∧(0:Nat)=0∧(0:Nat)=0∧(↑l.length:Int)=(↑l.length:Int)∧x+(1:Int)=y∧True)∧(((bif g then g=true else True)∧l=l)∧True)∧(True∧True)∧(l.length=l.length∧True)∧mapLL (frsA (1026:Nat) (7:Nat) (hoP l x.toNat)) (setEl (hpl l i x (1501:Nat)) x.toNat (2:Nat)
 [AV.rw (1026:Nat) (7:Nat) (List.length (hoP l x.toNat))])=hpl l i y (1501:Nat)∧hpP l i x=hpP l i y∧True else False) else False else False else False else False else (l.length=l.length∧True)∧mapLL (rnT (rnP [(1501:Nat)] [(1:Nat)])) (hpl l i x (1501:Nat))=hol l i (1:Nat)∧hpP l i x=hoP l i∧True
theorem gcop_P:gcop_T i:=by
 unfold gcop_T
 intro gl g l hp _
 have bg:cond g (g=true) True:=by cases g <;> trivial
 have fs:=hp.fs
 refine ⟨fs,st_nm hp,⟨0,⟨by decide,by omega⟩,by (repeat' (first | exact trivial | exact rfl | assumption | apply And.intro)),by (repeat' (first | exact trivial | exact rfl | assumption | apply And.intro)),by (repeat' (first | exact trivial | exact rfl | assumption | apply And.intro)),by (repeat' (first | exact trivial | exact rfl | assumption | apply And.intro)),(if_neg (by omega)).symm,(if_neg (by omega)).symm,trivial⟩,?_⟩
 rintro x ⟨x0,x1⟩
 refine csx (fun hx=>?_) (fun hx=>?_)
 ·have hL:l.length=(hpl l i x 1501).length:=(hpl_len _ _ _ _).symm
  refine cd1 (by omega) (cd1 ⟨hL,by omega⟩ ?_)
  obtain ⟨k,nm,ps,hr,hps⟩:=hp.fr x.toNat (by omega)
  have hg:=(hpl_at (l:=l) (i:=i) (x:=x) (b:=1501) (j:=x.toNat) (by omega)).trans hr
  have hP:hoP l x.toNat=ps:=by unfold hoP; rw [hr]; rfl
  rw [hP]
  refine ⟨ps,by rw [hg]; rfl,hps.fs,cd1 ⟨hL,by omega⟩ (cd1 ⟨by rw [setEl_len]; exact hL,by rw [setEl_len]; omega⟩ ⟨ps.length,by rw [setEl_at (by omega) hg]; rfl,⟨0,⟨by decide,by omega⟩,by (repeat' (first | exact trivial | exact rfl | assumption | apply And.intro))⟩,?_⟩)⟩
  rintro y ⟨y0,y1⟩
  refine csx (fun hy=>cd1 ⟨by rw [setEl_len]; exact hL,by rw [setEl_len]; omega⟩ ⟨ps.length,by rw [setEl_at (by omega) hg]; rfl,cd1 ⟨by rw [setEl_len]; exact hL,by rw [setEl_len]; omega⟩ ⟨ps.length,by rw [setEl_at (by omega) hg]; rfl,cd1 (by omega) (cd1 ⟨rfl,by omega⟩ ?_)⟩⟩) (fun _=>⟨fun e=>?_,fun e=>?_⟩)
  ·obtain ⟨fr,cl,fa,a,b,c,bs,hq,hb,hbl⟩:=hps.fr y.toNat (by omega)
   exact ⟨bs,by rw [hq]; rfl,hbl,cd1 (by omega) (cd1 ⟨rfl,by omega⟩ (cdI (by have:=hps.fs; omega) ⟨y+1,⟨by omega,by omega⟩,by simp only [co8]; rw [hP]; omega,by (repeat' (first | exact trivial | exact rfl | assumption | apply And.intro)),by (repeat' (first | exact trivial | exact rfl | assumption | apply And.intro)),by (repeat' (first | exact trivial | exact rfl | assumption | apply And.intro)),by (repeat' (first | exact trivial | exact rfl | assumption | apply And.intro)),rfl,setEl_same (by rw [hq]; rfl),rfl,trivial⟩))⟩
  ·subst e
   have h9:=hpl_here hp i
   rw [show hoP l i=ps from hP] at h9
   exact cdI (by omega) ⟨(i:Int)+1,⟨by omega,by omega⟩,by simp only [co3]; omega,by (repeat' (first | exact trivial | exact rfl | assumption | apply And.intro)),by (repeat' (first | exact trivial | exact rfl | assumption | apply And.intro)),by (repeat' (first | exact trivial | exact rfl | assumption | apply And.intro)),by (repeat' (first | exact trivial | exact rfl | assumption | apply And.intro)),h9,((if_pos (by omega)).trans hP).symm,trivial⟩
  ·have h9:=hpl_else hp x0 hx e
   rw [hP] at h9
   refine cdI (by omega) ⟨x+1,⟨by omega,by omega⟩,by simp only [co3]; omega,by (repeat' (first | exact trivial | exact rfl | assumption | apply And.intro)),by (repeat' (first | exact trivial | exact rfl | assumption | apply And.intro)),by (repeat' (first | exact trivial | exact rfl | assumption | apply And.intro)),by (repeat' (first | exact trivial | exact rfl | assumption | apply And.intro)),h9,?_,trivial⟩
   unfold hpP
   by_cases q:(i:Int) < x
   ·rw [if_pos q,if_pos (by omega)]
   ·rw [if_neg q,if_neg (by omega)]
 ·have h9:=hpl_end hp (i:=i) (x:=x) (by omega)
  exact ⟨⟨rfl,trivial⟩,h9.1,h9.2,trivial⟩
def gcop_S (i:Nat):Prop:=∀ (gl:Glob) (g:Bool) (l:List (List AV)),StsP l→fnH Tryz.prog { glob:=gl,spec:=lk [(59,cloRd_s)],specH:=lk [(97,cloSt_s),(98,cloPd_s)],shape:=[25,32,40,45,49],slz:=[(25,[7]),(32,[1026007]),(40,[1026007]),(45,[1026007]),(49,[2])],nowf:=true } { nt:=56,drop:=drp [(1,1920),(2,6144),(4,65536),(5,1966080),(6,534773760),(7,8053063680),(9,68719476736),(10,9007061815787520),(11,9007199254740992),(12,18014398509481984),(13,36028797018963968)],fr:=1000,kp:=[],own:=true,act:=fun id=>cond (Nat.beq id 2) [.nop 1009,.mk 1501 49 7] [],cas:=fun id st=>cond (Nat.beq id 12) (match st.get 14 with | .int _ n=>some (n=i,[.kil 1501,.ren 1026 1501],[.frz 1026]) | _=>none) none } (invsN [(3,14,fun _=>co3 l g i),(8,14,fun x=>co8 l g i x)]) 6 Tryz.f58 [.agg [.sl 3 g l]] [] (.agg [.rw 0 3 l.length]) [.nrow 59 3 [1] (hol l i 1),.row 49 7 (hoP l i)]
theorem gcop_e (i:Nat):gcop_T i=gcop_S i:=by kernel_rfl
theorem gcop_v:gcop_S i:=Eq.mp (gcop_e ..) (gcop_P i)
theorem gcop_ok (gl:Glob):HOK Tryz.prog gl 58 (gcop_s i):=by
 refine ⟨fok Tryz.func58 (by kernel_rfl) (by kernel_rfl),?_⟩
 intro xs bs pre r bs2 h hp
 unfold gcop_s at h
 split at h
 ·simp only [Option.some.injEq,Prod.mk.injEq] at h
  obtain ⟨h1,h2,h3⟩:=h
  subst h1 h2 h3
  exact fnH_sound tyNil (by exact specOK rfl rfl ⟨(cloRd_ok gl),trivial⟩ ⟨(cloSt_ok gl),(cloPd_ok gl),trivial⟩) (by kernel_rfl) Tryz.func58 (gcop_v i gl _ _ hp)
 ·cases h
end
end Go.Proofs.YtldiagnbagpliaaGreatDoor
namespace Go.Proofs.YtldiagnbagpliaaGreatDoor
open Go
open Go.RowKit (Below)
set_option linter.unusedVariables false
set_option linter.unusedSimpArgs false
theorem borrow_core {P:Program} {gl:Glob} {f:FuncId} {xs xs2:List AV} {bs:List Blk} {r:AV} (hp:PureC P gl f xs2 r) (hr:∀ S u,CV S r noNm u→∀ S' m',CV S' r m' u)
  (hx:∀ (w:World) (S:Pin) (m:Nm) (vs:List Value),Agree S w→(∀ (q:Nat) (b:Blk),bs[q]?=some b→Held S m w q b)→InjB bs.length m→CVl S xs m vs→∃ S1,Ext S S1∧Agree S1 w∧CVl S1 xs2 noNm vs):HC P gl f xs bs r bs:=by
 intro w S m vs hG hA hn hH hI hv
 obtain ⟨S1,hS1,hA1,hv1⟩:=hx w S m _ hA hH hI hv
 refine (hp w S1 vs (fun q cs e=>CC.mono hS1 cs q 0 (hG q cs e)) hA1 hv1).mono ?_
 rintro e w' ⟨u,S',rfl,hb,hE,hpin,hA',hu⟩
 refine ⟨u,S,m,rfl,hb.os,hb.tape,hb.output,hb.size,Ext.refl S,fun b hlt _=>⟨hb.block b hlt,fun _=>rfl⟩,fun b o v e=>hA' b o v (hE _ _ _ (hS1 _ _ _ e)),fun q b e=>?_,hI,fun q u' g hq hu' hg=>.inr ⟨q,u',hq,hu',hg⟩,MLe.refl m,hr S' u hu S m⟩
 exact (hH q b e).keep (Ext.refl S) (fun _ _ _ hc=>hc) rfl fun u g hu hg=>⟨hb.block g ((hH q b e).lt hu hg),fun _=>rfl⟩
theorem pin_row {S:Pin} {m:Nm} {w:World} {k e s:Nat} {xs:List (List AV)} (hheld:Held S m w k (.row e s xs)) (hcl:e < 2000000) (hA:Agree S w) :
  ∃ S',Ext S S'∧Agree S' w∧(∀ b,(∀ u,m k=some u→bk u≠some b)→∀ o,S' b o=S b o)∧∀ n v,n=xs.length→CV S (.rw k s n) m v→CV S' (.sl s false xs) noNm v:=by
 obtain ⟨A,c,h1,h2,h3,hlen,h4,vals,h5,h6,h7,_,h8⟩:=hheld.vals
 rw [rowNm_lo hcl] at h6
 let S':Pin:=fun b o=>if A=some ⟨b,0,none⟩∧o < vals.length then vals[o]? else S b o
 have hun:∀ b,A=some ⟨b,0,none⟩→∀ o,S b o=none:=by
  intro b hb o
  rcases h4 with ⟨e1,_⟩ | ⟨g,cur,fr,e1,_,_,_,e2⟩
  ·rw [hb] at e1; cases e1
  ·rw [hb] at e1
   injection e1 with e1
   injection e1 with e1
   subst e1
   exact e2 o
 have hS:Ext S S':=by
  intro b o v e1
  show (if A=some ⟨b,0,none⟩∧o < vals.length then vals[o]? else S b o)=some v
  rw [if_neg]
  ·exact e1
  ·rintro ⟨hb,_⟩
   rw [hun b hb] at e1; cases e1
 have hfar:∀ b,A≠some ⟨b,0,none⟩→∀ o,S' b o=S b o:=by
  intro b hb o
  show (if A=some ⟨b,0,none⟩∧o < vals.length then vals[o]? else S b o)=S b o
  rw [if_neg (fun q=>hb q.1)]
 refine ⟨S',hS,?_,fun b hb=>hfar b (fun hA=>hb _ h1 (by rw [hA]; rfl)),?_⟩
 ·intro b o v e1
  by_cases hA2:A=some ⟨b,0,none⟩∧o < vals.length
  ·have e2:vals[o]?=some v:=by
    have:S' b o=vals[o]?:=by show (if A=some ⟨b,0,none⟩∧o < vals.length then vals[o]? else S b o)=_; rw [if_pos hA2]
    rw [← this]; exact e1
   exact ⟨h8 b hA2.1 o v e2,h7 v (List.mem_of_getElem? e2)⟩
  ·have:S' b o=S b o:=by show (if A=some ⟨b,0,none⟩∧o < vals.length then vals[o]? else S b o)=_; rw [if_neg hA2]
   rw [this] at e1
   exact hA b o v e1
 ·intro n v hn hv
  subst hn
  simp only [CV] at hv ⊢
  obtain ⟨⟨B,d,rfl,p1,p2,p3,p4⟩,A1,q1,c1,p5,p6,p7⟩:=hv
  rw [h1] at p5
  injection p5 with p5
  injection p5 with _ p5
  injection p5 with e1 e2 e3
  subst e1; subst e3
  have hv:=p7 (by omega)
  injection hv with e1 e3 e4
  subst e1; subst e4
  refine ⟨B,d,rfl,h2,h3,(fun q=>by cases q),p3,fun ad had=>?_⟩
  obtain ⟨g,eg⟩:=p4 ad had
  subst eg
  refine ⟨fun _=>rfl,CE.mk fun j x hj=>?_⟩
  have hxl:=hlen x (List.mem_of_getElem? hj)
  refine ⟨hxl,CC.mk fun i y hi=>?_⟩
  obtain ⟨u,hu,hy⟩:=h6.get (flat_get hlen hj hi)
  have hlt:j*s+i < vals.length:=(List.getElem?_eq_some_iff.1 hu).1
  refine ⟨u,?_,hy.ext hS (MLe.refl _)⟩
  show (if B=some ⟨g,0,none⟩∧0+j*s+i < vals.length then vals[0+j*s+i]? else S g (0+j*s+i))=some u
  rw [Nat.zero_add,if_pos ⟨had,hlt⟩]
  exact hu
theorem nrow_known {S S1:Pin} {m:Nm} {w:World} {k e s:Nat} {ks:List Nat} {xs:List (List AV)} (h:Held S m w k (.nrow e s ks xs)) (he:e < 1000000) (f:AV→AV)
  (hS:∀ u g,m k=some u→bk u=some g→∀ o,S1 g o=S g o) (hf:∀ y v,(∀ j,nn j y=false→inL j ks=true)→CV S y m v→CV S1 (f y) noNm v):Held S1 m w k (.row e s (mapLL f xs)):=by
 obtain ⟨⟨A,c,p1,p2,p3,p4⟩,hn⟩:=h
 refine ⟨A,c,by rw [mapLL_len]; exact p1,by rw [mapLL_len]; exact p2,p3,?_⟩
 rcases p4 with p4 | ⟨g,cur,fr,rfl,p5,p6,p7,p8,p9⟩
 ·exact .inl p4
 ·rw [rowTy_op] at p5
  refine .inr ⟨g,cur,fr,rfl,by rw [rowTy_lt he]; exact p5,.inl p6.op,p7,fun o=>(hS _ g p1 rfl o).trans (p8 o),fun j x hx=>?_⟩
  obtain ⟨x0,hy,rfl⟩:=mapLL_at hx
  obtain ⟨r1,r2⟩:=p9 j x0 hy
  refine ⟨by rw [List.length_map]; exact r1,fun i y hi=>?_⟩
  rw [List.getElem?_map] at hi
  cases hz:x0[i]? with
  | none=>rw [hz] at hi; cases hi
  | some y0 =>
   rw [hz] at hi
   simp only [Option.map_some,Option.some.injEq] at hi
   subst hi
   obtain ⟨v,q1,q2,q3⟩:=r2 i y0 hz
   rw [rowNm_hi (by omega)] at q3
   rw [rowNm_lo (show e < 2000000 by omega)]
   exact ⟨v,q1,q2,hf y0 v (hn j i x0 y0 hy hz) q3⟩
theorem pin_two {S:Pin} {m:Nm} {w:World} {a b e e2 s s2:Nat} {xs ps:List (List AV)} (ha:Held S m w a (.nrow e s [b] xs)) (hb:Held S m w b (.row e2 s2 ps)) (he:e < 1000000) (he2:e2 < 2000000) (hA:Agree S w)
  (hinj:∀ u u' g,m a=some u→m b=some u'→bk u=some g→bk u'≠some g):∃ S',Ext S S'∧Agree S' w∧(∀ n v,n=xs.length→CV S (.rw a s n) m v→CV S' (.sl s false (mapLL (frsA b s2 ps) xs)) noNm v)∧∀ n v,n=ps.length→CV S (.rw b s2 n) m v→CV S' (.sl s2 false ps) noNm v:=by
 obtain ⟨S1,h1,h2,h3,h4⟩:=pin_row hb he2 hA
 have hk:=nrow_known (S1:=S1) ha he (frsA b s2 ps) (fun u g hu hg=>h3 g (fun u' hu'=>hinj u u' g hu hu' hg)) (fun y v hy hv=>?_)
 ·obtain ⟨S2,k1,k2,k3,k4⟩:=pin_row hk (by omega) h2
  refine ⟨S2,h1.trans k1,k2,fun n v hn hv=>k4 n v (by rw [mapLL_len]; exact hn) (hv.ext h1 (MLe.refl m)),fun n v hn hv=>(h4 n v hn hv).ext k1 (MLe.refl _)⟩
 ·have gen:nn b y=true→CV S1 y noNm v:=fun hq=>CV.mono h1 y m noNm v (fun i u hi e=>by
   have h:=hy i hi
   simp only [inL,Bool.or_false] at h
   have:=Nat.eq_of_beq_eq_true h
   subst this
   rw [hq] at hi; cases hi) hv
  cases y with
  | rw i s3 n =>
   simp only [frsA]
   split
   ·rename_i q
    subst q
    split
    ·rename_i q
     obtain ⟨rfl,q⟩:=q
     exact h4 n v q hv
    ·simp only [CV]
   ·rename_i q; exact gen (by simp only [nn]; rw [nbeq_ne q]; rfl)
  | _=>simp only [frsA]; exact kl_cv gen
theorem hol_frs {l:LLR} (hl:StsP l) (i b:Nat):mapLL (frsA b 7 (hoP l i)) (hol l i b)=l:=by
 unfold hol
 rw [mapLL_setEl,(flat_frs _ _ _).st hl]
 rcases Nat.lt_or_ge i l.length with h | h
 ·refine setEl_same ?_
  obtain ⟨k,nm,ps,hr,_⟩:=hl.fr i h
  have hP:hoP l i=ps:=by unfold hoP; rw [hr]; rfl
  rw [hP,hr]
  have e2:frsA b 7 ps (.rw b 7 ps.length)=.sl 7 false ps:=by simp only [frsA,if_true,true_and]
  rw [List.map_cons,List.map_nil,e2]
  rfl
 ·exact setEl_out h
theorem flat_ib {a:Int} {b:Bool}:∀ S u,CV S (.tup [.int .i64 a,.bool b]) noNm u→∀ S' m',CV S' (.tup [.int .i64 a,.bool b]) m' u:=by
 intro S u h S' m'
 simp only [CV,CVl] at h ⊢
 exact h
def gstB_s (l:LLR) (i:Nat):SpH
 | [.agg [.rw 0 3 n],.str s],[.nrow 59 3 [1] xs,.row 49 7 ps]=>some (((SrcS l∧n=l.length)∧xs=hol l i 1)∧ps=hoP l i,.tup [.int .i64 (stN l s:Nat),.bool (stH l s)],[.nrow 59 3 [1] xs,.row 49 7 ps])
 | _,_=>none
theorem gstB_ok (l:LLR) (i:Nat) (gl:Glob):HOK Tryz.prog gl 47 (gstB_s l i):=by
 refine ⟨(gstation_ok gl).1,?_⟩
 intro xs bs pre r bs2 h hp
 unfold gstB_s at h
 split at h
 ·rename_i n s X ps
  simp only [Option.some.injEq,Prod.mk.injEq] at h
  obtain ⟨h1,h2,h3⟩:=h
  subst h1 h2 h3
  obtain ⟨⟨⟨hs,rfl⟩,rfl⟩,rfl⟩:=hp
  refine borrow_core ((gstation_ok gl).2 [.agg [.sl 3 false l],.str s] _ _ rfl hs) flat_ib ?_
  intro w S m vs hA hH hI hv
  obtain ⟨S',k1,k2,k3,_⟩:=pin_two (hH 0 _ rfl) (hH 1 _ rfl) (by decide) (by decide) hA (fun u u' g hu hu' hg=>hI 0 1 u u' g (by simp) (by simp) (by decide) hu hu' hg)
  rw [hol_frs hs.fp] at k3
  refine ⟨S',k1,k2,?_⟩
  simp only [CVl] at hv ⊢
  obtain ⟨u,us,rfl,hu,u2,us2,rfl,hu2,rfl⟩:=hv
  refine ⟨u,_,rfl,?_,u2,[],rfl,hu2.ext k1 (MLe.refl _) |> fun h=>?_,rfl⟩
  ·simp only [CV,CVl] at hu ⊢
   obtain ⟨us,rfl,z,zs,hz,hc,rfl⟩:=hu
   have:=k3 l.length z (by rw [hol_len]) (by simp only [CV]; exact hc)
   simp only [CV] at this
   exact ⟨us,rfl,z,[],hz,this,rfl⟩
  ·simp only [CV] at h ⊢; exact h
 ·cases h
def gperB_s:SpH
 | [.agg [.int .i64 k,.str nm,.rw 0 7 n],.int .i64 t],[.row 49 7 ps]=>some (SrcD ps∧n=ps.length,.tup [.int .i64 (pdN ps t:Nat),.bool (pdH ps t)],[.row 49 7 ps])
 | _,_=>none
theorem gperB_ok (gl:Glob):HOK Tryz.prog gl 61 gperB_s:=by
 refine ⟨(gperiod_ok gl).1,?_⟩
 intro xs bs pre r bs2 h hp
 unfold gperB_s at h
 split at h
 ·rename_i k nm n t ps
  simp only [Option.some.injEq,Prod.mk.injEq] at h
  obtain ⟨h1,h2,h3⟩:=h
  subst h1 h2 h3
  obtain ⟨hs,rfl⟩:=hp
  refine borrow_core ((gperiod_ok gl).2 [.agg [.int .i64 k,.str nm,.sl 7 false ps],.int .i64 t] _ _ rfl hs) flat_ib ?_
  intro w S m vs hA hH hI hv
  obtain ⟨S',k1,k2,_,k3⟩:=pin_row (hH 0 _ rfl) (by decide) hA
  refine ⟨S',k1,k2,?_⟩
  simp only [CVl,CV] at hv ⊢
  obtain ⟨u,us,rfl,⟨us1,rfl,z1,zs1,e1,h1,z2,zs2,rfl,h2,z3,zs3,rfl,h3,rfl⟩,u2,us2,rfl,hu2,rfl⟩:=hv
  have:=k3 ps.length z3 rfl (by simp only [CV]; exact h3)
  simp only [CV] at this
  exact ⟨_,_,rfl,⟨us1,rfl,z1,_,e1,h1,z2,_,rfl,h2,z3,[],rfl,this,rfl⟩,u2,[],rfl,hu2,rfl⟩
 ·cases h
end Go.Proofs.YtldiagnbagpliaaGreatDoor
namespace Go.Proofs.YtldiagnbagpliaaGreatDoor
open Go Go.Lib Go.RowKit
set_option linter.unusedVariables false
set_option linter.unusedSimpArgs false
theorem zero_sizeS (zc:Array Value) (k:Nat):(Builtin.zeroCells zc k).size=k*zc.size:=by
 simp [Builtin.zeroCells]
theorem run_copyNS {P:Program} (w:World) (dT sT ty elem s:Nat) (b o dLen dCap:Nat) (a:Addr) (sLen sCap:Nat) (cs:List Value)
  (hu:P.underlying dT=some (.slice elem)) (hs:(P.info? elem).map (·.size)=some s) (hn:cs.length=Nat.min sLen dLen*s)
  (hsrc:∀ j v,cs[j]?=some v→w.cell? (a.add j)=some v) (hc:∀ j,j < cs.length→(w.cell? ⟨b,o+j,none⟩).isSome=true) (hf:∀ j,j < cs.length→w.frozen? ⟨b,o+j,none⟩=false) (h1:∀ v ∈ cs,v.oneCell'=true) :
  (Builtin.copy_ #[dT,sT] ty #[.slice (some ⟨b,o,none⟩) dLen dCap,.slice (some a) sLen sCap]).run P w=.ok (goInt (Nat.min sLen dLen)) (w.setCells b o cs):=by
 have hl:=run_loadCells_list (P:=P) w a cs hsrc
 have hst:=run_storeCells_cells (P:=P) b o cs 0 w (by simpa using hc) (by simpa using hf) h1
 cases hq:P.info? elem with
 | none=>simp [hq] at hs
 | some i =>
  have hi:i.size=s:=by simpa [hq] using hs
  simp [Builtin.copy_,run_underlying hu,Builtin.lenOf,Builtin.firstCells,sizeOf,typeInfo,hq,hi,← hn,hl,hst]
theorem t_itS:Tryz.prog.underlying 22=some (.slice 59):=by kernel_rfl
theorem i_itS:∃ i z,Tryz.prog.info? 59=some i∧i.zero=some z∧i.size=3∧z.cells.size=3∧i.bytes=48:=by
 have h:(Tryz.prog.info? 59).map (fun i=>(i.zero.map (·.cells.size),i.size,i.bytes))=some (some 3,3,48):=by kernel_rfl
 cases e:Tryz.prog.info? 59 with
 | none=>rw [e] at h; cases h
 | some i =>
  rw [e] at h
  simp only [Option.map_some,Option.some.injEq,Prod.mk.injEq] at h
  obtain ⟨h1,h2,h3⟩:=h
  cases hz:i.zero with
  | none=>rw [hz] at h1; cases h1
  | some z =>
   rw [hz] at h1
   exact ⟨i,z,rfl,hz,h2,by simpa using h1,h3⟩
set_option maxHeartbeats 4000000 in
theorem ins_end_roomS (b off n c vb voff m vc:Nat) (vs:List Value) (w:World) (hm:0 < m) (hroom:n+m≤c) (hc63:c≤9223372036854775807)
  (hvl:vs.length=m*3) (hsp:∀ j,j < m*3→(w.cell? ⟨b,off+n*3+j,none⟩).isSome=true) (hfz:∀ j,j < m*3→w.frozen? ⟨b,off+n*3+j,none⟩=false)
  (hvs:∀ j v,vs[j]?=some v→w.cell? ⟨vb,voff+j,none⟩=some v) (h1v:∀ v ∈ vs,v.oneCell'=true) :
  Calls Tryz.prog 60 #[.slice (some ⟨b,off,none⟩) n c,.int .i64 n,.slice (some ⟨vb,voff,none⟩) m vc] w fun e w' =>
   e=.returned (.slice (some ⟨b,off,none⟩) (n+m) c)∧w'=w.setCells b (off+n*3) vs:=by
 obtain ⟨i0,z0,hi0,hz0,hzs,hzc,hzb⟩:=i_itS
 have hz1:¬ ((m:Int)=0):=by omega
 have hsrc:_root_.Go.Src Tryz.prog i0.size 22 (.slice (some ⟨vb,voff,none⟩) m vc) m vs w:=by
  rw [hzs]
  exact _root_.Go.Src.ofSlice w t_itS ⟨vb,voff,none⟩ m vc vs (by omega) (fun j u hj=>by rw [Addr.add_lit]; exact hvs j u hj) h1v
 have hrun:∀ ty,(Builtin.append_ #[22,22] ty #[.slice (some ⟨b,off,none⟩) n c,.slice (some ⟨vb,voff,none⟩) m vc]).run Tryz.prog w=.ok (.slice (some ⟨b,off,none⟩) (n+m) c) (w.setCells b (off+n*3) vs):=fun ty=>by
  have:=run_append_room_src (w:=w) 22 22 ty 59 i0 t_itS hi0 b off n c (.slice (some ⟨vb,voff,none⟩) m vc) m vs hsrc hroom (by rw [hzs,hvl]; exact hsp) (by rw [hzs,hvl]; exact hfz)
  rw [hzs] at this
  exact this
 go_enter Tryz.func60,Tryz.ntmps60
 go_wp2_with (at_builtin; refine Lib.wpList_append_run _ rfl _ _ _ _ rfl _ _ rfl rfl _ _ (hrun _) ?_)
 go_ret
 exact ⟨rfl,rfl⟩
set_option maxHeartbeats 4000000 in
theorem ins_end_growS (base:Option Addr) (n c vb voff m vc:Nat) (cs vs:List Value) (w:World) (hm:0 < m) (hnc:n≤c) (hroom:c < n+m) (hbig:n+m≤1000)
  (hcl:cs.length=n*3) (hvl:vs.length=m*3) (hnil:base=none→n=0)
  (hcs:∀ a,base=some a→∀ j v,cs[j]?=some v→w.cell? (a.add j)=some v)
  (hvs:∀ j v,vs[j]?=some v→w.cell? ⟨vb,voff+j,none⟩=some v) (h1v:∀ v ∈ vs,v.oneCell'=true) (zc:Array Value) (hzc:∀ i z,Tryz.prog.info? 59=some i→i.zero=some z→z.cells=zc) :
  Calls Tryz.prog 60 #[.slice base n c,.int .i64 n,.slice (some ⟨vb,voff,none⟩) m vc] w fun e w' =>
   e=.returned (.slice (some ⟨w.heap.size,0,none⟩) (n+m) (grownCap w (n+m) c 59)) ∧
   w'=w.drew.alloc (.cells ((cs++vs).toArray++Builtin.zeroCells zc (grownCap w (n+m) c 59 - (n+m))) 59):=by
 obtain ⟨i0,z0,hi0,hz0,hzs,hzc1,hzb⟩:=i_itS
 have hzc2:=hzc i0 z0 hi0 hz0
 have hz1:¬ ((m:Int)=0):=by omega
 have hsrc:_root_.Go.Src Tryz.prog i0.size 22 (.slice (some ⟨vb,voff,none⟩) m vc) m vs w:=by
  rw [hzs]
  exact _root_.Go.Src.ofSlice w t_itS ⟨vb,voff,none⟩ m vc vs (by omega) (fun j u hj=>by rw [Addr.add_lit]; exact hvs j u hj) h1v
 have hold:(Builtin.firstCells i0.size n (.slice base n c)).run Tryz.prog w.drew=.ok cs.toArray w.drew:=by
  rw [hzs]
  cases base with
  | none =>
   have h0:=hnil rfl
   subst h0
   have hcs0:cs=[]:=List.length_eq_zero_iff.1 (by simpa using hcl)
   rw [hcs0]
   exact run_firstCells_none w.drew 3 0 0 c
  | some a=>exact run_firstCells_some w.drew 3 n a n c cs (by omega) (fun j v hj=>hcs a rfl j v hj)
 have hrun:∀ ty,(Builtin.append_ #[22,22] ty #[.slice base n c,.slice (some ⟨vb,voff,none⟩) m vc]).run Tryz.prog w=.ok (.slice (some ⟨w.heap.size,0,none⟩) (n+m) (grownCap w (n+m) c 59)) (w.drew.alloc (.cells ((cs++vs).toArray++Builtin.zeroCells zc (grownCap w (n+m) c 59 - (n+m))) 59)):=fun ty=>by
  have:=run_append_grow_src w 22 22 ty 59 i0 z0 t_itS hi0 hz0 base n c cs hold (.slice (some ⟨vb,voff,none⟩) m vc) m vs hsrc hroom (by omega) (by rw [hzb]; exact growslice_fits hroom (by omega))
  rw [hzc2] at this
  exact this
 go_enter Tryz.func60,Tryz.ntmps60
 cases base with
 | none =>
  have h0:=hnil rfl
  subst h0
  go_wp2_with (at_builtin; refine Lib.wpList_append_run _ rfl _ _ _ _ rfl _ _ rfl rfl _ _ (hrun _) ?_)
  go_ret
  exact ⟨rfl,rfl⟩
 | some a =>
  obtain ⟨ab,ao,asp⟩:=a
  go_wp2_with (at_builtin; refine Lib.wpList_append_run _ rfl _ _ _ _ rfl _ _ rfl rfl _ _ (hrun _) ?_)
  all_goals (go_ret; exact ⟨rfl,rfl⟩)
set_option maxHeartbeats 4000000 in
theorem ins_shiftS (b off n c i vb voff m vc:Nat) (cs vs:List Value) (w:World) (hi:i < n) (hm:0 < m) (hroom:n+m≤c) (hc63:c≤9223372036854775807) (hvb:vb≠b)
  (hcl:cs.length=n*3) (hvl:vs.length=m*3)
  (hcs:∀ j v,cs[j]?=some v→w.cell? ⟨b,off+j,none⟩=some v) (hsp:∀ j,j < (n+m)*3→(w.cell? ⟨b,off+j,none⟩).isSome=true) (hfz:∀ j,j < (n+m)*3→w.frozen? ⟨b,off+j,none⟩=false)
  (hvs:∀ j v,vs[j]?=some v→w.cell? ⟨vb,voff+j,none⟩=some v) (h1c:∀ v ∈ cs,v.oneCell'=true) (h1v:∀ v ∈ vs,v.oneCell'=true)
  (tA tB:TypeId) (kA kB:Nat) (hsa:w.shape? vb=some (tA,kA)) (hsb:w.shape? b=some (tB,kB)) (hkB:kB≠0) (hfa:w.frozen? ⟨vb,voff,none⟩=false) (hfe:w.frozen? ⟨vb,kA,none⟩=false) :
  Calls Tryz.prog 60 #[.slice (some ⟨b,off,none⟩) n c,.int .i64 i,.slice (some ⟨vb,voff,none⟩) m vc] w fun e w' =>
   e=.returned (.slice (some ⟨b,off,none⟩) (n+m) c)∧w'=(w.drew.setCells b (off+(i+m)*3) (cs.drop (i*3))).setCells b (off+i*3) vs:=by
 obtain ⟨i0,z0,hi0,hz0,hzs,hzc1,hzb⟩:=i_itS
 have hz1:¬ ((m:Int)=0):=by omega
 have hz2:¬ ((i:Int)=(n:Int)):=by omega
 have hsz:(Tryz.prog.info? 59).map (·.size)=some 3:=by rw [hi0]; simp [hzs]
 have hso:∀ w,(Go.sizeOf 59).run Tryz.prog w=.ok 3 w:=fun w=>by simp [sizeOf,typeInfo,hi0,hzs]
 have hov:∀ lb cb,(callFunc 99 #[.slice (some ⟨vb,voff,none⟩) m vc,.slice (some ⟨b,off+(i+m)*3,none⟩) lb cb]).run Tryz.prog w=.ok (.value (.bool false)) w:=fun lb cb=>by
  rw [run_callFunc_extern Tryz.func99 (by kernel_rfl) (by kernel_rfl) (by kernel_rfl) (e:=Extern.SlicesOverlaps.overlaps #[22,22] #[4]) (by kernel_rfl),
   Lib.run_overlaps_apart w 22 4 59 t_itS 3 hso ⟨vb,voff,none⟩ ⟨b,off+(i+m)*3,none⟩ m vc lb cb hvb tA tB kA kB hsa hsb hkB hfa hfe]
  rfl
 have mixed:Tryz.prog.follows Departure.mixedOrders=true:=by kernel_rfl
 have hdl:(cs.drop (i*3)).length=(n - i)*3:=by rw [List.length_drop,hcl]; omega
 have hw1:IntKind.i64.wrap ((i:Int)+(m:Int))=(i:Int)+(m:Int):=by rw [IntKind.wrap_i64]; omega
 have hb1:(0:Int)≤(i:Int)+(m:Int):=by omega
 have hin:i≤n:=by omega
 have htn:((i:Int)+(m:Int)).toNat=i+m:=by omega
 have hb2:¬ (c=i+m):=by omega
 have hb3:(i:Int)≤(n:Int)+(m:Int):=by omega
 have hb4:¬ (c=i):=by omega
 have hmn1:Nat.min (n+m - i) (n+m - (i+m))=n - i:=by simp only [Nat.min_def]; split <;> omega
 have hmn2:Nat.min m (n+m - i)=m:=by simp only [Nat.min_def]; split <;> omega
 have hcp1:∀ ty dc sc,(Builtin.copy_ #[22,22] ty #[.slice (some ⟨b,off+(i+m)*3,none⟩) (n+m - (i+m)) dc,.slice (some ⟨b,off+i*3,none⟩) (n+m - i) sc]).run Tryz.prog w.drew=.ok (goInt ((n - i:Nat):Int)) (w.drew.setCells b (off+(i+m)*3) (cs.drop (i*3))):=fun ty dc sc=>by
  have:=run_copyNS w.drew 22 22 ty 59 3 b (off+(i+m)*3) (n+m - (i+m)) dc ⟨b,off+i*3,none⟩ (n+m - i) sc (cs.drop (i*3)) t_itS hsz (by rw [hdl,hmn1])
   (fun j v hj=>by rw [Addr.add_lit,Nat.add_assoc]; exact hcs (i*3+j) v (by rwa [List.getElem?_drop] at hj))
   (fun j hj=>by rw [Nat.add_assoc]; exact hsp _ (by omega)) (fun j hj=>by rw [Nat.add_assoc]; exact hfz _ (by omega)) (fun v hv=>h1c v (List.mem_of_mem_drop hv))
  rw [hmn1] at this
  exact this
 obtain ⟨W1,hW1⟩:∃ W1,W1=w.drew.setCells b (off+(i+m)*3) (cs.drop (i*3)):=⟨_,rfl⟩
 have hsp1:∀ k,k < (n+m)*3→(W1.cell? ⟨b,off+k,none⟩).isSome=true:=fun k hk=>by
  rw [hW1]
  exact isSome_setCells b _ _ _ (fun j hj=>by rw [Nat.add_assoc]; exact hsp _ (by omega)) _ (hsp k hk)
 have hcp2:∀ (W:World),(∀ x,W.cell? x=W1.cell? x)→(∀ x,W.frozen? x=W1.frozen? x)→∀ ty dc,(Builtin.copy_ #[22,22] ty #[.slice (some ⟨b,off+i*3,none⟩) (n+m - i) dc,.slice (some ⟨vb,voff,none⟩) m vc]).run Tryz.prog W=.ok (goInt (m:Int)) (W.setCells b (off+i*3) vs):=fun W hWc hWf ty dc=>by
  have:=run_copyNS W 22 22 ty 59 3 b (off+i*3) (n+m - i) dc ⟨vb,voff,none⟩ m vc vs t_itS hsz (by rw [hvl,hmn2])
   (fun j v hj=>by
    rw [Addr.add_lit,hWc,hW1,World.cell?_setCells_out b _ _ _ _ (fun h _=>absurd h hvb)]
    exact hvs j v hj)
   (fun j hj=>by rw [hWc,Nat.add_assoc]; exact hsp1 _ (by omega)) (fun j hj=>by rw [hWf,hW1,World.frozen?_setCells,Nat.add_assoc]; exact hfz _ (by omega)) h1v
  rw [hmn2] at this
  exact this
 rw [← hW1] at hcp1
 go_enter Tryz.func60,Tryz.ntmps60
 go_wp2_with (simp only [hov])
 go_region_law_o (refine step_copy_runI rfl _ _ 22 22 rfl _ _ (by simp [Act.eval,Act.put]) (by simp [Act.eval,Act.put]) (hcp1 _ _ _) ?_)
 go_wp2_with (at_builtin; refine wpList_copy_runI _ rfl _ _ 22 22 rfl _ _ rfl rfl (hcp2 _ (fun _=>rfl) (fun _=>rfl) _ _) ?_)
 go_ret
 first | exact ⟨rfl,rfl⟩ | exact ⟨rfl,by rw [hW1]⟩
set_option maxHeartbeats 4000000 in
theorem ins_growS (b off n c i vb voff m vc:Nat) (cs vs:List Value) (w:World) (hi:i < n) (hm:0 < m) (hnc:n≤c) (hroom:c < n+m) (hbig:n+m≤1000)
  (hcl:cs.length=n*3) (hvl:vs.length=m*3)
  (hcs:∀ j v,cs[j]?=some v→w.cell? ⟨b,off+j,none⟩=some v)
  (hvs:∀ j v,vs[j]?=some v→w.cell? ⟨vb,voff+j,none⟩=some v) (h1c:∀ v ∈ cs,v.oneCell'=true) (h1v:∀ v ∈ vs,v.oneCell'=true) (zc:Array Value) (hzcc:∀ i z,Tryz.prog.info? 59=some i→i.zero=some z→z.cells=zc) :
  Calls Tryz.prog 60 #[.slice (some ⟨b,off,none⟩) n c,.int .i64 i,.slice (some ⟨vb,voff,none⟩) m vc] w fun e w' =>
   e=.returned (.slice (some ⟨w.heap.size,0,none⟩) (n+m) (grownCap w (n+m) c 59)) ∧
   w'=(((w.alloc (.cells ((cs.take (i*3)).toArray++Builtin.zeroCells zc (n+m - i)++Builtin.zeroCells zc (grownCap w (n+m) c 59 - (n+m))) 59)).drew.setCells w.heap.size (i*3) vs).drew).setCells w.heap.size ((i+m)*3) (cs.drop (i*3)):=by
 obtain ⟨i0,z0,hi0,hz0,hzs,hzc1,hzb⟩:=i_itS
 have hzc2:=hzcc i0 z0 hi0 hz0
 have hzl:zc.size=3:=by rw [← hzc2]; exact hzc1
 have mixed:Tryz.prog.follows Departure.mixedOrders=true:=by kernel_rfl
 have hz1:¬ ((m:Int)=0):=by omega
 have hz2:¬ ((i:Int)=(n:Int)):=by omega
 have hz3:(c:Int) < (n:Int)+(m:Int):=by omega
 have hsz:(Tryz.prog.info? 59).map (·.size)=some 3:=by rw [hi0]; simp [hzs]
 have hbw:b < w.heap.size:=World.block_lt_of_cell? w _ (hcs 0 _ (List.getElem?_eq_getElem (by omega)))
 have hvw:vb < w.heap.size:=World.block_lt_of_cell? w _ (hvs 0 _ (List.getElem?_eq_getElem (by omega)))
 have hkk:(n:Int)+(m:Int) - (i:Int)=((n+m - i:Nat):Int):=by omega
 have hik:i+(n+m - i)=n+m:=by omega
 have hold:(Builtin.firstCells i0.size i (.slice (some ⟨b,off,none⟩) i c)).run Tryz.prog w.drew=.ok (cs.take (i*3)).toArray w.drew:=by
  rw [hzs]
  exact run_firstCells_some w.drew 3 i ⟨b,off,none⟩ i c (cs.take (i*3)) (by rw [List.length_take,hcl]; omega) (fun j v hj=>by
   rw [Addr.add_lit]
   rw [List.getElem?_take] at hj
   split at hj
   ·exact hcs j v hj
   ·cases hj)
 have hrz:∀ ty,(Builtin.append_ #[22,3] ty #[.slice (some ⟨b,off,none⟩) i c,.int .i64 ((n:Int)+(m:Int) - (i:Int))]).run Tryz.prog w =
   .ok (.slice (some ⟨w.heap.size,0,none⟩) (n+m) (grownCap w (n+m) c 59)) (w.drew.alloc (.cells ((cs.take (i*3)).toArray++Builtin.zeroCells zc (n+m - i)++Builtin.zeroCells zc (grownCap w (n+m) c 59 - (n+m))) 59)):=fun ty=>by
  have h:=Lib.run_append_grow_zeros w 22 3 ty 59 i0 z0 .i64 .i64 t_itS (by kernel_rfl) hi0 hz0 (some ⟨b,off,none⟩) i c (cs.take (i*3)) hold (n+m - i) (by omega) (by omega) (by omega) (by omega) (by rw [hzb]; omega) (by rw [hzb,hik]; exact growslice_fits hroom (by omega))
  rw [hik,hzc2] at h
  rw [hkk]
  exact h
 obtain ⟨G,hG⟩:∃ G,G=grownCap w (n+m) c 59:=⟨_,rfl⟩
 obtain ⟨ROW,hROW⟩:∃ ROW:Array Value,ROW=(cs.take (i*3)).toArray++Builtin.zeroCells zc (n+m - i)++Builtin.zeroCells zc (G - (n+m)):=⟨_,rfl⟩
 rw [← hG] at hrz ⊢
 rw [← hROW] at hrz ⊢
 have hRl:(n+m)*3≤ROW.size:=by
  rw [hROW,Array.size_append,Array.size_append,zero_sizeS,zero_sizeS,hzl]
  simp only [List.size_toArray,List.length_take,hcl]
  omega
 obtain ⟨W1,hW1⟩:∃ W1,W1=w.drew.alloc (.cells ROW 59):=⟨_,rfl⟩
 rw [← hW1] at hrz
 have hN:∀ j,j < (n+m)*3→(W1.cell? ⟨w.heap.size,j,none⟩).isSome=true:=fun j hj=>by
  rw [hW1,World.cell?_alloc_at (w:=w.drew) ROW _ w.heap.size j rfl,Array.getElem?_eq_getElem (by omega)]; rfl
 have hNf:∀ j,W1.frozen? ⟨w.heap.size,j,none⟩=false:=fun j=>by rw [hW1]; exact World.frozen?_alloc_at (w:=w.drew) ROW _ w.heap.size j rfl
 have hOb:∀ j v,w.cell? ⟨b,j,none⟩=some v→W1.cell? ⟨b,j,none⟩=some v:=fun j v h=>by rw [hW1,World.cell?_alloc_past (w:=w.drew) _ b j hbw]; exact h
 have hOv:∀ j v,w.cell? ⟨vb,j,none⟩=some v→W1.cell? ⟨vb,j,none⟩=some v:=fun j v h=>by rw [hW1,World.cell?_alloc_past (w:=w.drew) _ vb j hvw]; exact h
 have hmnA:Nat.min m (n+m - i)=m:=by simp only [Nat.min_def]; split <;> omega
 have hmnB:Nat.min (n - i) (n+m - (i+m))=n - i:=by simp only [Nat.min_def]; split <;> omega
 have hcpA:∀ (W:World),(∀ x,W.cell? x=W1.cell? x)→(∀ x,W.frozen? x=W1.frozen? x)→∀ ty dc,(Builtin.copy_ #[22,22] ty #[.slice (some ⟨w.heap.size,i*3,none⟩) (n+m - i) dc,.slice (some ⟨vb,voff,none⟩) m vc]).run Tryz.prog W=.ok (goInt (m:Int)) (W.setCells w.heap.size (i*3) vs):=fun W hWc hWf ty dc=>by
  have:=run_copyNS W 22 22 ty 59 3 w.heap.size (i*3) (n+m - i) dc ⟨vb,voff,none⟩ m vc vs t_itS hsz (by rw [hvl,hmnA])
   (fun j v hj=>by rw [Addr.add_lit,hWc]; exact hOv _ v (hvs j v hj))
   (fun j hj=>by rw [hWc]; exact hN _ (by omega)) (fun j hj=>by rw [hWf]; exact hNf _) h1v
  rw [hmnA] at this
  exact this
 have hGn:n+m≤G:=by rw [hG]; exact grownCap_ge w _ _ _
 have hG63:G≤9223372036854775807:=by
  have:=grownCap_le_maxLen w (n+m) c 59 (by unfold maxLen; omega)
  rw [← hG] at this
  unfold maxLen at this
  omega
 have hGi:¬ (G=i):=by omega
 have hGim:¬ (G=i+m):=by omega
 have hci:¬ (c=i):=by omega
 have hbN:b≠w.heap.size:=by omega
 have hdl:(cs.drop (i*3)).length=(n - i)*3:=by rw [List.length_drop,hcl]; omega
 have hcpB:∀ (W:World),(∀ x,W.cell? x=(W1.setCells w.heap.size (i*3) vs).cell? x)→(∀ x,W.frozen? x=(W1.setCells w.heap.size (i*3) vs).frozen? x)→∀ ty dc sc,(Builtin.copy_ #[22,22] ty #[.slice (some ⟨w.heap.size,(i+m)*3,none⟩) (n+m - (i+m)) dc,.slice (some ⟨b,off+i*3,none⟩) (n - i) sc]).run Tryz.prog W=.ok (goInt ((n - i:Nat):Int)) (W.setCells w.heap.size ((i+m)*3) (cs.drop (i*3))):=fun W hWc hWf ty dc sc=>by
  have:=run_copyNS W 22 22 ty 59 3 w.heap.size ((i+m)*3) (n+m - (i+m)) dc ⟨b,off+i*3,none⟩ (n - i) sc (cs.drop (i*3)) t_itS hsz (by rw [hdl,hmnB])
   (fun j v hj=>by
    rw [Addr.add_lit,hWc,World.cell?_setCells_out _ _ _ _ _ (fun h _=>absurd h hbN),Nat.add_assoc]
    exact hOb _ v (hcs (i*3+j) v (by rwa [List.getElem?_drop] at hj)))
   (fun j hj=>by rw [hWc]; exact isSome_setCells _ _ _ _ (fun t ht=>hN _ (by omega)) _ (hN _ (by omega)))
   (fun j hj=>by rw [hWf,World.frozen?_setCells]; exact hNf _) (fun v hv=>h1c v (List.mem_of_mem_drop hv))
  rw [hmnB] at this
  exact this
 subst hW1
 have hE1:∀ x,((w.alloc (.cells ROW 59)).drew).cell? x=(w.drew.alloc (.cells ROW 59)).cell? x:=fun x=>rfl
 have hE2:∀ x,((w.alloc (.cells ROW 59)).drew).frozen? x=(w.drew.alloc (.cells ROW 59)).frozen? x:=fun x=>rfl
 have hF1:∀ x,(((w.alloc (.cells ROW 59)).drew.setCells w.heap.size (i*3) vs).drew).cell? x=((w.drew.alloc (.cells ROW 59)).setCells w.heap.size (i*3) vs).cell? x:=fun x=>rfl
 have hF2:∀ x,(((w.alloc (.cells ROW 59)).drew.setCells w.heap.size (i*3) vs).drew).frozen? x=((w.drew.alloc (.cells ROW 59)).setCells w.heap.size (i*3) vs).frozen? x:=fun x=>rfl
 have hw1:IntKind.i64.wrap ((i:Int)+(m:Int))=(i:Int)+(m:Int):=by rw [IntKind.wrap_i64]; omega
 have hb1:(0:Int)≤(i:Int)+(m:Int):=by omega
 have hin:i≤n:=by omega
 have htn:((i:Int)+(m:Int)).toNat=i+m:=by omega
 have hb3:(i:Int)≤(n:Int):=by omega
 clear hkk hik hold hROW hG hRl
 go_enter Tryz.func60,Tryz.ntmps60
 go_wp2_with (first
  | (at_builtin; refine Lib.wpList_append_run _ rfl _ _ _ _ rfl _ _ rfl rfl _ _ (hrz _) ?_)
  | (at_builtin; refine wpList_copy_runI _ rfl _ _ 22 22 rfl _ _ rfl rfl (hcpA _ hE1 hE2 _ _) ?_)
  | (at_builtin; refine wpList_copy_runI _ rfl _ _ 22 22 rfl _ _ rfl rfl (hcpB _ (fun _=>rfl) (fun _=>rfl) _ _ _) ?_))
 go_region_law_o (refine step_copy_runI rfl _ _ 22 22 rfl (.slice (some ⟨w.heap.size,(i+m)*3,none⟩) (n+m - (i+m)) (G - (i+m))) (.slice (some ⟨b,off+i*3,none⟩) (n - i) (c - i)) (by simp [Act.eval,Act.put]) (by simp [Act.eval,Act.put]) (hcpB _ hF1 hF2 3 (G - (i+m)) (c - i)) ?_)
 go_wp2
 go_ret
 exact ⟨rfl,rfl⟩
end Go.Proofs.YtldiagnbagpliaaGreatDoor
namespace Go.Proofs.YtldiagnbagpliaaGreatDoor
open Go Go.Lib Go.RowKit
set_option linter.unusedVariables false
set_option linter.unusedSimpArgs false
theorem setCells_otherS (b:Nat):∀ (vs:List Value) (o:Nat) (w:World) (g:Nat),g≠b→(w.setCells b o vs).heap[g]?=w.heap[g]?
 | [],_,_,_,_=>rfl
 | v::r,o,w,g,h=>by
  rw [World.setCells,setCells_otherS b r (o+1) _ g h]
  simp [World.setCell,Array.getElem?_modify,Ne.symm h]
theorem setCells_restS (b:Nat):∀ (vs:List Value) (o:Nat) (w:World),(w.setCells b o vs).os=w.os∧(w.setCells b o vs).tape=w.tape∧(w.setCells b o vs).output=w.output∧(w.setCells b o vs).heap.size=w.heap.size
 | [],_,_=>⟨rfl,rfl,rfl,rfl⟩
 | v::r,o,w=>by
  obtain ⟨h1,h2,h3,h4⟩:=setCells_restS b r (o+1) (w.setCell ⟨b,o,none⟩ v)
  rw [World.setCells]
  exact ⟨h1,h2,h3,by rw [h4]; simp [World.setCell]⟩
def putLS (o:Nat) (vs l:List Value):List Value:=l.take o++vs++l.drop (o+vs.length)
theorem putL_consS {o:Nat} {v:Value} {r l:List Value} (h:o < l.length):putLS (o+1) r (l.set o v)=putLS o (v::r) l:=by
 unfold putLS
 rw [List.drop_set_of_lt (by omega)]
 rw [List.take_add_one,List.take_set_of_le (Nat.le_refl _)]
 simp only [List.getElem?_set_self h,Option.toList_some,List.append_assoc,List.singleton_append,List.length_cons]
 rw [show o+1+r.length=o+(r.length+1) by omega]
theorem setCells_heapS (b t:Nat) (fr:Nat × Nat):∀ (vs:List Value) (o:Nat) (w:World) (l:List Value),w.heap[b]?=some (.cells l.toArray t fr)→o+vs.length≤l.length→(w.setCells b o vs).heap[b]?=some (.cells (putLS o vs l).toArray t fr)
 | [],o,w,l,h,_=>by
  rw [World.setCells,h]
  unfold putLS; simp
 | v::r,o,w,l,h,hl=>by
  rw [List.length_cons] at hl
  have h1:(w.setCell ⟨b,o,none⟩ v).heap[b]?=some (.cells (l.set o v).toArray t fr):=by
   simp [World.setCell,Array.getElem?_modify,h]
  rw [World.setCells,setCells_heapS b t fr r (o+1) _ (l.set o v) h1 (by rw [List.length_set]; omega),putL_consS (by omega)]
theorem putL_lenS {o:Nat} {vs l:List Value} (h:o+vs.length≤l.length):(putLS o vs l).length=l.length:=by
 unfold putLS
 simp only [List.length_append,List.length_take,List.length_drop]
 omega
theorem putL_takeS {o k:Nat} {vs l:List Value} (h:o+vs.length≤l.length) (hk:o+vs.length=k):(putLS o vs l).take k=l.take o++vs:=by
 unfold putLS
 rw [List.take_append_of_le_length (by simp only [List.length_append,List.length_take]; omega),List.take_of_length_le (by simp only [List.length_append,List.length_take]; omega)]
theorem flat_take10S:∀ {zs:List (List AV)} (n:Nat),(∀ z ∈ zs,z.length=3)→(zs.take n).flatten=zs.flatten.take (n*3)∧(zs.drop n).flatten=zs.flatten.drop (n*3)
 | _,0,_=>by simp
 | [],n+1,_=>by simp
 | z::zs,n+1,h=>by
  have hz:=h z List.mem_cons_self
  obtain ⟨h1,h2⟩:=flat_take10S (zs:=zs) n (fun y hy=>h y (List.mem_cons_of_mem _ hy))
  have e:(n+1)*3=z.length+n*3:=by omega
  constructor
  ·rw [List.take_succ_cons,List.flatten_cons,List.flatten_cons,e,List.take_append,h1,List.take_of_length_le (l:=z) (by omega),show z.length+n*3 - z.length=n*3 by omega]
  ·rw [List.drop_succ_cons,List.flatten_cons,e,List.drop_append,h2,List.drop_of_length_le (l:=z) (by omega),show z.length+n*3 - z.length=n*3 by omega,List.nil_append]
def insPS (n q:Nat) (i:Int) (xs ys:LLA):Prop:=n=xs.length∧q=1∧ys.length=1∧0≤i∧i≤n∧n≤900
def sins_sS:SpH
 | [.rw 0 3 n,.int .i64 i,.rw 1 3 q],[.row 59 3 xs,.row 59 3 ys]=>some (insPS n q i xs ys,.rw 0 3 (n+1),[.row 59 3 (xs.take i.toNat++ys++xs.drop i.toNat),.row 59 3 ys])
 | _,_=>none
theorem ins_doneS {S:Pin} {m:Nm} {w w':World} {xs ys zs:LLA} {A:Option Addr} {c g1 c1:Nat} {g' c':Nat} {l:List Value} {vals:List Value}
  (hA:Agree S w) (hm0:m 0=some (.iface 0 (.slice A xs.length c))) (hm1:m 1=some (.iface 0 (.slice (some ⟨g1,0,none⟩) 1 c1)))
  (H1:Held S m w 1 (.row 59 3 ys)) (hnm:∀ k u,m k=some u→k < 2) (hg1:g1 < w.heap.size) (hne:g1≠g')
  (hg:(A=some ⟨g',0,none⟩∧g' < w.heap.size)∨g'=w.heap.size) (hS:∀ o,S g' o=none)
  (r1:w'.os=w.os) (r2:w'.tape=w.tape) (r3:w'.output=w.output) (r4:w.heap.size≤w'.heap.size) (r5:∀ b,b < w.heap.size→b≠g'→w'.heap[b]?=w.heap[b]?)
  (r6:w'.heap[g']?=some (.cells l.toArray 59 (0,0))) (r7:l.length=c'*3) (r8:l.take (zs.length*3)=vals) (hc:zs.length≤c') (hcm:c'≤maxLen)
  (hz:∀ z ∈ zs,z.length=3) (hv:CVl S zs.flatten noNm vals) (h1:∀ v ∈ vals,v.oneCell'=true) (hl:zs.length=xs.length+1) :
  ∃ u S' m',(Ending.returned (.slice (some ⟨g',0,none⟩) (xs.length+1) c'):Ending)=.returned u∧w'.os=w.os∧w'.tape=w.tape∧w'.output=w.output∧w.heap.size≤w'.heap.size∧Ext S S' ∧
   (∀ b,b < w.heap.size→¬ Mof 2 m b→w'.heap[b]?=w.heap[b]?∧∀ o,S' b o=S b o)∧Agree S' w' ∧
   (∀ (q:Nat) (b:Blk),([.row 59 3 zs,.row 59 3 ys]:List Blk)[q]?=some b→Held S' m' w' q b)∧InjB 2 m'∧(∀ q u g,q < 2→m' q=some u→bk u=some g→w.heap.size≤g∨Mof 2 m g)∧MLe m m'∧CV S' (.rw 0 3 (xs.length+1)) m' u:=by
 have hlt:59 < 1000000:=by decide
 have n0:(m.set 0 (.iface 0 (.slice (some ⟨g',0,none⟩) zs.length c'))) 0=some (.iface 0 (.slice (some ⟨g',0,none⟩) zs.length c')):=Nm.set_same _ _ _
 have n1:(m.set 0 (.iface 0 (.slice (some ⟨g',0,none⟩) zs.length c'))) 1=m 1:=Nm.set_ne _ _ (by decide)
 refine ⟨_,S,m.set 0 (.iface 0 (.slice (some ⟨g',0,none⟩) zs.length c')),rfl,r1,r2,r3,r4,.refl _,fun b hb hM=>⟨r5 b hb fun e=>hM ?_,fun _=>rfl⟩,fun b o v h=>?_,fun q b hq=>?_,?_,?_,?_,?_⟩
 ·subst e
  rcases hg with ⟨h,_⟩ | h
  ·exact ⟨0,_,by decide,hm0,by rw [h]; rfl⟩
  ·omega
 ·obtain ⟨k1,k2⟩:=hA b o v h
  have hb:b≠g':=fun e=>by rw [e,hS o] at h; cases h
  exact ⟨by rw [World.cell?_of_block (w:=w) (r5 b (hA.lt h) hb)]; exact k1,k2⟩
 ·match q,hq with
  | 0,hq =>
   simp only [List.getElem?_cons_zero,Option.some.injEq] at hq
   subst hq
   refine ⟨some ⟨g',0,none⟩,c',n0,hc,hcm,.inr ⟨g',l.toArray,(0,0),rfl,by rw [rowTy_lt hlt]; exact r6,.none,by simpa using r7,hS,?_⟩⟩
   rw [rowNm_lo (Nat.lt_trans hlt (by decide))]
   exact row_of_flat hz hv h1 (by simpa using r8)
  | 1,hq =>
   simp only [List.getElem?_cons_succ,List.getElem?_cons_zero,Option.some.injEq] at hq
   subst hq
   refine H1.keep (.refl _) (fun cs vs hi _=>?_) n1 fun u g hu hgu=>?_
   ·obtain ⟨hh,_⟩:=hi
    omega
   ·rw [hm1] at hu
    injection hu with hu
    subst hu
    simp only [bk,Option.some.injEq] at hgu
    subst hgu
    exact ⟨r5 _ hg1 hne,fun _=>rfl⟩
  | q+2,hq=>simp at hq
 ·intro q q' u u' g hq hq' hqq hu hu' hgu
  have key:∀ (q:Nat) (u:Value) (g:Nat),q < 2→(m.set 0 (.iface 0 (.slice (some ⟨g',0,none⟩) zs.length c'))) q=some u→bk u=some g→(q=0∧g=g')∨(q=1∧g=g1):=by
   intro q u g hq hu hgu
   match q,hq with
   | 0,_ =>
    rw [n0] at hu; injection hu with hu; subst hu
    simp only [bk,Option.some.injEq] at hgu
    exact .inl ⟨rfl,hgu.symm⟩
   | 1,_ =>
    rw [n1,hm1] at hu; injection hu with hu; subst hu
    simp only [bk,Option.some.injEq] at hgu
    exact .inr ⟨rfl,hgu.symm⟩
  intro hgu'
  rcases key q u g hq hu hgu with ⟨a1,a2⟩ | ⟨a1,a2⟩ <;> rcases key q' u' g hq' hu' hgu' with ⟨b1,b2⟩ | ⟨b1,b2⟩
  ·omega
  ·exact hne (by rw [← b2,a2])
  ·exact hne (by rw [← a2,b2])
  ·omega
 ·intro q u g hq hu hgu
  match q,hq with
  | 0,_ =>
   rw [n0] at hu; injection hu with hu; subst hu
   simp only [bk,Option.some.injEq] at hgu
   subst hgu
   rcases hg with ⟨h,_⟩ | h
   ·exact .inr ⟨0,_,by decide,hm0,by rw [h]; rfl⟩
   ·exact .inl (by omega)
  | 1,_=>exact .inr ⟨1,u,by decide,by rw [← n1]; exact hu,hgu⟩
 ·exact grow_le hm0 (by omega)
 ·rw [← hl]
  exact CV.rw_mk n0 hc hcm (.inr ⟨g',rfl⟩)
theorem cv_rowS {S:Pin} {m:Nm} {k s n:Nat} {v:Value} {A:Option Addr} {c:Nat} (h:CV S (.rw k s n) m v) (hm:m k=some (.iface 0 (.slice A n c))):v=.slice A n c:=by
 simp only [CV] at h
 obtain ⟨_,A1,q,c1,p1,p2,p3⟩:=h
 rw [hm] at p1
 injection p1 with p1
 injection p1 with _ p1
 injection p1 with e1 e2 e3
 subst e1 e3
 rw [e2]
 exact p3 (by omega)
set_option maxHeartbeats 1000000 in
theorem sins_okS (gl:Glob):HOK Tryz.prog gl 60 sins_sS:=by
 refine ⟨fok Tryz.func60 (by kernel_rfl) (by kernel_rfl),?_⟩
 intro xs0 bs pre r bs2 h hp
 unfold sins_sS at h
 split at h
 rotate_left
 ·cases h
 rename_i n i q xs ys
 simp only [Option.some.injEq,Prod.mk.injEq] at h
 obtain ⟨h1,h2,h3⟩:=h
 subst h1 h2 h3
 obtain ⟨hn,hq,hy,i0,i1,hbg⟩:=hp
 subst hn hq
 intro w S m vs hG hA hnm hheld hinj hv
 have H0:=hheld 0 _ rfl
 have H1:=hheld 1 _ rfl
 have hlt:59 < 1000000:=by decide
 obtain ⟨A,c,a1,a2,a3,a4,a5,V,b1,b2,b3,b4,b5⟩:=H0.vals
 obtain ⟨A1,c1,d1,d2,d3,d4,d5,Y,e1,e2,e3,e4,e5⟩:=H1.vals
 rw [rowNm_lo (Nat.lt_trans hlt (by decide))] at b2 e2
 rw [hy] at d1 d2 e1
 obtain ⟨g1,cur1,fr1,rfl,f1,f2,f3,f4⟩:=d5.resolve_left (fun h=>by omega)
 have hfr1:=f2.lt hlt
 subst hfr1
 rw [rowTy_lt hlt] at f1
 have hg1:g1 < w.heap.size:=(Array.getElem?_eq_some_iff.1 f1).1
 simp only [CVl] at hv
 obtain ⟨u1,us1,v1,hv1,u2,us2,v2,hv2,u3,us3,v3,hv3,v4⟩:=hv
 subst v4 v3 v2
 have hv1:=cv_rowS hv1 a1
 have hv3:=cv_rowS hv3 d1
 simp only [CV] at hv2
 obtain ⟨hv2,_⟩:=hv2
 subst hv1 hv2 hv3
 obtain ⟨k,rfl⟩:∃ k:Nat,i=k:=⟨i.toNat,by omega⟩
 have hvs:vs=#[.slice A xs.length c,.int .i64 k,.slice (some ⟨g1,0,none⟩) 1 c1]:=by apply Array.ext'; simpa using v1
 subst hvs
 have hk:k≤xs.length:=by omega
 have hs1:∀ j v,Y[j]?=some v→w.cell? ⟨g1,0+j,none⟩=some v:=fun j v h=>by rw [Nat.zero_add]; exact e5 g1 rfl j v h
 have hYl:Y.length=1*3:=by rw [e1]
 have hz:∀ z ∈ xs.take k++ys++xs.drop k,z.length=3:=fun z hz=>by
  rcases List.mem_append.1 hz with hz | hz
  ·rcases List.mem_append.1 hz with hz | hz
   ·exact a4 z (List.mem_of_mem_take hz)
   ·exact d4 z hz
  ·exact a4 z (List.mem_of_mem_drop hz)
 have hzl:(xs.take k++ys++xs.drop k).length=xs.length+1:=by
  simp only [List.length_append,List.length_take,List.length_drop,hy]; omega
 obtain ⟨t1,t2⟩:=flat_take10S (zs:=xs) k a4
 have hct:CVl S (xs.take k++ys++xs.drop k).flatten noNm (V.take (k*3)++Y++V.drop (k*3)):=by
  rw [List.flatten_append,List.flatten_append,t1,t2]
  exact ((b2.take _).append e2).append (b2.drop _)
 have hon:∀ v ∈ V.take (k*3)++Y++V.drop (k*3),v.oneCell'=true:=fun v hv=>by
  rcases List.mem_append.1 hv with hv | hv
  ·rcases List.mem_append.1 hv with hv | hv
   ·exact b3 v (List.mem_of_mem_take hv)
   ·exact e3 v hv
  ·exact b3 v (List.mem_of_mem_drop hv)
 have hnm2:∀ k u,m k=some u→k < 2:=hnm
 have a3':c≤9223372036854775807:=by unfold maxLen at a3; omega
 have hdet:(Int.toNat (k:Int))=k:=by omega
 rw [hdet]
 rcases Nat.lt_or_ge c (xs.length+1) with hroom | hroom
 ·
  have hgn:g1≠w.heap.size:=by omega
  obtain ⟨zc,hzc⟩:∃ zc:Array Value,∀ i z,Tryz.prog.info? 59=some i→i.zero=some z→z.cells=zc:=by
   obtain ⟨i0,z0,hi0,hz0,_⟩:=i_itS
   refine ⟨z0.cells,fun i z h1 h2=>?_⟩
   have q1:i=i0:=Option.some.inj (h1.symm.trans hi0)
   rw [q1] at h2
   rw [Option.some.inj (h2.symm.trans hz0)]
  have hzcs:zc.size=3:=by
   obtain ⟨i0,z0,hi0,hz0,_,h,_⟩:=i_itS
   rw [← hzc i0 z0 hi0 hz0]; exact h
  have hG1:xs.length+1≤grownCap w (xs.length+1) c 59:=grownCap_ge w _ _ _
  have hG2:grownCap w (xs.length+1) c 59≤maxLen:=grownCap_le_maxLen w (xs.length+1) c 59 (by unfold maxLen; omega)
  have hSn:∀ o,S w.heap.size o=none:=fun o=>by
   cases e:S w.heap.size o with
   | none=>rfl
   | some v=>have:=hA.lt e; omega
  rcases Nat.lt_or_ge k xs.length with hk2 | hk2
  ·obtain ⟨g,cur,fr,rfl,q1,q2,q3,q4⟩:=a5.resolve_left (fun h=>by omega)
   refine (ins_growS g 0 xs.length c k g1 0 1 c1 V Y w hk2 (by decide) a2 hroom (by omega) b1 hYl (fun j v h=>by rw [Nat.zero_add]; exact b5 g rfl j v h) hs1 b3 e3 zc hzc).mono ?_
   rintro e w' ⟨rfl,rfl⟩
   generalize hGc:grownCap w (xs.length+1) c 59=G at *
   obtain ⟨L0,hL0⟩:∃ L0:List Value,L0=V.take (k*3)++(Builtin.zeroCells zc (xs.length+1 - k)).toList++(Builtin.zeroCells zc (G - (xs.length+1))).toList:=⟨_,rfl⟩
   have hrow:(V.take (k*3)).toArray++Builtin.zeroCells zc (xs.length+1 - k)++Builtin.zeroCells zc (G - (xs.length+1))=L0.toArray:=by
    rw [hL0]; apply Array.ext'; simp
   have hL0l:L0.length=G*3:=by
    rw [hL0]
    simp only [List.length_append,List.length_take,Array.length_toList,zero_sizeS,hzcs,b1]
    omega
   rw [hrow]
   have w1:(w.alloc (.cells L0.toArray 59)).drew.heap[w.heap.size]?=some (.cells L0.toArray 59 (0,0)):=heap_alloc_new w _
   have w2:=setCells_heapS w.heap.size 59 (0,0) Y (k*3) _ L0 w1 (by omega)
   have w3:=setCells_heapS w.heap.size 59 (0,0) (V.drop (k*3)) ((k+1)*3) (((w.alloc (.cells L0.toArray 59)).drew.setCells w.heap.size (k*3) Y).drew) (putLS (k*3) Y L0) w2 (by rw [putL_lenS (by omega),List.length_drop,b1]; omega)
   obtain ⟨s1,s2,s3,s4⟩:=setCells_restS w.heap.size (V.drop (k*3)) ((k+1)*3) (((w.alloc (.cells L0.toArray 59)).drew.setCells w.heap.size (k*3) Y).drew)
   obtain ⟨s5,s6,s7,s8⟩:=setCells_restS w.heap.size Y (k*3) (w.alloc (.cells L0.toArray 59)).drew
   have s9:(w.alloc (.cells L0.toArray 59)).drew.heap.size=w.heap.size+1:=by
    show (w.alloc (.cells L0.toArray 59)).heap.size=_
    rw [World.size_alloc]
   exact ins_doneS hA a1 d1 H1 hnm2 hg1 hgn (.inr rfl) hSn (s1.trans s5) (s2.trans s6) (s3.trans s7) (by rw [s4]; show w.heap.size≤((w.alloc (.cells L0.toArray 59)).drew.setCells w.heap.size (k*3) Y).heap.size; rw [s8,s9]; omega)
    (fun b hb hne=>by
     rw [setCells_otherS _ _ _ _ b hne]
     show ((w.alloc (.cells L0.toArray 59)).drew.setCells w.heap.size (k*3) Y).heap[b]?=_
     rw [setCells_otherS _ _ _ _ b hne]
     exact heap_alloc_old w _ hb)
    w3 (by rw [putL_lenS (by rw [putL_lenS (by omega),List.length_drop,b1]; omega),putL_lenS (by omega)]; exact hL0l)
    (by
     rw [hzl,putL_takeS (by rw [putL_lenS (by omega),List.length_drop,b1]; omega) (by rw [List.length_drop,b1]; omega)]
     rw [show ((k+1)*3)=k*3+Y.length by omega,putL_takeS (by omega) rfl]
     have x:L0.take (k*3)=V.take (k*3):=by
      rw [hL0,List.append_assoc,List.take_append_of_le_length (l₁:=V.take (k*3)) (by rw [List.length_take,b1]; omega),List.take_of_length_le (l:=V.take (k*3)) (by rw [List.length_take]; omega)]
     rw [x])
    (by rw [hzl]; exact hG1) hG2 hz hct hon hzl
  ·have hkn:k=xs.length:=by omega
   subst hkn
   have hnl:A=none→xs.length=0:=fun hn=>by
    rcases a5 with ⟨_,h⟩ | ⟨g,cur,fr,h,_⟩
    ·omega
    ·rw [hn] at h; cases h
   refine (ins_end_growS A xs.length c g1 0 1 c1 V Y w (by decide) a2 hroom (by omega) b1 hYl hnl (fun a ha j v h=>?_) hs1 e3 zc hzc).mono ?_
   ·rcases a5 with ⟨h0,_⟩ | ⟨g,cur,fr,h0,_⟩
    ·rw [h0] at ha; cases ha
    ·rw [h0] at ha; injection ha with ha; subst ha
     rw [Addr.add_lit,Nat.zero_add]; exact b5 g h0 j v h
   ·rintro e w' ⟨rfl,rfl⟩
    generalize hGc:grownCap w (xs.length+1) c 59=G at *
    obtain ⟨L0,hL0⟩:∃ L0:List Value,L0=V++Y++(Builtin.zeroCells zc (G - (xs.length+1))).toList:=⟨_,rfl⟩
    have hrow:(V++Y).toArray++Builtin.zeroCells zc (G - (xs.length+1))=L0.toArray:=by
     rw [hL0]; apply Array.ext'; simp
    have hL0l:L0.length=G*3:=by
     rw [hL0]
     simp only [List.length_append,Array.length_toList,zero_sizeS,hzcs,b1,hYl]
     omega
    rw [hrow]
    have w1:(w.drew.alloc (.cells L0.toArray 59)).heap[w.heap.size]?=some (.cells L0.toArray 59 (0,0)):=heap_alloc_new w.drew _
    exact ins_doneS hA a1 d1 H1 hnm2 hg1 hgn (.inr rfl) hSn rfl rfl rfl (by show w.heap.size≤(w.drew.alloc (.cells L0.toArray 59)).heap.size; rw [World.size_alloc]; exact Nat.le_succ _) (fun b hb hne=>heap_alloc_old w.drew _ hb) w1 hL0l
     (by
      rw [hzl,hL0,List.take_append_of_le_length (by rw [List.length_append,b1,hYl]; omega),List.take_of_length_le (by rw [List.length_append,b1,hYl]; omega)]
      have x1:V.take (xs.length*3)=V:=List.take_of_length_le (by omega)
      have x2:V.drop (xs.length*3)=[]:=List.drop_eq_nil_of_le (by omega)
      rw [x1,x2,List.append_nil])
     (by rw [hzl]; exact hG1) hG2 hz hct hon hzl
 ·
  obtain ⟨g,cur,fr,rfl,q1,q2,q3,q4⟩:=a5.resolve_left (fun h=>by omega)
  have hfr:=q2.lt hlt
  subst hfr
  rw [rowTy_lt hlt] at q1
  have hgw:g < w.heap.size:=(Array.getElem?_eq_some_iff.1 q1).1
  have hgn:g1≠g:=fun h=>hinj 1 0 _ _ g1 (by simp) (by simp) (by decide) d1 a1 rfl (by rw [h]; rfl)
  obtain ⟨_,_,_,hAe,p1,_,p3,p4⟩:=b4.resolve_left (fun h=>by omega)
  injection hAe with hAe
  injection hAe with hAe
  subst hAe
  rw [rowTy_lt hlt,q1] at p1
  injection p1 with p1
  injection p1 with p1
  subst p1
  obtain ⟨L,hL⟩:∃ L,L=cur.toList:=⟨_,rfl⟩
  have hcur:cur=L.toArray:=by rw [hL]
  rw [hcur] at q1
  rw [← hL] at p4
  have hLl:L.length=c*3:=by rw [hL,Array.length_toList]; exact q3
  have hcell:∀ j,j < (xs.length+1)*3→(w.cell? ⟨g,0+j,none⟩).isSome=true:=fun j hj=>by
   simp only [World.cell?,q1,Nat.zero_add]
   have:j < L.length:=by rw [hLl]; have:=Nat.mul_le_mul_right 3 hroom; omega
   simp [List.getElem?_eq_getElem this]
  have hfz:∀ j,w.frozen? ⟨g,j,none⟩=false:=fun j=>by simp [World.frozen?,q1]
  have hLn:(xs.length+1)*3≤L.length:=by rw [hLl]; exact Nat.mul_le_mul_right 3 hroom
  rcases Nat.lt_or_ge k xs.length with hk2 | hk2
  ·refine (ins_shiftS g 0 xs.length c k g1 0 1 c1 V Y w hk2 (by decide) hroom (by omega) hgn b1 hYl (fun j v h=>by rw [Nat.zero_add]; exact b5 g rfl j v h) hcell (fun j _=>hfz _) hs1 b3 e3 59 59 cur1.size L.length (by simp [World.shape?,f1]) (by simp [World.shape?,q1]) (by omega) (by simp [World.frozen?,f1]) (by simp [World.frozen?,f1])).mono ?_
   rintro e w' ⟨rfl,rfl⟩
   rw [Nat.zero_add,Nat.zero_add]
   have w2:=setCells_heapS g 59 (0,0) (V.drop (k*3)) ((k+1)*3) w.drew L q1 (by rw [List.length_drop,b1]; omega)
   have w3:=setCells_heapS g 59 (0,0) Y (k*3) _ _ w2 (by rw [putL_lenS (by rw [List.length_drop,b1]; omega)]; omega)
   obtain ⟨s1,s2,s3,s4⟩:=setCells_restS g Y (k*3) (w.drew.setCells g ((k+1)*3) (V.drop (k*3)))
   obtain ⟨s5,s6,s7,s8⟩:=setCells_restS g (V.drop (k*3)) ((k+1)*3) w.drew
   exact ins_doneS hA a1 d1 H1 hnm2 hg1 hgn (.inl ⟨rfl,hgw⟩) q4 (s1.trans s5) (s2.trans s6) (s3.trans s7) (by rw [s4,s8]; exact Nat.le_refl _)
    (fun b hb hne=>by rw [setCells_otherS _ _ _ _ b hne,setCells_otherS _ _ _ _ b hne]; rfl)
    w3 (by rw [putL_lenS (by rw [putL_lenS (by rw [List.length_drop,b1]; omega)]; omega),putL_lenS (by rw [List.length_drop,b1]; omega)]; exact hLl)
    (by
     rw [hzl]
     unfold putLS
     have x1:(L.take ((k+1)*3)).length=(k+1)*3:=by rw [List.length_take]; omega
     have x3:V.take (k*3)=L.take (k*3):=by rw [← p4,List.take_take,Nat.min_eq_left (by omega)]
     have y1:(L.take ((k+1)*3)++V.drop (k*3)++L.drop ((k+1)*3+(V.drop (k*3)).length)).take (k*3)=V.take (k*3):=by
      rw [List.append_assoc,List.take_append_of_le_length (by omega),List.take_take,Nat.min_eq_left (by omega),x3]
     have y2:(L.take ((k+1)*3)++V.drop (k*3)++L.drop ((k+1)*3+(V.drop (k*3)).length)).drop (k*3+Y.length)=V.drop (k*3)++L.drop ((k+1)*3+(V.drop (k*3)).length):=by
      rw [List.append_assoc,List.drop_append,List.drop_of_length_le (by omega),x1,show k*3+Y.length - (k+1)*3=0 by omega]
      rfl
     rw [y1,y2,← List.append_assoc,List.take_append_of_le_length (by simp only [List.length_append,List.length_take,List.length_drop,b1,hYl]; omega),List.take_of_length_le (by simp only [List.length_append,List.length_take,List.length_drop,b1,hYl]; omega)])
    (by rw [hzl]; exact hroom) a3 hz hct hon hzl
  ·have hkn:k=xs.length:=by omega
   subst hkn
   refine (ins_end_roomS g 0 xs.length c g1 0 1 c1 Y w (by decide) hroom (by omega) hYl (fun j hj=>by rw [Nat.add_assoc]; exact hcell _ (by omega)) (fun j _=>hfz _) hs1 e3).mono ?_
   rintro e w' ⟨rfl,rfl⟩
   rw [Nat.zero_add]
   have w2:=setCells_heapS g 59 (0,0) Y (xs.length*3) w L q1 (by omega)
   obtain ⟨s1,s2,s3,s4⟩:=setCells_restS g Y (xs.length*3) w
   exact ins_doneS hA a1 d1 H1 hnm2 hg1 hgn (.inl ⟨rfl,hgw⟩) q4 s1 s2 s3 (by rw [s4]; exact Nat.le_refl _)
    (fun b hb hne=>setCells_otherS _ _ _ _ b hne)
    w2 (by rw [putL_lenS (by omega)]; exact hLl)
    (by
     rw [hzl,putL_takeS (by omega) (by omega),p4]
     have x1:V.take (xs.length*3)=V:=List.take_of_length_le (by omega)
     have x2:V.drop (xs.length*3)=[]:=List.drop_eq_nil_of_le (by omega)
     rw [x1,x2,List.append_nil])
    (by rw [hzl]; exact hroom) a3 hz hct hon hzl
end Go.Proofs.YtldiagnbagpliaaGreatDoor
namespace Go.Proofs.YtldiagnbagpliaaGreatDoor
open Go Go.Lib Go.RowKit
set_option linter.unusedVariables false
set_option linter.unusedSimpArgs false
theorem zero_sizeP (zc:Array Value) (k:Nat):(Builtin.zeroCells zc k).size=k*zc.size:=by
 simp [Builtin.zeroCells]
theorem run_copyNP {P:Program} (w:World) (dT sT ty elem s:Nat) (b o dLen dCap:Nat) (a:Addr) (sLen sCap:Nat) (cs:List Value)
  (hu:P.underlying dT=some (.slice elem)) (hs:(P.info? elem).map (·.size)=some s) (hn:cs.length=Nat.min sLen dLen*s)
  (hsrc:∀ j v,cs[j]?=some v→w.cell? (a.add j)=some v) (hc:∀ j,j < cs.length→(w.cell? ⟨b,o+j,none⟩).isSome=true) (hf:∀ j,j < cs.length→w.frozen? ⟨b,o+j,none⟩=false) (h1:∀ v ∈ cs,v.oneCell'=true) :
  (Builtin.copy_ #[dT,sT] ty #[.slice (some ⟨b,o,none⟩) dLen dCap,.slice (some a) sLen sCap]).run P w=.ok (goInt (Nat.min sLen dLen)) (w.setCells b o cs):=by
 have hl:=run_loadCells_list (P:=P) w a cs hsrc
 have hst:=run_storeCells_cells (P:=P) b o cs 0 w (by simpa using hc) (by simpa using hf) h1
 cases hq:P.info? elem with
 | none=>simp [hq] at hs
 | some i =>
  have hi:i.size=s:=by simpa [hq] using hs
  simp [Builtin.copy_,run_underlying hu,Builtin.lenOf,Builtin.firstCells,sizeOf,typeInfo,hq,hi,← hn,hl,hst]
theorem t_itP:Tryz.prog.underlying 57=some (.slice 49):=by kernel_rfl
theorem i_itP:∃ i z,Tryz.prog.info? 49=some i∧i.zero=some z∧i.size=7∧z.cells.size=7∧i.bytes=72:=by
 have h:(Tryz.prog.info? 49).map (fun i=>(i.zero.map (·.cells.size),i.size,i.bytes))=some (some 7,7,72):=by kernel_rfl
 cases e:Tryz.prog.info? 49 with
 | none=>rw [e] at h; cases h
 | some i =>
  rw [e] at h
  simp only [Option.map_some,Option.some.injEq,Prod.mk.injEq] at h
  obtain ⟨h1,h2,h3⟩:=h
  cases hz:i.zero with
  | none=>rw [hz] at h1; cases h1
  | some z =>
   rw [hz] at h1
   exact ⟨i,z,rfl,hz,h2,by simpa using h1,h3⟩
set_option maxHeartbeats 4000000 in
theorem ins_end_roomP (b off n c vb voff m vc:Nat) (vs:List Value) (w:World) (hm:0 < m) (hroom:n+m≤c) (hc63:c≤9223372036854775807)
  (hvl:vs.length=m*7) (hsp:∀ j,j < m*7→(w.cell? ⟨b,off+n*7+j,none⟩).isSome=true) (hfz:∀ j,j < m*7→w.frozen? ⟨b,off+n*7+j,none⟩=false)
  (hvs:∀ j v,vs[j]?=some v→w.cell? ⟨vb,voff+j,none⟩=some v) (h1v:∀ v ∈ vs,v.oneCell'=true) :
  Calls Tryz.prog 62 #[.slice (some ⟨b,off,none⟩) n c,.int .i64 n,.slice (some ⟨vb,voff,none⟩) m vc] w fun e w' =>
   e=.returned (.slice (some ⟨b,off,none⟩) (n+m) c)∧w'=w.setCells b (off+n*7) vs:=by
 obtain ⟨i0,z0,hi0,hz0,hzs,hzc,hzb⟩:=i_itP
 have hz1:¬ ((m:Int)=0):=by omega
 have hsrc:_root_.Go.Src Tryz.prog i0.size 57 (.slice (some ⟨vb,voff,none⟩) m vc) m vs w:=by
  rw [hzs]
  exact _root_.Go.Src.ofSlice w t_itP ⟨vb,voff,none⟩ m vc vs (by omega) (fun j u hj=>by rw [Addr.add_lit]; exact hvs j u hj) h1v
 have hrun:∀ ty,(Builtin.append_ #[57,57] ty #[.slice (some ⟨b,off,none⟩) n c,.slice (some ⟨vb,voff,none⟩) m vc]).run Tryz.prog w=.ok (.slice (some ⟨b,off,none⟩) (n+m) c) (w.setCells b (off+n*7) vs):=fun ty=>by
  have:=run_append_room_src (w:=w) 57 57 ty 49 i0 t_itP hi0 b off n c (.slice (some ⟨vb,voff,none⟩) m vc) m vs hsrc hroom (by rw [hzs,hvl]; exact hsp) (by rw [hzs,hvl]; exact hfz)
  rw [hzs] at this
  exact this
 go_enter Tryz.func62,Tryz.ntmps62
 go_wp2_with (at_builtin; refine Lib.wpList_append_run _ rfl _ _ _ _ rfl _ _ rfl rfl _ _ (hrun _) ?_)
 go_ret
 exact ⟨rfl,rfl⟩
set_option maxHeartbeats 4000000 in
theorem ins_end_growP (base:Option Addr) (n c vb voff m vc:Nat) (cs vs:List Value) (w:World) (hm:0 < m) (hnc:n≤c) (hroom:c < n+m) (hbig:n+m≤1000)
  (hcl:cs.length=n*7) (hvl:vs.length=m*7) (hnil:base=none→n=0)
  (hcs:∀ a,base=some a→∀ j v,cs[j]?=some v→w.cell? (a.add j)=some v)
  (hvs:∀ j v,vs[j]?=some v→w.cell? ⟨vb,voff+j,none⟩=some v) (h1v:∀ v ∈ vs,v.oneCell'=true) (zc:Array Value) (hzc:∀ i z,Tryz.prog.info? 49=some i→i.zero=some z→z.cells=zc) :
  Calls Tryz.prog 62 #[.slice base n c,.int .i64 n,.slice (some ⟨vb,voff,none⟩) m vc] w fun e w' =>
   e=.returned (.slice (some ⟨w.heap.size,0,none⟩) (n+m) (grownCap w (n+m) c 49)) ∧
   w'=w.drew.alloc (.cells ((cs++vs).toArray++Builtin.zeroCells zc (grownCap w (n+m) c 49 - (n+m))) 49):=by
 obtain ⟨i0,z0,hi0,hz0,hzs,hzc1,hzb⟩:=i_itP
 have hzc2:=hzc i0 z0 hi0 hz0
 have hz1:¬ ((m:Int)=0):=by omega
 have hsrc:_root_.Go.Src Tryz.prog i0.size 57 (.slice (some ⟨vb,voff,none⟩) m vc) m vs w:=by
  rw [hzs]
  exact _root_.Go.Src.ofSlice w t_itP ⟨vb,voff,none⟩ m vc vs (by omega) (fun j u hj=>by rw [Addr.add_lit]; exact hvs j u hj) h1v
 have hold:(Builtin.firstCells i0.size n (.slice base n c)).run Tryz.prog w.drew=.ok cs.toArray w.drew:=by
  rw [hzs]
  cases base with
  | none =>
   have h0:=hnil rfl
   subst h0
   have hcs0:cs=[]:=List.length_eq_zero_iff.1 (by simpa using hcl)
   rw [hcs0]
   exact run_firstCells_none w.drew 7 0 0 c
  | some a=>exact run_firstCells_some w.drew 7 n a n c cs (by omega) (fun j v hj=>hcs a rfl j v hj)
 have hrun:∀ ty,(Builtin.append_ #[57,57] ty #[.slice base n c,.slice (some ⟨vb,voff,none⟩) m vc]).run Tryz.prog w=.ok (.slice (some ⟨w.heap.size,0,none⟩) (n+m) (grownCap w (n+m) c 49)) (w.drew.alloc (.cells ((cs++vs).toArray++Builtin.zeroCells zc (grownCap w (n+m) c 49 - (n+m))) 49)):=fun ty=>by
  have:=run_append_grow_src w 57 57 ty 49 i0 z0 t_itP hi0 hz0 base n c cs hold (.slice (some ⟨vb,voff,none⟩) m vc) m vs hsrc hroom (by omega) (by rw [hzb]; exact growslice_fits hroom (by omega))
  rw [hzc2] at this
  exact this
 go_enter Tryz.func62,Tryz.ntmps62
 cases base with
 | none =>
  have h0:=hnil rfl
  subst h0
  go_wp2_with (at_builtin; refine Lib.wpList_append_run _ rfl _ _ _ _ rfl _ _ rfl rfl _ _ (hrun _) ?_)
  go_ret
  exact ⟨rfl,rfl⟩
 | some a =>
  obtain ⟨ab,ao,asp⟩:=a
  go_wp2_with (at_builtin; refine Lib.wpList_append_run _ rfl _ _ _ _ rfl _ _ rfl rfl _ _ (hrun _) ?_)
  all_goals (go_ret; exact ⟨rfl,rfl⟩)
set_option maxHeartbeats 4000000 in
theorem ins_shiftP (b off n c i vb voff m vc:Nat) (cs vs:List Value) (w:World) (hi:i < n) (hm:0 < m) (hroom:n+m≤c) (hc63:c≤9223372036854775807) (hvb:vb≠b)
  (hcl:cs.length=n*7) (hvl:vs.length=m*7)
  (hcs:∀ j v,cs[j]?=some v→w.cell? ⟨b,off+j,none⟩=some v) (hsp:∀ j,j < (n+m)*7→(w.cell? ⟨b,off+j,none⟩).isSome=true) (hfz:∀ j,j < (n+m)*7→w.frozen? ⟨b,off+j,none⟩=false)
  (hvs:∀ j v,vs[j]?=some v→w.cell? ⟨vb,voff+j,none⟩=some v) (h1c:∀ v ∈ cs,v.oneCell'=true) (h1v:∀ v ∈ vs,v.oneCell'=true)
  (tA tB:TypeId) (kA kB:Nat) (hsa:w.shape? vb=some (tA,kA)) (hsb:w.shape? b=some (tB,kB)) (hkB:kB≠0) (hfa:w.frozen? ⟨vb,voff,none⟩=false) (hfe:w.frozen? ⟨vb,kA,none⟩=false) :
  Calls Tryz.prog 62 #[.slice (some ⟨b,off,none⟩) n c,.int .i64 i,.slice (some ⟨vb,voff,none⟩) m vc] w fun e w' =>
   e=.returned (.slice (some ⟨b,off,none⟩) (n+m) c)∧w'=(w.drew.setCells b (off+(i+m)*7) (cs.drop (i*7))).setCells b (off+i*7) vs:=by
 obtain ⟨i0,z0,hi0,hz0,hzs,hzc1,hzb⟩:=i_itP
 have hz1:¬ ((m:Int)=0):=by omega
 have hz2:¬ ((i:Int)=(n:Int)):=by omega
 have hsz:(Tryz.prog.info? 49).map (·.size)=some 7:=by rw [hi0]; simp [hzs]
 have hso:∀ w,(Go.sizeOf 49).run Tryz.prog w=.ok 7 w:=fun w=>by simp [sizeOf,typeInfo,hi0,hzs]
 have hov:∀ lb cb,(callFunc 104 #[.slice (some ⟨vb,voff,none⟩) m vc,.slice (some ⟨b,off+(i+m)*7,none⟩) lb cb]).run Tryz.prog w=.ok (.value (.bool false)) w:=fun lb cb=>by
  rw [run_callFunc_extern Tryz.func104 (by kernel_rfl) (by kernel_rfl) (by kernel_rfl) (e:=Extern.SlicesOverlaps.overlaps #[57,57] #[4]) (by kernel_rfl),
   Lib.run_overlaps_apart w 57 4 49 t_itP 7 hso ⟨vb,voff,none⟩ ⟨b,off+(i+m)*7,none⟩ m vc lb cb hvb tA tB kA kB hsa hsb hkB hfa hfe]
  rfl
 have mixed:Tryz.prog.follows Departure.mixedOrders=true:=by kernel_rfl
 have hdl:(cs.drop (i*7)).length=(n - i)*7:=by rw [List.length_drop,hcl]; omega
 have hw1:IntKind.i64.wrap ((i:Int)+(m:Int))=(i:Int)+(m:Int):=by rw [IntKind.wrap_i64]; omega
 have hb1:(0:Int)≤(i:Int)+(m:Int):=by omega
 have hin:i≤n:=by omega
 have htn:((i:Int)+(m:Int)).toNat=i+m:=by omega
 have hb2:¬ (c=i+m):=by omega
 have hb3:(i:Int)≤(n:Int)+(m:Int):=by omega
 have hb4:¬ (c=i):=by omega
 have hmn1:Nat.min (n+m - i) (n+m - (i+m))=n - i:=by simp only [Nat.min_def]; split <;> omega
 have hmn2:Nat.min m (n+m - i)=m:=by simp only [Nat.min_def]; split <;> omega
 have hcp1:∀ ty dc sc,(Builtin.copy_ #[57,57] ty #[.slice (some ⟨b,off+(i+m)*7,none⟩) (n+m - (i+m)) dc,.slice (some ⟨b,off+i*7,none⟩) (n+m - i) sc]).run Tryz.prog w.drew=.ok (goInt ((n - i:Nat):Int)) (w.drew.setCells b (off+(i+m)*7) (cs.drop (i*7))):=fun ty dc sc=>by
  have:=run_copyNP w.drew 57 57 ty 49 7 b (off+(i+m)*7) (n+m - (i+m)) dc ⟨b,off+i*7,none⟩ (n+m - i) sc (cs.drop (i*7)) t_itP hsz (by rw [hdl,hmn1])
   (fun j v hj=>by rw [Addr.add_lit,Nat.add_assoc]; exact hcs (i*7+j) v (by rwa [List.getElem?_drop] at hj))
   (fun j hj=>by rw [Nat.add_assoc]; exact hsp _ (by omega)) (fun j hj=>by rw [Nat.add_assoc]; exact hfz _ (by omega)) (fun v hv=>h1c v (List.mem_of_mem_drop hv))
  rw [hmn1] at this
  exact this
 obtain ⟨W1,hW1⟩:∃ W1,W1=w.drew.setCells b (off+(i+m)*7) (cs.drop (i*7)):=⟨_,rfl⟩
 have hsp1:∀ k,k < (n+m)*7→(W1.cell? ⟨b,off+k,none⟩).isSome=true:=fun k hk=>by
  rw [hW1]
  exact isSome_setCells b _ _ _ (fun j hj=>by rw [Nat.add_assoc]; exact hsp _ (by omega)) _ (hsp k hk)
 have hcp2:∀ (W:World),(∀ x,W.cell? x=W1.cell? x)→(∀ x,W.frozen? x=W1.frozen? x)→∀ ty dc,(Builtin.copy_ #[57,57] ty #[.slice (some ⟨b,off+i*7,none⟩) (n+m - i) dc,.slice (some ⟨vb,voff,none⟩) m vc]).run Tryz.prog W=.ok (goInt (m:Int)) (W.setCells b (off+i*7) vs):=fun W hWc hWf ty dc=>by
  have:=run_copyNP W 57 57 ty 49 7 b (off+i*7) (n+m - i) dc ⟨vb,voff,none⟩ m vc vs t_itP hsz (by rw [hvl,hmn2])
   (fun j v hj=>by
    rw [Addr.add_lit,hWc,hW1,World.cell?_setCells_out b _ _ _ _ (fun h _=>absurd h hvb)]
    exact hvs j v hj)
   (fun j hj=>by rw [hWc,Nat.add_assoc]; exact hsp1 _ (by omega)) (fun j hj=>by rw [hWf,hW1,World.frozen?_setCells,Nat.add_assoc]; exact hfz _ (by omega)) h1v
  rw [hmn2] at this
  exact this
 rw [← hW1] at hcp1
 go_enter Tryz.func62,Tryz.ntmps62
 go_wp2_with (simp only [hov])
 go_region_law_o (refine step_copy_runI rfl _ _ 57 57 rfl _ _ (by simp [Act.eval,Act.put]) (by simp [Act.eval,Act.put]) (hcp1 _ _ _) ?_)
 go_wp2_with (at_builtin; refine wpList_copy_runI _ rfl _ _ 57 57 rfl _ _ rfl rfl (hcp2 _ (fun _=>rfl) (fun _=>rfl) _ _) ?_)
 go_ret
 first | exact ⟨rfl,rfl⟩ | exact ⟨rfl,by rw [hW1]⟩
set_option maxHeartbeats 4000000 in
theorem ins_growP (b off n c i vb voff m vc:Nat) (cs vs:List Value) (w:World) (hi:i < n) (hm:0 < m) (hnc:n≤c) (hroom:c < n+m) (hbig:n+m≤1000)
  (hcl:cs.length=n*7) (hvl:vs.length=m*7)
  (hcs:∀ j v,cs[j]?=some v→w.cell? ⟨b,off+j,none⟩=some v)
  (hvs:∀ j v,vs[j]?=some v→w.cell? ⟨vb,voff+j,none⟩=some v) (h1c:∀ v ∈ cs,v.oneCell'=true) (h1v:∀ v ∈ vs,v.oneCell'=true) (zc:Array Value) (hzcc:∀ i z,Tryz.prog.info? 49=some i→i.zero=some z→z.cells=zc) :
  Calls Tryz.prog 62 #[.slice (some ⟨b,off,none⟩) n c,.int .i64 i,.slice (some ⟨vb,voff,none⟩) m vc] w fun e w' =>
   e=.returned (.slice (some ⟨w.heap.size,0,none⟩) (n+m) (grownCap w (n+m) c 49)) ∧
   w'=(((w.alloc (.cells ((cs.take (i*7)).toArray++Builtin.zeroCells zc (n+m - i)++Builtin.zeroCells zc (grownCap w (n+m) c 49 - (n+m))) 49)).drew.setCells w.heap.size (i*7) vs).drew).setCells w.heap.size ((i+m)*7) (cs.drop (i*7)):=by
 obtain ⟨i0,z0,hi0,hz0,hzs,hzc1,hzb⟩:=i_itP
 have hzc2:=hzcc i0 z0 hi0 hz0
 have hzl:zc.size=7:=by rw [← hzc2]; exact hzc1
 have mixed:Tryz.prog.follows Departure.mixedOrders=true:=by kernel_rfl
 have hz1:¬ ((m:Int)=0):=by omega
 have hz2:¬ ((i:Int)=(n:Int)):=by omega
 have hz3:(c:Int) < (n:Int)+(m:Int):=by omega
 have hsz:(Tryz.prog.info? 49).map (·.size)=some 7:=by rw [hi0]; simp [hzs]
 have hbw:b < w.heap.size:=World.block_lt_of_cell? w _ (hcs 0 _ (List.getElem?_eq_getElem (by omega)))
 have hvw:vb < w.heap.size:=World.block_lt_of_cell? w _ (hvs 0 _ (List.getElem?_eq_getElem (by omega)))
 have hkk:(n:Int)+(m:Int) - (i:Int)=((n+m - i:Nat):Int):=by omega
 have hik:i+(n+m - i)=n+m:=by omega
 have hold:(Builtin.firstCells i0.size i (.slice (some ⟨b,off,none⟩) i c)).run Tryz.prog w.drew=.ok (cs.take (i*7)).toArray w.drew:=by
  rw [hzs]
  exact run_firstCells_some w.drew 7 i ⟨b,off,none⟩ i c (cs.take (i*7)) (by rw [List.length_take,hcl]; omega) (fun j v hj=>by
   rw [Addr.add_lit]
   rw [List.getElem?_take] at hj
   split at hj
   ·exact hcs j v hj
   ·cases hj)
 have hrz:∀ ty,(Builtin.append_ #[57,3] ty #[.slice (some ⟨b,off,none⟩) i c,.int .i64 ((n:Int)+(m:Int) - (i:Int))]).run Tryz.prog w =
   .ok (.slice (some ⟨w.heap.size,0,none⟩) (n+m) (grownCap w (n+m) c 49)) (w.drew.alloc (.cells ((cs.take (i*7)).toArray++Builtin.zeroCells zc (n+m - i)++Builtin.zeroCells zc (grownCap w (n+m) c 49 - (n+m))) 49)):=fun ty=>by
  have h:=Lib.run_append_grow_zeros w 57 3 ty 49 i0 z0 .i64 .i64 t_itP (by kernel_rfl) hi0 hz0 (some ⟨b,off,none⟩) i c (cs.take (i*7)) hold (n+m - i) (by omega) (by omega) (by omega) (by omega) (by rw [hzb]; omega) (by rw [hzb,hik]; exact growslice_fits hroom (by omega))
  rw [hik,hzc2] at h
  rw [hkk]
  exact h
 obtain ⟨G,hG⟩:∃ G,G=grownCap w (n+m) c 49:=⟨_,rfl⟩
 obtain ⟨ROW,hROW⟩:∃ ROW:Array Value,ROW=(cs.take (i*7)).toArray++Builtin.zeroCells zc (n+m - i)++Builtin.zeroCells zc (G - (n+m)):=⟨_,rfl⟩
 rw [← hG] at hrz ⊢
 rw [← hROW] at hrz ⊢
 have hRl:(n+m)*7≤ROW.size:=by
  rw [hROW,Array.size_append,Array.size_append,zero_sizeP,zero_sizeP,hzl]
  simp only [List.size_toArray,List.length_take,hcl]
  omega
 obtain ⟨W1,hW1⟩:∃ W1,W1=w.drew.alloc (.cells ROW 49):=⟨_,rfl⟩
 rw [← hW1] at hrz
 have hN:∀ j,j < (n+m)*7→(W1.cell? ⟨w.heap.size,j,none⟩).isSome=true:=fun j hj=>by
  rw [hW1,World.cell?_alloc_at (w:=w.drew) ROW _ w.heap.size j rfl,Array.getElem?_eq_getElem (by omega)]; rfl
 have hNf:∀ j,W1.frozen? ⟨w.heap.size,j,none⟩=false:=fun j=>by rw [hW1]; exact World.frozen?_alloc_at (w:=w.drew) ROW _ w.heap.size j rfl
 have hOb:∀ j v,w.cell? ⟨b,j,none⟩=some v→W1.cell? ⟨b,j,none⟩=some v:=fun j v h=>by rw [hW1,World.cell?_alloc_past (w:=w.drew) _ b j hbw]; exact h
 have hOv:∀ j v,w.cell? ⟨vb,j,none⟩=some v→W1.cell? ⟨vb,j,none⟩=some v:=fun j v h=>by rw [hW1,World.cell?_alloc_past (w:=w.drew) _ vb j hvw]; exact h
 have hmnA:Nat.min m (n+m - i)=m:=by simp only [Nat.min_def]; split <;> omega
 have hmnB:Nat.min (n - i) (n+m - (i+m))=n - i:=by simp only [Nat.min_def]; split <;> omega
 have hcpA:∀ (W:World),(∀ x,W.cell? x=W1.cell? x)→(∀ x,W.frozen? x=W1.frozen? x)→∀ ty dc,(Builtin.copy_ #[57,57] ty #[.slice (some ⟨w.heap.size,i*7,none⟩) (n+m - i) dc,.slice (some ⟨vb,voff,none⟩) m vc]).run Tryz.prog W=.ok (goInt (m:Int)) (W.setCells w.heap.size (i*7) vs):=fun W hWc hWf ty dc=>by
  have:=run_copyNP W 57 57 ty 49 7 w.heap.size (i*7) (n+m - i) dc ⟨vb,voff,none⟩ m vc vs t_itP hsz (by rw [hvl,hmnA])
   (fun j v hj=>by rw [Addr.add_lit,hWc]; exact hOv _ v (hvs j v hj))
   (fun j hj=>by rw [hWc]; exact hN _ (by omega)) (fun j hj=>by rw [hWf]; exact hNf _) h1v
  rw [hmnA] at this
  exact this
 have hGn:n+m≤G:=by rw [hG]; exact grownCap_ge w _ _ _
 have hG63:G≤9223372036854775807:=by
  have:=grownCap_le_maxLen w (n+m) c 49 (by unfold maxLen; omega)
  rw [← hG] at this
  unfold maxLen at this
  omega
 have hGi:¬ (G=i):=by omega
 have hGim:¬ (G=i+m):=by omega
 have hci:¬ (c=i):=by omega
 have hbN:b≠w.heap.size:=by omega
 have hdl:(cs.drop (i*7)).length=(n - i)*7:=by rw [List.length_drop,hcl]; omega
 have hcpB:∀ (W:World),(∀ x,W.cell? x=(W1.setCells w.heap.size (i*7) vs).cell? x)→(∀ x,W.frozen? x=(W1.setCells w.heap.size (i*7) vs).frozen? x)→∀ ty dc sc,(Builtin.copy_ #[57,57] ty #[.slice (some ⟨w.heap.size,(i+m)*7,none⟩) (n+m - (i+m)) dc,.slice (some ⟨b,off+i*7,none⟩) (n - i) sc]).run Tryz.prog W=.ok (goInt ((n - i:Nat):Int)) (W.setCells w.heap.size ((i+m)*7) (cs.drop (i*7))):=fun W hWc hWf ty dc sc=>by
  have:=run_copyNP W 57 57 ty 49 7 w.heap.size ((i+m)*7) (n+m - (i+m)) dc ⟨b,off+i*7,none⟩ (n - i) sc (cs.drop (i*7)) t_itP hsz (by rw [hdl,hmnB])
   (fun j v hj=>by
    rw [Addr.add_lit,hWc,World.cell?_setCells_out _ _ _ _ _ (fun h _=>absurd h hbN),Nat.add_assoc]
    exact hOb _ v (hcs (i*7+j) v (by rwa [List.getElem?_drop] at hj)))
   (fun j hj=>by rw [hWc]; exact isSome_setCells _ _ _ _ (fun t ht=>hN _ (by omega)) _ (hN _ (by omega)))
   (fun j hj=>by rw [hWf,World.frozen?_setCells]; exact hNf _) (fun v hv=>h1c v (List.mem_of_mem_drop hv))
  rw [hmnB] at this
  exact this
 subst hW1
 have hE1:∀ x,((w.alloc (.cells ROW 49)).drew).cell? x=(w.drew.alloc (.cells ROW 49)).cell? x:=fun x=>rfl
 have hE2:∀ x,((w.alloc (.cells ROW 49)).drew).frozen? x=(w.drew.alloc (.cells ROW 49)).frozen? x:=fun x=>rfl
 have hF1:∀ x,(((w.alloc (.cells ROW 49)).drew.setCells w.heap.size (i*7) vs).drew).cell? x=((w.drew.alloc (.cells ROW 49)).setCells w.heap.size (i*7) vs).cell? x:=fun x=>rfl
 have hF2:∀ x,(((w.alloc (.cells ROW 49)).drew.setCells w.heap.size (i*7) vs).drew).frozen? x=((w.drew.alloc (.cells ROW 49)).setCells w.heap.size (i*7) vs).frozen? x:=fun x=>rfl
 have hw1:IntKind.i64.wrap ((i:Int)+(m:Int))=(i:Int)+(m:Int):=by rw [IntKind.wrap_i64]; omega
 have hb1:(0:Int)≤(i:Int)+(m:Int):=by omega
 have hin:i≤n:=by omega
 have htn:((i:Int)+(m:Int)).toNat=i+m:=by omega
 have hb3:(i:Int)≤(n:Int):=by omega
 clear hkk hik hold hROW hG hRl
 go_enter Tryz.func62,Tryz.ntmps62
 go_wp2_with (first
  | (at_builtin; refine Lib.wpList_append_run _ rfl _ _ _ _ rfl _ _ rfl rfl _ _ (hrz _) ?_)
  | (at_builtin; refine wpList_copy_runI _ rfl _ _ 57 57 rfl _ _ rfl rfl (hcpA _ hE1 hE2 _ _) ?_)
  | (at_builtin; refine wpList_copy_runI _ rfl _ _ 57 57 rfl _ _ rfl rfl (hcpB _ (fun _=>rfl) (fun _=>rfl) _ _ _) ?_))
 go_region_law_o (refine step_copy_runI rfl _ _ 57 57 rfl (.slice (some ⟨w.heap.size,(i+m)*7,none⟩) (n+m - (i+m)) (G - (i+m))) (.slice (some ⟨b,off+i*7,none⟩) (n - i) (c - i)) (by simp [Act.eval,Act.put]) (by simp [Act.eval,Act.put]) (hcpB _ hF1 hF2 3 (G - (i+m)) (c - i)) ?_)
 go_wp2
 go_ret
 exact ⟨rfl,rfl⟩
end Go.Proofs.YtldiagnbagpliaaGreatDoor
namespace Go.Proofs.YtldiagnbagpliaaGreatDoor
open Go Go.Lib Go.RowKit
set_option linter.unusedVariables false
set_option linter.unusedSimpArgs false
theorem setCells_otherP (b:Nat):∀ (vs:List Value) (o:Nat) (w:World) (g:Nat),g≠b→(w.setCells b o vs).heap[g]?=w.heap[g]?
 | [],_,_,_,_=>rfl
 | v::r,o,w,g,h=>by
  rw [World.setCells,setCells_otherP b r (o+1) _ g h]
  simp [World.setCell,Array.getElem?_modify,Ne.symm h]
theorem setCells_restP (b:Nat):∀ (vs:List Value) (o:Nat) (w:World),(w.setCells b o vs).os=w.os∧(w.setCells b o vs).tape=w.tape∧(w.setCells b o vs).output=w.output∧(w.setCells b o vs).heap.size=w.heap.size
 | [],_,_=>⟨rfl,rfl,rfl,rfl⟩
 | v::r,o,w=>by
  obtain ⟨h1,h2,h3,h4⟩:=setCells_restP b r (o+1) (w.setCell ⟨b,o,none⟩ v)
  rw [World.setCells]
  exact ⟨h1,h2,h3,by rw [h4]; simp [World.setCell]⟩
def putLP (o:Nat) (vs l:List Value):List Value:=l.take o++vs++l.drop (o+vs.length)
theorem putL_consP {o:Nat} {v:Value} {r l:List Value} (h:o < l.length):putLP (o+1) r (l.set o v)=putLP o (v::r) l:=by
 unfold putLP
 rw [List.drop_set_of_lt (by omega)]
 rw [List.take_add_one,List.take_set_of_le (Nat.le_refl _)]
 simp only [List.getElem?_set_self h,Option.toList_some,List.append_assoc,List.singleton_append,List.length_cons]
 rw [show o+1+r.length=o+(r.length+1) by omega]
theorem setCells_heapP (b t:Nat) (fr:Nat × Nat):∀ (vs:List Value) (o:Nat) (w:World) (l:List Value),w.heap[b]?=some (.cells l.toArray t fr)→o+vs.length≤l.length→(w.setCells b o vs).heap[b]?=some (.cells (putLP o vs l).toArray t fr)
 | [],o,w,l,h,_=>by
  rw [World.setCells,h]
  unfold putLP; simp
 | v::r,o,w,l,h,hl=>by
  rw [List.length_cons] at hl
  have h1:(w.setCell ⟨b,o,none⟩ v).heap[b]?=some (.cells (l.set o v).toArray t fr):=by
   simp [World.setCell,Array.getElem?_modify,h]
  rw [World.setCells,setCells_heapP b t fr r (o+1) _ (l.set o v) h1 (by rw [List.length_set]; omega),putL_consP (by omega)]
theorem putL_lenP {o:Nat} {vs l:List Value} (h:o+vs.length≤l.length):(putLP o vs l).length=l.length:=by
 unfold putLP
 simp only [List.length_append,List.length_take,List.length_drop]
 omega
theorem putL_takeP {o k:Nat} {vs l:List Value} (h:o+vs.length≤l.length) (hk:o+vs.length=k):(putLP o vs l).take k=l.take o++vs:=by
 unfold putLP
 rw [List.take_append_of_le_length (by simp only [List.length_append,List.length_take]; omega),List.take_of_length_le (by simp only [List.length_append,List.length_take]; omega)]
theorem flat_take10P:∀ {zs:List (List AV)} (n:Nat),(∀ z ∈ zs,z.length=7)→(zs.take n).flatten=zs.flatten.take (n*7)∧(zs.drop n).flatten=zs.flatten.drop (n*7)
 | _,0,_=>by simp
 | [],n+1,_=>by simp
 | z::zs,n+1,h=>by
  have hz:=h z List.mem_cons_self
  obtain ⟨h1,h2⟩:=flat_take10P (zs:=zs) n (fun y hy=>h y (List.mem_cons_of_mem _ hy))
  have e:(n+1)*7=z.length+n*7:=by omega
  constructor
  ·rw [List.take_succ_cons,List.flatten_cons,List.flatten_cons,e,List.take_append,h1,List.take_of_length_le (l:=z) (by omega),show z.length+n*7 - z.length=n*7 by omega]
  ·rw [List.drop_succ_cons,List.flatten_cons,e,List.drop_append,h2,List.drop_of_length_le (l:=z) (by omega),show z.length+n*7 - z.length=n*7 by omega,List.nil_append]
def insPP (n q:Nat) (i:Int) (xs ys:LLA):Prop:=n=xs.length∧q=1∧ys.length=1∧0≤i∧i≤n∧n≤900
def sins_sP:SpH
 | [.rw 0 7 n,.int .i64 i,.rw 1 7 q],[.row 49 7 xs,.row 49 7 ys]=>some (insPP n q i xs ys,.rw 0 7 (n+1),[.row 49 7 (xs.take i.toNat++ys++xs.drop i.toNat),.row 49 7 ys])
 | _,_=>none
theorem ins_doneP {S:Pin} {m:Nm} {w w':World} {xs ys zs:LLA} {A:Option Addr} {c g1 c1:Nat} {g' c':Nat} {l:List Value} {vals:List Value}
  (hA:Agree S w) (hm0:m 0=some (.iface 0 (.slice A xs.length c))) (hm1:m 1=some (.iface 0 (.slice (some ⟨g1,0,none⟩) 1 c1)))
  (H1:Held S m w 1 (.row 49 7 ys)) (hnm:∀ k u,m k=some u→k < 2) (hg1:g1 < w.heap.size) (hne:g1≠g')
  (hg:(A=some ⟨g',0,none⟩∧g' < w.heap.size)∨g'=w.heap.size) (hS:∀ o,S g' o=none)
  (r1:w'.os=w.os) (r2:w'.tape=w.tape) (r3:w'.output=w.output) (r4:w.heap.size≤w'.heap.size) (r5:∀ b,b < w.heap.size→b≠g'→w'.heap[b]?=w.heap[b]?)
  (r6:w'.heap[g']?=some (.cells l.toArray 49 (0,0))) (r7:l.length=c'*7) (r8:l.take (zs.length*7)=vals) (hc:zs.length≤c') (hcm:c'≤maxLen)
  (hz:∀ z ∈ zs,z.length=7) (hv:CVl S zs.flatten noNm vals) (h1:∀ v ∈ vals,v.oneCell'=true) (hl:zs.length=xs.length+1) :
  ∃ u S' m',(Ending.returned (.slice (some ⟨g',0,none⟩) (xs.length+1) c'):Ending)=.returned u∧w'.os=w.os∧w'.tape=w.tape∧w'.output=w.output∧w.heap.size≤w'.heap.size∧Ext S S' ∧
   (∀ b,b < w.heap.size→¬ Mof 2 m b→w'.heap[b]?=w.heap[b]?∧∀ o,S' b o=S b o)∧Agree S' w' ∧
   (∀ (q:Nat) (b:Blk),([.row 49 7 zs,.row 49 7 ys]:List Blk)[q]?=some b→Held S' m' w' q b)∧InjB 2 m'∧(∀ q u g,q < 2→m' q=some u→bk u=some g→w.heap.size≤g∨Mof 2 m g)∧MLe m m'∧CV S' (.rw 0 7 (xs.length+1)) m' u:=by
 have hlt:49 < 1000000:=by decide
 have n0:(m.set 0 (.iface 0 (.slice (some ⟨g',0,none⟩) zs.length c'))) 0=some (.iface 0 (.slice (some ⟨g',0,none⟩) zs.length c')):=Nm.set_same _ _ _
 have n1:(m.set 0 (.iface 0 (.slice (some ⟨g',0,none⟩) zs.length c'))) 1=m 1:=Nm.set_ne _ _ (by decide)
 refine ⟨_,S,m.set 0 (.iface 0 (.slice (some ⟨g',0,none⟩) zs.length c')),rfl,r1,r2,r3,r4,.refl _,fun b hb hM=>⟨r5 b hb fun e=>hM ?_,fun _=>rfl⟩,fun b o v h=>?_,fun q b hq=>?_,?_,?_,?_,?_⟩
 ·subst e
  rcases hg with ⟨h,_⟩ | h
  ·exact ⟨0,_,by decide,hm0,by rw [h]; rfl⟩
  ·omega
 ·obtain ⟨k1,k2⟩:=hA b o v h
  have hb:b≠g':=fun e=>by rw [e,hS o] at h; cases h
  exact ⟨by rw [World.cell?_of_block (w:=w) (r5 b (hA.lt h) hb)]; exact k1,k2⟩
 ·match q,hq with
  | 0,hq =>
   simp only [List.getElem?_cons_zero,Option.some.injEq] at hq
   subst hq
   refine ⟨some ⟨g',0,none⟩,c',n0,hc,hcm,.inr ⟨g',l.toArray,(0,0),rfl,by rw [rowTy_lt hlt]; exact r6,.none,by simpa using r7,hS,?_⟩⟩
   rw [rowNm_lo (Nat.lt_trans hlt (by decide))]
   exact row_of_flat hz hv h1 (by simpa using r8)
  | 1,hq =>
   simp only [List.getElem?_cons_succ,List.getElem?_cons_zero,Option.some.injEq] at hq
   subst hq
   refine H1.keep (.refl _) (fun cs vs hi _=>?_) n1 fun u g hu hgu=>?_
   ·obtain ⟨hh,_⟩:=hi
    omega
   ·rw [hm1] at hu
    injection hu with hu
    subst hu
    simp only [bk,Option.some.injEq] at hgu
    subst hgu
    exact ⟨r5 _ hg1 hne,fun _=>rfl⟩
  | q+2,hq=>simp at hq
 ·intro q q' u u' g hq hq' hqq hu hu' hgu
  have key:∀ (q:Nat) (u:Value) (g:Nat),q < 2→(m.set 0 (.iface 0 (.slice (some ⟨g',0,none⟩) zs.length c'))) q=some u→bk u=some g→(q=0∧g=g')∨(q=1∧g=g1):=by
   intro q u g hq hu hgu
   match q,hq with
   | 0,_ =>
    rw [n0] at hu; injection hu with hu; subst hu
    simp only [bk,Option.some.injEq] at hgu
    exact .inl ⟨rfl,hgu.symm⟩
   | 1,_ =>
    rw [n1,hm1] at hu; injection hu with hu; subst hu
    simp only [bk,Option.some.injEq] at hgu
    exact .inr ⟨rfl,hgu.symm⟩
  intro hgu'
  rcases key q u g hq hu hgu with ⟨a1,a2⟩ | ⟨a1,a2⟩ <;> rcases key q' u' g hq' hu' hgu' with ⟨b1,b2⟩ | ⟨b1,b2⟩
  ·omega
  ·exact hne (by rw [← b2,a2])
  ·exact hne (by rw [← a2,b2])
  ·omega
 ·intro q u g hq hu hgu
  match q,hq with
  | 0,_ =>
   rw [n0] at hu; injection hu with hu; subst hu
   simp only [bk,Option.some.injEq] at hgu
   subst hgu
   rcases hg with ⟨h,_⟩ | h
   ·exact .inr ⟨0,_,by decide,hm0,by rw [h]; rfl⟩
   ·exact .inl (by omega)
  | 1,_=>exact .inr ⟨1,u,by decide,by rw [← n1]; exact hu,hgu⟩
 ·exact grow_le hm0 (by omega)
 ·rw [← hl]
  exact CV.rw_mk n0 hc hcm (.inr ⟨g',rfl⟩)
theorem cv_rowP {S:Pin} {m:Nm} {k s n:Nat} {v:Value} {A:Option Addr} {c:Nat} (h:CV S (.rw k s n) m v) (hm:m k=some (.iface 0 (.slice A n c))):v=.slice A n c:=by
 simp only [CV] at h
 obtain ⟨_,A1,q,c1,p1,p2,p3⟩:=h
 rw [hm] at p1
 injection p1 with p1
 injection p1 with _ p1
 injection p1 with e1 e2 e3
 subst e1 e3
 rw [e2]
 exact p3 (by omega)
set_option maxHeartbeats 1000000 in
theorem sins_okP (gl:Glob):HOK Tryz.prog gl 62 sins_sP:=by
 refine ⟨fok Tryz.func62 (by kernel_rfl) (by kernel_rfl),?_⟩
 intro xs0 bs pre r bs2 h hp
 unfold sins_sP at h
 split at h
 rotate_left
 ·cases h
 rename_i n i q xs ys
 simp only [Option.some.injEq,Prod.mk.injEq] at h
 obtain ⟨h1,h2,h3⟩:=h
 subst h1 h2 h3
 obtain ⟨hn,hq,hy,i0,i1,hbg⟩:=hp
 subst hn hq
 intro w S m vs hG hA hnm hheld hinj hv
 have H0:=hheld 0 _ rfl
 have H1:=hheld 1 _ rfl
 have hlt:49 < 1000000:=by decide
 obtain ⟨A,c,a1,a2,a3,a4,a5,V,b1,b2,b3,b4,b5⟩:=H0.vals
 obtain ⟨A1,c1,d1,d2,d3,d4,d5,Y,e1,e2,e3,e4,e5⟩:=H1.vals
 rw [rowNm_lo (Nat.lt_trans hlt (by decide))] at b2 e2
 rw [hy] at d1 d2 e1
 obtain ⟨g1,cur1,fr1,rfl,f1,f2,f3,f4⟩:=d5.resolve_left (fun h=>by omega)
 have hfr1:=f2.lt hlt
 subst hfr1
 rw [rowTy_lt hlt] at f1
 have hg1:g1 < w.heap.size:=(Array.getElem?_eq_some_iff.1 f1).1
 simp only [CVl] at hv
 obtain ⟨u1,us1,v1,hv1,u2,us2,v2,hv2,u3,us3,v3,hv3,v4⟩:=hv
 subst v4 v3 v2
 have hv1:=cv_rowP hv1 a1
 have hv3:=cv_rowP hv3 d1
 simp only [CV] at hv2
 obtain ⟨hv2,_⟩:=hv2
 subst hv1 hv2 hv3
 obtain ⟨k,rfl⟩:∃ k:Nat,i=k:=⟨i.toNat,by omega⟩
 have hvs:vs=#[.slice A xs.length c,.int .i64 k,.slice (some ⟨g1,0,none⟩) 1 c1]:=by apply Array.ext'; simpa using v1
 subst hvs
 have hk:k≤xs.length:=by omega
 have hs1:∀ j v,Y[j]?=some v→w.cell? ⟨g1,0+j,none⟩=some v:=fun j v h=>by rw [Nat.zero_add]; exact e5 g1 rfl j v h
 have hYl:Y.length=1*7:=by rw [e1]
 have hz:∀ z ∈ xs.take k++ys++xs.drop k,z.length=7:=fun z hz=>by
  rcases List.mem_append.1 hz with hz | hz
  ·rcases List.mem_append.1 hz with hz | hz
   ·exact a4 z (List.mem_of_mem_take hz)
   ·exact d4 z hz
  ·exact a4 z (List.mem_of_mem_drop hz)
 have hzl:(xs.take k++ys++xs.drop k).length=xs.length+1:=by
  simp only [List.length_append,List.length_take,List.length_drop,hy]; omega
 obtain ⟨t1,t2⟩:=flat_take10P (zs:=xs) k a4
 have hct:CVl S (xs.take k++ys++xs.drop k).flatten noNm (V.take (k*7)++Y++V.drop (k*7)):=by
  rw [List.flatten_append,List.flatten_append,t1,t2]
  exact ((b2.take _).append e2).append (b2.drop _)
 have hon:∀ v ∈ V.take (k*7)++Y++V.drop (k*7),v.oneCell'=true:=fun v hv=>by
  rcases List.mem_append.1 hv with hv | hv
  ·rcases List.mem_append.1 hv with hv | hv
   ·exact b3 v (List.mem_of_mem_take hv)
   ·exact e3 v hv
  ·exact b3 v (List.mem_of_mem_drop hv)
 have hnm2:∀ k u,m k=some u→k < 2:=hnm
 have a3':c≤9223372036854775807:=by unfold maxLen at a3; omega
 have hdet:(Int.toNat (k:Int))=k:=by omega
 rw [hdet]
 rcases Nat.lt_or_ge c (xs.length+1) with hroom | hroom
 ·
  have hgn:g1≠w.heap.size:=by omega
  obtain ⟨zc,hzc⟩:∃ zc:Array Value,∀ i z,Tryz.prog.info? 49=some i→i.zero=some z→z.cells=zc:=by
   obtain ⟨i0,z0,hi0,hz0,_⟩:=i_itP
   refine ⟨z0.cells,fun i z h1 h2=>?_⟩
   have q1:i=i0:=Option.some.inj (h1.symm.trans hi0)
   rw [q1] at h2
   rw [Option.some.inj (h2.symm.trans hz0)]
  have hzcs:zc.size=7:=by
   obtain ⟨i0,z0,hi0,hz0,_,h,_⟩:=i_itP
   rw [← hzc i0 z0 hi0 hz0]; exact h
  have hG1:xs.length+1≤grownCap w (xs.length+1) c 49:=grownCap_ge w _ _ _
  have hG2:grownCap w (xs.length+1) c 49≤maxLen:=grownCap_le_maxLen w (xs.length+1) c 49 (by unfold maxLen; omega)
  have hSn:∀ o,S w.heap.size o=none:=fun o=>by
   cases e:S w.heap.size o with
   | none=>rfl
   | some v=>have:=hA.lt e; omega
  rcases Nat.lt_or_ge k xs.length with hk2 | hk2
  ·obtain ⟨g,cur,fr,rfl,q1,q2,q3,q4⟩:=a5.resolve_left (fun h=>by omega)
   refine (ins_growP g 0 xs.length c k g1 0 1 c1 V Y w hk2 (by decide) a2 hroom (by omega) b1 hYl (fun j v h=>by rw [Nat.zero_add]; exact b5 g rfl j v h) hs1 b3 e3 zc hzc).mono ?_
   rintro e w' ⟨rfl,rfl⟩
   generalize hGc:grownCap w (xs.length+1) c 49=G at *
   obtain ⟨L0,hL0⟩:∃ L0:List Value,L0=V.take (k*7)++(Builtin.zeroCells zc (xs.length+1 - k)).toList++(Builtin.zeroCells zc (G - (xs.length+1))).toList:=⟨_,rfl⟩
   have hrow:(V.take (k*7)).toArray++Builtin.zeroCells zc (xs.length+1 - k)++Builtin.zeroCells zc (G - (xs.length+1))=L0.toArray:=by
    rw [hL0]; apply Array.ext'; simp
   have hL0l:L0.length=G*7:=by
    rw [hL0]
    simp only [List.length_append,List.length_take,Array.length_toList,zero_sizeP,hzcs,b1]
    omega
   rw [hrow]
   have w1:(w.alloc (.cells L0.toArray 49)).drew.heap[w.heap.size]?=some (.cells L0.toArray 49 (0,0)):=heap_alloc_new w _
   have w2:=setCells_heapP w.heap.size 49 (0,0) Y (k*7) _ L0 w1 (by omega)
   have w3:=setCells_heapP w.heap.size 49 (0,0) (V.drop (k*7)) ((k+1)*7) (((w.alloc (.cells L0.toArray 49)).drew.setCells w.heap.size (k*7) Y).drew) (putLP (k*7) Y L0) w2 (by rw [putL_lenP (by omega),List.length_drop,b1]; omega)
   obtain ⟨s1,s2,s3,s4⟩:=setCells_restP w.heap.size (V.drop (k*7)) ((k+1)*7) (((w.alloc (.cells L0.toArray 49)).drew.setCells w.heap.size (k*7) Y).drew)
   obtain ⟨s5,s6,s7,s8⟩:=setCells_restP w.heap.size Y (k*7) (w.alloc (.cells L0.toArray 49)).drew
   have s9:(w.alloc (.cells L0.toArray 49)).drew.heap.size=w.heap.size+1:=by
    show (w.alloc (.cells L0.toArray 49)).heap.size=_
    rw [World.size_alloc]
   exact ins_doneP hA a1 d1 H1 hnm2 hg1 hgn (.inr rfl) hSn (s1.trans s5) (s2.trans s6) (s3.trans s7) (by rw [s4]; show w.heap.size≤((w.alloc (.cells L0.toArray 49)).drew.setCells w.heap.size (k*7) Y).heap.size; rw [s8,s9]; omega)
    (fun b hb hne=>by
     rw [setCells_otherP _ _ _ _ b hne]
     show ((w.alloc (.cells L0.toArray 49)).drew.setCells w.heap.size (k*7) Y).heap[b]?=_
     rw [setCells_otherP _ _ _ _ b hne]
     exact heap_alloc_old w _ hb)
    w3 (by rw [putL_lenP (by rw [putL_lenP (by omega),List.length_drop,b1]; omega),putL_lenP (by omega)]; exact hL0l)
    (by
     rw [hzl,putL_takeP (by rw [putL_lenP (by omega),List.length_drop,b1]; omega) (by rw [List.length_drop,b1]; omega)]
     rw [show ((k+1)*7)=k*7+Y.length by omega,putL_takeP (by omega) rfl]
     have x:L0.take (k*7)=V.take (k*7):=by
      rw [hL0,List.append_assoc,List.take_append_of_le_length (l₁:=V.take (k*7)) (by rw [List.length_take,b1]; omega),List.take_of_length_le (l:=V.take (k*7)) (by rw [List.length_take]; omega)]
     rw [x])
    (by rw [hzl]; exact hG1) hG2 hz hct hon hzl
  ·have hkn:k=xs.length:=by omega
   subst hkn
   have hnl:A=none→xs.length=0:=fun hn=>by
    rcases a5 with ⟨_,h⟩ | ⟨g,cur,fr,h,_⟩
    ·omega
    ·rw [hn] at h; cases h
   refine (ins_end_growP A xs.length c g1 0 1 c1 V Y w (by decide) a2 hroom (by omega) b1 hYl hnl (fun a ha j v h=>?_) hs1 e3 zc hzc).mono ?_
   ·rcases a5 with ⟨h0,_⟩ | ⟨g,cur,fr,h0,_⟩
    ·rw [h0] at ha; cases ha
    ·rw [h0] at ha; injection ha with ha; subst ha
     rw [Addr.add_lit,Nat.zero_add]; exact b5 g h0 j v h
   ·rintro e w' ⟨rfl,rfl⟩
    generalize hGc:grownCap w (xs.length+1) c 49=G at *
    obtain ⟨L0,hL0⟩:∃ L0:List Value,L0=V++Y++(Builtin.zeroCells zc (G - (xs.length+1))).toList:=⟨_,rfl⟩
    have hrow:(V++Y).toArray++Builtin.zeroCells zc (G - (xs.length+1))=L0.toArray:=by
     rw [hL0]; apply Array.ext'; simp
    have hL0l:L0.length=G*7:=by
     rw [hL0]
     simp only [List.length_append,Array.length_toList,zero_sizeP,hzcs,b1,hYl]
     omega
    rw [hrow]
    have w1:(w.drew.alloc (.cells L0.toArray 49)).heap[w.heap.size]?=some (.cells L0.toArray 49 (0,0)):=heap_alloc_new w.drew _
    exact ins_doneP hA a1 d1 H1 hnm2 hg1 hgn (.inr rfl) hSn rfl rfl rfl (by show w.heap.size≤(w.drew.alloc (.cells L0.toArray 49)).heap.size; rw [World.size_alloc]; exact Nat.le_succ _) (fun b hb hne=>heap_alloc_old w.drew _ hb) w1 hL0l
     (by
      rw [hzl,hL0,List.take_append_of_le_length (by rw [List.length_append,b1,hYl]; omega),List.take_of_length_le (by rw [List.length_append,b1,hYl]; omega)]
      have x1:V.take (xs.length*7)=V:=List.take_of_length_le (by omega)
      have x2:V.drop (xs.length*7)=[]:=List.drop_eq_nil_of_le (by omega)
      rw [x1,x2,List.append_nil])
     (by rw [hzl]; exact hG1) hG2 hz hct hon hzl
 ·
  obtain ⟨g,cur,fr,rfl,q1,q2,q3,q4⟩:=a5.resolve_left (fun h=>by omega)
  have hfr:=q2.lt hlt
  subst hfr
  rw [rowTy_lt hlt] at q1
  have hgw:g < w.heap.size:=(Array.getElem?_eq_some_iff.1 q1).1
  have hgn:g1≠g:=fun h=>hinj 1 0 _ _ g1 (by simp) (by simp) (by decide) d1 a1 rfl (by rw [h]; rfl)
  obtain ⟨_,_,_,hAe,p1,_,p3,p4⟩:=b4.resolve_left (fun h=>by omega)
  injection hAe with hAe
  injection hAe with hAe
  subst hAe
  rw [rowTy_lt hlt,q1] at p1
  injection p1 with p1
  injection p1 with p1
  subst p1
  obtain ⟨L,hL⟩:∃ L,L=cur.toList:=⟨_,rfl⟩
  have hcur:cur=L.toArray:=by rw [hL]
  rw [hcur] at q1
  rw [← hL] at p4
  have hLl:L.length=c*7:=by rw [hL,Array.length_toList]; exact q3
  have hcell:∀ j,j < (xs.length+1)*7→(w.cell? ⟨g,0+j,none⟩).isSome=true:=fun j hj=>by
   simp only [World.cell?,q1,Nat.zero_add]
   have:j < L.length:=by rw [hLl]; have:=Nat.mul_le_mul_right 7 hroom; omega
   simp [List.getElem?_eq_getElem this]
  have hfz:∀ j,w.frozen? ⟨g,j,none⟩=false:=fun j=>by simp [World.frozen?,q1]
  have hLn:(xs.length+1)*7≤L.length:=by rw [hLl]; exact Nat.mul_le_mul_right 7 hroom
  rcases Nat.lt_or_ge k xs.length with hk2 | hk2
  ·refine (ins_shiftP g 0 xs.length c k g1 0 1 c1 V Y w hk2 (by decide) hroom (by omega) hgn b1 hYl (fun j v h=>by rw [Nat.zero_add]; exact b5 g rfl j v h) hcell (fun j _=>hfz _) hs1 b3 e3 49 49 cur1.size L.length (by simp [World.shape?,f1]) (by simp [World.shape?,q1]) (by omega) (by simp [World.frozen?,f1]) (by simp [World.frozen?,f1])).mono ?_
   rintro e w' ⟨rfl,rfl⟩
   rw [Nat.zero_add,Nat.zero_add]
   have w2:=setCells_heapP g 49 (0,0) (V.drop (k*7)) ((k+1)*7) w.drew L q1 (by rw [List.length_drop,b1]; omega)
   have w3:=setCells_heapP g 49 (0,0) Y (k*7) _ _ w2 (by rw [putL_lenP (by rw [List.length_drop,b1]; omega)]; omega)
   obtain ⟨s1,s2,s3,s4⟩:=setCells_restP g Y (k*7) (w.drew.setCells g ((k+1)*7) (V.drop (k*7)))
   obtain ⟨s5,s6,s7,s8⟩:=setCells_restP g (V.drop (k*7)) ((k+1)*7) w.drew
   exact ins_doneP hA a1 d1 H1 hnm2 hg1 hgn (.inl ⟨rfl,hgw⟩) q4 (s1.trans s5) (s2.trans s6) (s3.trans s7) (by rw [s4,s8]; exact Nat.le_refl _)
    (fun b hb hne=>by rw [setCells_otherP _ _ _ _ b hne,setCells_otherP _ _ _ _ b hne]; rfl)
    w3 (by rw [putL_lenP (by rw [putL_lenP (by rw [List.length_drop,b1]; omega)]; omega),putL_lenP (by rw [List.length_drop,b1]; omega)]; exact hLl)
    (by
     rw [hzl]
     unfold putLP
     have x1:(L.take ((k+1)*7)).length=(k+1)*7:=by rw [List.length_take]; omega
     have x3:V.take (k*7)=L.take (k*7):=by rw [← p4,List.take_take,Nat.min_eq_left (by omega)]
     have y1:(L.take ((k+1)*7)++V.drop (k*7)++L.drop ((k+1)*7+(V.drop (k*7)).length)).take (k*7)=V.take (k*7):=by
      rw [List.append_assoc,List.take_append_of_le_length (by omega),List.take_take,Nat.min_eq_left (by omega),x3]
     have y2:(L.take ((k+1)*7)++V.drop (k*7)++L.drop ((k+1)*7+(V.drop (k*7)).length)).drop (k*7+Y.length)=V.drop (k*7)++L.drop ((k+1)*7+(V.drop (k*7)).length):=by
      rw [List.append_assoc,List.drop_append,List.drop_of_length_le (by omega),x1,show k*7+Y.length - (k+1)*7=0 by omega]
      rfl
     rw [y1,y2,← List.append_assoc,List.take_append_of_le_length (by simp only [List.length_append,List.length_take,List.length_drop,b1,hYl]; omega),List.take_of_length_le (by simp only [List.length_append,List.length_take,List.length_drop,b1,hYl]; omega)])
    (by rw [hzl]; exact hroom) a3 hz hct hon hzl
  ·have hkn:k=xs.length:=by omega
   subst hkn
   refine (ins_end_roomP g 0 xs.length c g1 0 1 c1 Y w (by decide) hroom (by omega) hYl (fun j hj=>by rw [Nat.add_assoc]; exact hcell _ (by omega)) (fun j _=>hfz _) hs1 e3).mono ?_
   rintro e w' ⟨rfl,rfl⟩
   rw [Nat.zero_add]
   have w2:=setCells_heapP g 49 (0,0) Y (xs.length*7) w L q1 (by omega)
   obtain ⟨s1,s2,s3,s4⟩:=setCells_restP g Y (xs.length*7) w
   exact ins_doneP hA a1 d1 H1 hnm2 hg1 hgn (.inl ⟨rfl,hgw⟩) q4 s1 s2 s3 (by rw [s4]; exact Nat.le_refl _)
    (fun b hb hne=>setCells_otherP _ _ _ _ b hne)
    w2 (by rw [putL_lenP (by omega)]; exact hLl)
    (by
     rw [hzl,putL_takeP (by omega) (by omega),p4]
     have x1:V.take (xs.length*7)=V:=List.take_of_length_le (by omega)
     have x2:V.drop (xs.length*7)=[]:=List.drop_eq_nil_of_le (by omega)
     rw [x1,x2,List.append_nil])
    (by rw [hzl]; exact hroom) a3 hz hct hon hzl
end Go.Proofs.YtldiagnbagpliaaGreatDoor
