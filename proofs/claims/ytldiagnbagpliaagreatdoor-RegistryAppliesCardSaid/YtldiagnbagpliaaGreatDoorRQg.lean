import Derived.Test.YtldiagnbagpliaaGreatDoorRQf
import Derived.Test.YtldiagnbagpliaaGreatDoorRQe
import Derived.Test.YtldiagnbagpliaaGreatDoorRQd
set_option maxRecDepth 100000
namespace Go.Proofs.YtldiagnbagpliaaGreatDoor
open Go
set_option linter.unusedVariables false
set_option linter.unusedSimpArgs false
def sinS_s:SpH:=sins_sS
theorem sinS_ok (gl:Glob):HOK Tryz.prog gl 60 sinS_s:=sins_okS gl
def sinP_s:SpH:=sins_sP
theorem sinP_ok (gl:Glob):HOK Tryz.prog gl 62 sinP_s:=sins_okP gl
def seD (l:LLR) (nm:ByteArray):LLR:=hoP l (stN l nm)
def setE (l:LLR) (k:Int) (nm:ByteArray) (fr:Int) (cl:Bool) (f a b c:Int) (bs:LLR):Int :=
 if rgV l≠0 then rgV l else if exK k=false then 4 else if nmOk nm=false then 3 else if pdV k fr cl f a b c bs=false then 1 else
 if stH l nm=true then (if rE (l.getD (stN l nm) [])≠k then 7 else if pdH (seD l nm) fr=true then 0 else if 8≤((seD l nm).length:Int) then 2 else 0) else if 60≤(l.length:Int) then 2 else 0
def putP (ps:LLR) (fr:Int) (p:List AV):LLR:=if pdH ps fr=true then setEl ps (pdN ps fr) 0 p else ps.take (pdN ps fr)++[p]++ps.drop (pdN ps fr)
def setL (l:LLR) (k:Int) (nm:ByteArray) (fr:Int) (p:List AV):LLR :=
 if stH l nm=true then setEl l (stN l nm) 2 [.sl 7 false (putP (seD l nm) fr p)] else l.take (stN l nm)++[stA k nm [p]]++l.drop (stN l nm)
def setO (l:LLR) (k:Int) (nm:ByteArray) (fr:Int) (cl:Bool) (f a b c:Int) (bs:LLR):LLR:=if setE l k nm fr cl f a b c bs=0 then setL l k nm fr (pdA fr cl f a b c bs) else []
theorem setEl_twice {l:LLR} {i:Nat} {a b c x y:AV} (hi:i < l.length) (h:l.getD i []=[a,b,c]):setEl (setEl l i 2 [x]) i 2 [y]=setEl l i 2 [y]:=by
 refine ll_ext (by simp only [setEl_len]) fun j hj=>?_
 by_cases q:j=i
 ·subst q
  rw [setEl_get,if_pos ⟨rfl,by rw [setEl_len]; exact hi⟩,setEl_get,if_pos ⟨rfl,hi⟩,setEl_get,if_pos ⟨rfl,hi⟩,h]; rfl
 ·rw [setEl_get,if_neg (fun z=>q z.1),setEl_get,if_neg (fun z=>q z.1),setEl_get,if_neg (fun z=>q z.1)]
theorem st_put {l:LLR} (hl:StsP l) (i b:Nat) (Q:LLR):mapLL (frsA b 7 Q) (setEl l i 2 [.rw b 7 Q.length])=setEl l i 2 [.sl 7 false Q]:=by
 rw [mapLL_setEl,(flat_frs _ _ _).st hl,List.map_cons,List.map_nil]
 have e2:frsA b 7 Q (.rw b 7 Q.length)=.sl 7 false Q:=by simp only [frsA,if_true,true_and]
 rw [e2]
theorem se_err {l:LLR} {k:Int} {nm:ByteArray} {fr:Int} {cl:Bool} {f a b c:Int} {bs:LLR} {e:Int} (h:setE l k nm fr cl f a b c bs=e) (he:e≠0):(setO l k nm fr cl f a b c bs=[]∧True)∧e=setE l k nm fr cl f a b c bs∧True :=
 ⟨⟨if_neg (by rw [h]; exact he),trivial⟩,h.symm,trivial⟩
theorem se_ok {l:LLR} {k:Int} {nm:ByteArray} {fr:Int} {cl:Bool} {f a b c:Int} {bs X:LLR} (h:setE l k nm fr cl f a b c bs=0) (hx:X=setL l k nm fr (pdA fr cl f a b c bs)):((True∧X=setO l k nm fr cl f a b c bs)∧True)∧0=setE l k nm fr cl f a b c bs∧True :=
 ⟨⟨⟨trivial,by unfold setO; rw [if_pos h]; exact hx⟩,trivial⟩,h.symm,trivial⟩
theorem rg_len {l:LLR} (h:rgV l=0):l.length≤60∧∀ i,i < l.length→(hoP l i).length≤8:=by
 unfold rgV at h
 split at h
 ·cases h
 ·rename_i q
  refine ⟨by omega,fun i hi=>?_⟩
  have q1:l.any p1R=false:=by
   cases z:l.any p1R with
   | false=>rfl
   | true=>exact absurd (.inr z) q
  have:=List.any_eq_false.1 q1 (l.getD i []) (by rw [gD_lt hi]; exact List.getElem_mem _)
  unfold p1R s1B at this
  simp only [Bool.or_eq_true,not_or,decide_eq_true_eq] at this
  have h2:=this.2
  show (sPs (l.getD i [])).length≤8
  omega
def gset_s:Sp
 | [.agg [.sl 3 g l],.int .i64 k,.str nm,.agg [.int .i64 fr,.bool cl,.int .i64 f,.int .i64 a,.int .i64 b,.int .i64 c,.sl 2 h bs]]=>some (StsP l∧RdsP bs∧bs.length≤1000,.tup [.agg [.sl 3 false (setO l k nm fr cl f a b c bs)],.int .i64 (setE l k nm fr cl f a b c bs)])
 | _=>none
def gset_T (rgV:LLR→Int) (nmOk:ByteArray→Bool) (setO:LLR→Int→ByteArray→Int→Bool→Int→Int→Int→Int→LLR→LLR) (setE:LLR→Int→ByteArray→Int→Bool→Int→Int→Int→Int→LLR→Int) (p1R:List AV→Bool) (p2R:List AV→Bool) (p3R:List AV→Bool) (p4R:List AV→Bool) (p5R:List AV→Bool) (exK:Int→Bool) (nrm:Int→Int→Int→Int→Int × Int × Int × Int) (vld:Int→Int→Int→Int→Bool) (isN:Int→Int→Int→Int→Bool) (pdV:Int→Int→Bool→Int→Int→Int→Int→LLR→Bool) (nonP:Int→Int→Int→Int→Bool) (iL:Int→ByteArray) (inLo:Int→Int) (inHi:Int→Int) (inD:Int→Int) (inE:Int→Int):Prop :=
 ∀ (g h:Bool) (l bs:List (List AV)) (k fr f a b c:Int) (cl:Bool) (nm:ByteArray),StsP l∧RdsP bs∧bs.length≤(1000:Nat)→True∧True→IR9 k→nm.size.le (9223372036854775807:Nat)→(IR9 fr)∧True∧(IR9 f)∧((-9223372036854775808:Int)≤a∧a
≤(9223372036854775807:Int))∧(IR9 b)∧(IR9 c)∧True∧True→StsP l∧bif decide ¬rgV l=(0:Int) then (setO l k nm fr cl f a b c bs=[]∧True)∧rgV l=setE l k nm fr cl f a b c bs∧True else True∧bif !exK k then (setO l k nm fr cl f a b c bs=[]∧True)∧(4:Int)=setE l k nm fr cl f a b c bs∧True else
 True∧bif !nmOk nm then (setO l k nm fr cl f a b c bs=[]∧True)∧(3:Int)=setE l k nm fr cl f a b c bs∧True else RdsP bs∧bif !pdV k fr cl f a b c bs then (setO l k nm fr cl f a b c bs=[]∧True)∧(1:Int)=setE l k nm fr cl f a b c bs∧True else StsP l∧bs.length≤(1000:Nat)∧(((SrcS l∧l.length=l.length)∧mapLL (rnT (rnP [(1040:Nat)] [(1:Nat)])) (mapLL (rnT (rnP [(1:Nat)] [(1040:Nat)])) (hol l (stN l nm)
 (1:Nat)))=hol l (stN l nm) (1:Nat))∧hoP l (stN l nm)=hoP l (stN l nm))∧bif !stH l nm then bif decide ((60:Int)≤(↑l.length:Int)) then (setO l k nm fr cl f a b c bs=[]∧True)∧(2:Int)=setE l k nm fr cl f a b c bs∧True else (l.length=(mapLL (frsA (1040:Nat) (7:Nat) (hoP l (stN l nm))) (mapLL (rnT (rnP [(1:Nat)] [(1040:Nat)])) (mapLL (rnT (rnP [(1040:Nat)] [(1:Nat)])) (mapLL (rnT (rnP [(1:Nat)]
 [(1040:Nat)])) (hol l (stN l nm) (1:Nat)))))).length∧(1:Nat)=1∧[[AV.int .i64 k,.str nm,.sl (7:Nat) false [[AV.int .i64 fr,.bool cl,.int .i64 f,.int .i64 a,.int .i64 b,.int .i64 c,.sl (2:Nat) false bs]]]].length=(1:Nat)∧(0:Int)≤(↑(stN l nm):Int)∧(↑(stN l nm):Int)≤(↑l.length:Int)∧l.length≤(900:Nat))∧bif decide (l.length+(1:Nat)=(List.take (↑(stN l nm):Int).toNat (mapLL (frsA (1040:Nat)
 (7:Nat) (hoP l (stN l nm))) (mapLL (rnT (rnP [(1:Nat)] [(1040:Nat)])) (mapLL (rnT (rnP [(1040:Nat)] [(1:Nat)])) (mapLL (rnT (rnP [(1:Nat)] [(1040:Nat)])) (hol l (stN l nm) (1:Nat))))))++[[AV.int .i64 k,.str nm,.sl (7:Nat) false [[AV.int .i64 fr,.bool cl,.int .i64 f,.int .i64 a,.int .i64 b,.int .i64 c,.sl (2:Nat) false bs]]]]++List.drop (↑(stN l nm):Int).toNat (mapLL (frsA (1040:Nat) (7:Nat)
 (hoP l (stN l nm))) (mapLL (rnT (rnP [(1:Nat)] [(1040:Nat)])) (mapLL (rnT (rnP [(1040:Nat)] [(1:Nat)])) (mapLL (rnT (rnP [(1:Nat)] [(1040:Nat)])) (hol l (stN l nm) (1:Nat))))))).length) then ((True∧List.take (↑(stN l nm):Int).toNat (mapLL (frsA (1040:Nat) (7:Nat) (hoP l (stN l nm))) (mapLL (rnT (rnP [(1:Nat)] [(1040:Nat)])) (mapLL (rnT (rnP [(1040:Nat)] [(1:Nat)])) (mapLL (rnT (rnP [(1:Nat)]
 [(1040:Nat)])) (hol l (stN l nm) (1:Nat))))))++[[AV.int .i64 k,.str nm,.sl (7:Nat) false [[AV.int .i64 fr,.bool cl,.int .i64 f,.int .i64 a,.int .i64 b,.int .i64 c,.sl (2:Nat) false bs]]]]++List.drop (↑(stN l nm):Int).toNat (mapLL (frsA (1040:Nat) (7:Nat) (hoP l (stN l nm))) (mapLL (rnT (rnP [(1:Nat)] [(1040:Nat)])) (mapLL (rnT (rnP [(1040:Nat)] [(1:Nat)])) (mapLL (rnT (rnP [(1:Nat)]
 [(1040:Nat)])) (hol l (stN l nm) (1:Nat))))))=setO l k nm fr cl f a b c bs)∧True)∧(0:Int)=setE l k nm fr cl f a b c bs∧True else False else bif decide ((0:Int)≤(↑(stN l nm):Int)∧(↑(stN l nm):Int) < (↑l.length:Int)) then bif decide (l.length=(mapLL (rnT (rnP [(1:Nat)] [(1040:Nat)])) (mapLL (rnT (rnP [(1040:Nat)] [(1:Nat)])) (mapLL (rnT (rnP [(1:Nat)] [(1040:Nat)])) (hol l (stN l nm)
 (1:Nat))))).length∧(↑(stN l nm):Int).toNat < (mapLL (rnT (rnP [(1:Nat)] [(1040:Nat)])) (mapLL (rnT (rnP [(1040:Nat)] [(1:Nat)])) (mapLL (rnT (rnP [(1:Nat)] [(1040:Nat)])) (hol l (stN l nm) (1:Nat))))).length) then ∃ n,List.take [AV.int .i64 n].length (List.drop (0:Nat) ((mapLL (rnT (rnP [(1:Nat)] [(1040:Nat)])) (mapLL (rnT (rnP [(1040:Nat)] [(1:Nat)])) (mapLL (rnT (rnP [(1:Nat)] [(1040:Nat)])) (hol
 l (stN l nm) (1:Nat))))).getD (↑(stN l nm):Int).toNat []))=[AV.int .i64 n]∧bif decide ¬n=k then (setO l k nm fr cl f a b c bs=[]∧True)∧(7:Int)=setE l k nm fr cl f a b c bs∧True else bif decide (l.length=(mapLL (rnT (rnP [(1:Nat)] [(1040:Nat)])) (mapLL (rnT (rnP [(1040:Nat)] [(1:Nat)])) (mapLL (rnT (rnP [(1:Nat)] [(1040:Nat)])) (hol l (stN l nm) (1:Nat))))).length∧(↑(stN l nm):Int).toNat < (mapLL
 (rnT (rnP [(1:Nat)] [(1040:Nat)])) (mapLL (rnT (rnP [(1040:Nat)] [(1:Nat)])) (mapLL (rnT (rnP [(1:Nat)] [(1040:Nat)])) (hol l (stN l nm) (1:Nat))))).length) then ∃ n s n_1,List.take [AV.int .i64 n,.str s,.rw (1040:Nat) (7:Nat) n_1].length (List.drop (0:Nat) ((mapLL (rnT (rnP [(1:Nat)] [(1040:Nat)])) (mapLL (rnT (rnP [(1040:Nat)] [(1:Nat)])) (mapLL (rnT (rnP [(1:Nat)] [(1040:Nat)])) (hol l (stN l
 nm) (1:Nat))))).getD (↑(stN l nm):Int).toNat []))=[AV.int .i64 n,.str s,.rw (1040:Nat) (7:Nat) n_1]∧(SrcD (hoP l (stN l nm))∧n_1=List.length (hoP l (stN l nm)))∧bif pdH (hoP l (stN l nm)) fr then bif decide (l.length=(mapLL (rnT (rnP [(1:Nat)] [(1040:Nat)])) (mapLL (rnT (rnP [(1040:Nat)] [(1:Nat)])) (mapLL (rnT (rnP [(1:Nat)] [(1040:Nat)])) (hol l (stN l nm) (1:Nat))))).length∧(↑(stN l
 nm):Int).toNat < (mapLL (rnT (rnP [(1:Nat)] [(1040:Nat)])) (mapLL (rnT (rnP [(1040:Nat)] [(1:Nat)])) (mapLL (rnT (rnP [(1:Nat)] [(1040:Nat)])) (hol l (stN l nm) (1:Nat))))).length) then ∃ n,List.take [AV.rw (1040:Nat) (7:Nat) n].length (List.drop (2:Nat) ((mapLL (rnT (rnP [(1:Nat)] [(1040:Nat)])) (mapLL (rnT (rnP [(1040:Nat)] [(1:Nat)])) (mapLL (rnT (rnP [(1:Nat)] [(1040:Nat)])) (hol l (stN l nm)
 (1:Nat))))).getD (↑(stN l nm):Int).toNat []))=[AV.rw (1040:Nat) (7:Nat) n]∧bif decide ((0:Int)≤(↑(pdN (hoP l (stN l nm)) fr):Int)∧(↑(pdN (hoP l (stN l nm)) fr):Int) < (↑n:Int)) then bif decide (n=List.length (hoP l (stN l nm))∧(↑(pdN (hoP l (stN l nm)) fr):Int).toNat < List.length (hoP l (stN l nm))) then bif decide (l.length=(mapLL (frsA (1040:Nat) (7:Nat) (setEl (hoP l (stN l nm)) (↑(pdN (hoP l
 (stN l nm)) fr):Int).toNat (0:Nat) [AV.int .i64 fr,.bool cl,.int .i64 f,.int .i64 a,.int .i64 b,.int .i64 c,.sl (2:Nat) false bs])) (mapLL (rnT (rnP [(1:Nat)] [(1040:Nat)])) (mapLL (rnT (rnP [(1040:Nat)] [(1:Nat)])) (mapLL (rnT (rnP [(1:Nat)] [(1040:Nat)])) (hol l (stN l nm) (1:Nat)))))).length) then ((True∧mapLL (frsA (1040:Nat) (7:Nat) (setEl (hoP l (stN l nm)) (↑(pdN (hoP l (stN l nm))
 fr):Int).toNat (0:Nat) [AV.int .i64 fr,.bool cl,.int .i64 f,.int .i64 a,.int .i64 b,.int .i64 c,.sl (2:Nat) false bs])) (mapLL (rnT (rnP [(1:Nat)] [(1040:Nat)])) (mapLL (rnT (rnP [(1040:Nat)] [(1:Nat)])) (mapLL (rnT (rnP [(1:Nat)] [(1040:Nat)])) (hol l (stN l nm) (1:Nat)))))=setO l k nm fr cl f a b c bs)∧True)∧(0:Int)=setE l k nm fr cl f a b c bs∧True else False else False else False else False
 else bif decide (l.length=(mapLL (rnT (rnP [(1:Nat)] [(1040:Nat)])) (mapLL (rnT (rnP [(1040:Nat)] [(1:Nat)])) (mapLL (rnT (rnP [(1:Nat)] [(1040:Nat)])) (hol l (stN l nm) (1:Nat))))).length∧(↑(stN l nm):Int).toNat < (mapLL (rnT (rnP [(1:Nat)] [(1040:Nat)])) (mapLL (rnT (rnP [(1040:Nat)] [(1:Nat)])) (mapLL (rnT (rnP [(1:Nat)] [(1040:Nat)])) (hol l (stN l nm) (1:Nat))))).length) then ∃ n,List.take
 [AV.rw (1040:Nat) (7:Nat) n].length (List.drop (2:Nat) ((mapLL (rnT (rnP [(1:Nat)] [(1040:Nat)])) (mapLL (rnT (rnP [(1040:Nat)] [(1:Nat)])) (mapLL (rnT (rnP [(1:Nat)] [(1040:Nat)])) (hol l (stN l nm) (1:Nat))))).getD (↑(stN l nm):Int).toNat []))=[AV.rw (1040:Nat) (7:Nat) n]∧bif decide ((8:Int)≤(↑n:Int)) then (setO l k nm fr cl f a b c bs=[]∧True)∧(2:Int)=setE l k nm fr cl f a b c bs∧True else bif
 decide (l.length=(mapLL (rnT (rnP [(1:Nat)] [(1040:Nat)])) (mapLL (rnT (rnP [(1040:Nat)] [(1:Nat)])) (mapLL (rnT (rnP [(1:Nat)] [(1040:Nat)])) (hol l (stN l nm) (1:Nat))))).length∧(↑(stN l nm):Int).toNat < (mapLL (rnT (rnP [(1:Nat)] [(1040:Nat)])) (mapLL (rnT (rnP [(1040:Nat)] [(1:Nat)])) (mapLL (rnT (rnP [(1:Nat)] [(1040:Nat)])) (hol l (stN l nm) (1:Nat))))).length) then ∃ n,List.take [AV.rw
 (1040:Nat) (7:Nat) n].length (List.drop (2:Nat) ((mapLL (rnT (rnP [(1:Nat)] [(1040:Nat)])) (mapLL (rnT (rnP [(1040:Nat)] [(1:Nat)])) (mapLL (rnT (rnP [(1:Nat)] [(1040:Nat)])) (hol l (stN l nm) (1:Nat))))).getD (↑(stN l nm):Int).toNat []))=[AV.rw (1040:Nat) (7:Nat) n]∧(n=List.length (hoP l (stN l nm))∧(1:Nat)=1∧[[AV.int .i64 fr,.bool cl,.int .i64 f,.int .i64 a,.int .i64 b,.int .i64 c,.sl (2:Nat)
 false bs]].length=(1:Nat)∧(0:Int)≤(↑(pdN (hoP l (stN l nm)) fr):Int)∧(↑(pdN (hoP l (stN l nm)) fr):Int)≤(↑n:Int)∧n≤(900:Nat))∧bif decide (l.length=(mapLL (rnT (rnP [(1:Nat)] [(1040:Nat)])) (mapLL (rnT (rnP [(1040:Nat)] [(1:Nat)])) (mapLL (rnT (rnP [(1:Nat)] [(1040:Nat)])) (hol l (stN l nm) (1:Nat))))).length∧(↑(stN l nm):Int).toNat < (mapLL (rnT (rnP [(1:Nat)] [(1040:Nat)])) (mapLL (rnT (rnP
 [(1040:Nat)] [(1:Nat)])) (mapLL (rnT (rnP [(1:Nat)] [(1040:Nat)])) (hol l (stN l nm) (1:Nat))))).length) then bif decide (l.length=(mapLL (frsA (1040:Nat) (7:Nat) (List.take (↑(pdN (hoP l (stN l nm)) fr):Int).toNat (hoP l (stN l nm))++[[AV.int .i64 fr,.bool cl,.int .i64 f,.int .i64 a,.int .i64 b,.int .i64 c,.sl (2:Nat) false bs]]++List.drop (↑(pdN (hoP l (stN l nm)) fr):Int).toNat (hoP l (stN l
 nm)))) (setEl (mapLL (rnT (rnP [(1:Nat)] [(1040:Nat)])) (mapLL (rnT (rnP [(1040:Nat)] [(1:Nat)])) (mapLL (rnT (rnP [(1:Nat)] [(1040:Nat)])) (hol l (stN l nm) (1:Nat))))) (↑(stN l nm):Int).toNat (2:Nat) [AV.rw (1040:Nat) (7:Nat) (n+(1:Nat))])).length) then ((True∧mapLL (frsA (1040:Nat) (7:Nat) (List.take (↑(pdN (hoP l (stN l nm)) fr):Int).toNat (hoP l (stN l nm))++[[AV.int .i64 fr,.bool cl,.int
 .i64 f,.int .i64 a,.int .i64 b,.int .i64 c,.sl (2:Nat) false bs]]++List.drop (↑(pdN (hoP l (stN l nm)) fr):Int).toNat (hoP l (stN l nm)))) (setEl (mapLL (rnT (rnP [(1:Nat)] [(1040:Nat)])) (mapLL (rnT (rnP [(1040:Nat)] [(1:Nat)])) (mapLL (rnT (rnP [(1:Nat)] [(1040:Nat)])) (hol l (stN l nm) (1:Nat))))) (↑(stN l nm):Int).toNat (2:Nat) [AV.rw (1040:Nat) (7:Nat) (n+(1:Nat))])=setO l k nm fr cl f a b
 c bs)∧True)∧(0:Int)=setE l k nm fr cl f a b c bs∧True else False else False else False else False else False else False else False
theorem gset_P:gset_T rgV nmOk setO setE p1R p2R p3R p4R p5R exK nrm vld isN pdV nonP iL inLo inHi inD inE:=by
 unfold gset_T
 intro g h l bs k fr f a b c cl nm ⟨hp,hb,hbl⟩ _
 intros
 have hE:setE l k nm fr cl f a b c bs=setE l k nm fr cl f a b c bs:=rfl
 conv at hE=>rhs; unfold setE
 refine ⟨hp,csx (fun q=>se_err (hE.trans (if_pos q)) q) (fun q=>?_)⟩
 rw [if_neg q] at hE
 have h0:=Decidable.not_not.1 q
 have hz:=rg_zero hp h0
 obtain ⟨l60,p8⟩:=rg_len h0
 refine ⟨trivial,csplit (fun q2=>se_err (hE.trans (if_pos (by simpa using q2))) (by decide)) (fun q2=>?_)⟩
 rw [if_neg (by simpa using q2)] at hE
 refine ⟨trivial,csplit (fun q3=>se_err (hE.trans (if_pos (by simpa using q3))) (by decide)) (fun q3=>?_)⟩
 rw [if_neg (by simpa using q3)] at hE
 refine ⟨hb,csplit (fun q4=>se_err (hE.trans (if_pos (by simpa using q4))) (by decide)) (fun q4=>?_)⟩
 rw [if_neg (by simpa using q4)] at hE
 have X1:mapLL (rnT (rnP [1] [1040])) (hol l (stN l nm) 1)=hol l (stN l nm) 1040:=(flat_rn _).hol hp rfl
 have X2:mapLL (rnT (rnP [1040] [1])) (hol l (stN l nm) 1040)=hol l (stN l nm) 1:=(flat_rn _).hol hp rfl
 have X3:mapLL (frsA 1040 7 (hoP l (stN l nm))) (hol l (stN l nm) 1040)=l:=hol_frs hp _ _
 rw [X1,X2,X1,X3]
 have hiI:stN l nm≤l.length:=fp_le _ _
 have eI:((stN l nm:Nat):Int).toNat=stN l nm:=Int.toNat_natCast _
 rw [eI]
 refine ⟨hp,hbl,⟨⟨⟨hz.src,rfl⟩,rfl⟩,rfl⟩,csplit (fun q5=>?_) (fun q5=>?_)⟩
 ·rw [if_neg (by simpa using q5)] at hE
  refine csx (fun q6=>se_err (hE.trans (if_pos q6)) (by decide)) (fun q6=>?_)
  rw [if_neg q6] at hE
  refine ⟨⟨rfl,rfl,rfl,by omega,by omega,by omega⟩,cd1 ?_ (se_ok hE ?_)⟩
  ·simp only [List.length_append,List.length_take,List.length_drop,List.length_singleton]; omega
  ·unfold setL
   rw [if_neg (by simpa using q5)]; rfl
 ·have q5:stH l nm=true:=by simpa using q5
  rw [if_pos q5] at hE
  have hlt:=stH_lt q5
  obtain ⟨k2,nm2,ps,hrow,hps⟩:=hp.fr (stN l nm) hlt
  have hP:hoP l (stN l nm)=ps:=by unfold hoP; rw [hrow]; rfl
  have hD:seD l nm=ps:=hP
  have hk2:rE (l.getD (stN l nm) [])=k2:=by rw [hrow]; rfl
  have hsrc:SrcD ps:=⟨hps,by rw [← hP]; exact hz.fa _ hlt⟩
  have hl8:ps.length≤8:=hP ▸ p8 _ hlt
  have hL:l.length=(hol l (stN l nm) 1040).length:=(hol_len _ _ _).symm
  have hg:(hol l (stN l nm) 1040).getD (stN l nm) []=[.int .i64 k2,.str nm2,.rw 1040 7 ps.length]:=by
   unfold hol; rw [hP]; exact setEl_at hlt hrow
  have hdn:pdN ps fr≤ps.length:=fp_le _ _
  have eD:((pdN ps fr:Nat):Int).toNat=pdN ps fr:=Int.toNat_natCast _
  rw [hk2,hD] at hE
  rw [hP,eD]
  have hS:setL l k nm fr (pdA fr cl f a b c bs)=setEl l (stN l nm) 2 [.sl 7 false (putP ps fr (pdA fr cl f a b c bs))]:=by unfold setL; rw [if_pos q5,hD]
  refine cd1 (by omega) (cd1 ⟨hL,by omega⟩ ⟨k2,by rw [hg]; rfl,csx (fun q6=>se_err (hE.trans (if_pos q6)) (by decide)) (fun q6=>?_)⟩)
  rw [if_neg q6] at hE
  refine cd1 ⟨hL,by omega⟩ ⟨k2,nm2,ps.length,by rw [hg]; rfl,⟨hsrc,rfl⟩,csplit (fun q7=>?_) (fun q7=>?_)⟩
  ·rw [if_pos q7] at hE
   have hjl:pdN ps fr < ps.length:=by
    have:=q7
    unfold pdH fpB at this
    rw [Bool.and_eq_true] at this
    exact of_decide_eq_true this.1
   refine cd1 ⟨hL,by omega⟩ ⟨ps.length,by rw [hg]; rfl,cd1 (by omega) (cd1 ⟨rfl,by omega⟩ (cd1 (by rw [mapLL_len]; exact hL) (se_ok hE ?_)))⟩
   rw [hS]
   unfold putP
   rw [if_pos q7]
   have:=st_put hp (stN l nm) 1040 (setEl ps (pdN ps fr) 0 (pdA fr cl f a b c bs))
   rw [setEl_len] at this
   unfold hol
   rw [hP]
   exact this
  ·rw [if_neg (by rw [q7]; decide)] at hE
   refine cd1 ⟨hL,by omega⟩ ⟨ps.length,by rw [hg]; rfl,csx (fun q8=>se_err (hE.trans (if_pos q8)) (by decide)) (fun q8=>?_)⟩
   rw [if_neg q8] at hE
   refine cd1 ⟨hL,by omega⟩ ⟨ps.length,by rw [hg]; rfl,⟨rfl,rfl,rfl,by omega,by omega,by omega⟩,cd1 ⟨hL,by omega⟩ (cd1 (by rw [mapLL_len,setEl_len]; exact hL) (se_ok hE ?_))⟩
   rw [hS]
   unfold putP
   rw [if_neg (by rw [q7]; decide)]
   have hq:ps.length+1=(ps.take (pdN ps fr)++[pdA fr cl f a b c bs]++ps.drop (pdN ps fr)).length:=by
    simp only [List.length_append,List.length_take,List.length_drop,List.length_singleton]; omega
   have:=st_put hp (stN l nm) 1040 (ps.take (pdN ps fr)++[pdA fr cl f a b c bs]++ps.drop (pdN ps fr))
   unfold hol
   rw [setEl_twice hlt hrow,hq]
   exact this
def gset_S (rgV:LLR→Int) (nmOk:ByteArray→Bool) (setO:LLR→Int→ByteArray→Int→Bool→Int→Int→Int→Int→LLR→LLR) (setE:LLR→Int→ByteArray→Int→Bool→Int→Int→Int→Int→LLR→Int) (p1R:List AV→Bool) (p2R:List AV→Bool) (p3R:List AV→Bool) (p4R:List AV→Bool) (p5R:List AV→Bool) (exK:Int→Bool) (nrm:Int→Int→Int→Int→Int × Int × Int × Int) (vld:Int→Int→Int→Int→Bool) (isN:Int→Int→Int→Int→Bool) (pdV:Int→Int→Bool→Int→Int→Int→Int→LLR→Bool) (nonP:Int→Int→Int→Int→Bool) (iL:Int→ByteArray) (inLo:Int→Int) (inHi:Int→Int) (inD:Int→Int) (inE:Int→Int):Prop:=∀ (g h:Bool) (l bs:List (List AV)) (k fr f a b c:Int) (cl:Bool) (nm:ByteArray),StsP l∧RdsP bs∧bs.length≤1000→fnK Tryz.prog { glob:=glb,spec:=lk [(28,(gvalidR_s rgV p1R p2R p3R p4R p5R)),(45,(gexists_s exK)),(56,(gname_s nmOk)),(57,(gvalidP_s nrm vld isN pdV nonP iL inLo inHi inD inE)),(59,cloRd_s)],specH:=lk [(60,sinS_s),(62,sinP_s),(58,(gcop_s (Go.Proofs.YtldiagnbagpliaaGreatDoor.stN l nm))),(47,(gstB_s l (Go.Proofs.YtldiagnbagpliaaGreatDoor.stN l nm))),(61,gperB_s)],shape:=[77,84,94,106,114],slz:=[(84,[1040007]),(94,[1040007]),(106,[1040007]),(114,[1040007])],nowf:=true,bst:=[59] } { nt:=119,drop:=drp [(1,393216),(2,524288),(3,6291456),(4,117440512),(5,134217728),(6,3758096384),(7,4294967296),(8,257698037760),(9,274877906944),(10,1649267441664),(11,32985348833280),(12,2216615441596416),(13,2251799813685248),(14,63050394783186944),(15,144115188075855872),(16,590007579982553939968),(17,590295810358705651712),(18,17708874310761169551360),(19,585573443875836006498304),(20,1208925819614629174706176),(21,1235522187646151016549711872),(22,2534063260417173422718507286528),(23,5070602400912917605986812821504),(24,1287933009831881071920650456662016),(25,163557351043847070298710634370433024),(26,166153499473114484112975882535043072),(27,332306998946228968225951765070086144)],act:=fun id=>cond (Nat.beq id 16||Nat.beq id 27) [.frz 1040,.cls 40] [] } (fun _ _=>none) 6 Tryz.f26 [.agg [.sl 3 g l],.int .i64 k,.str nm,.agg [.int .i64 fr,.bool cl,.int .i64 f,.int .i64 a,.int .i64 b,.int .i64 c,.sl 2 h bs]] (.tup [.agg [.sl 3 false (setO l k nm fr cl f a b c bs)],.int .i64 (setE l k nm fr cl f a b c bs)])
theorem gset_e (rgV:LLR→Int) (nmOk:ByteArray→Bool) (setO:LLR→Int→ByteArray→Int→Bool→Int→Int→Int→Int→LLR→LLR) (setE:LLR→Int→ByteArray→Int→Bool→Int→Int→Int→Int→LLR→Int) (p1R:List AV→Bool) (p2R:List AV→Bool) (p3R:List AV→Bool) (p4R:List AV→Bool) (p5R:List AV→Bool) (exK:Int→Bool) (nrm:Int→Int→Int→Int→Int × Int × Int × Int) (vld:Int→Int→Int→Int→Bool) (isN:Int→Int→Int→Int→Bool) (pdV:Int→Int→Bool→Int→Int→Int→Int→LLR→Bool) (nonP:Int→Int→Int→Int→Bool) (iL:Int→ByteArray) (inLo:Int→Int) (inHi:Int→Int) (inD:Int→Int) (inE:Int→Int):gset_T rgV nmOk setO setE p1R p2R p3R p4R p5R exK nrm vld isN pdV nonP iL inLo inHi inD inE=gset_S rgV nmOk setO setE p1R p2R p3R p4R p5R exK nrm vld isN pdV nonP iL inLo inHi inD inE:=by kernel_rfl
theorem gset_v:gset_S rgV nmOk setO setE p1R p2R p3R p4R p5R exK nrm vld isN pdV nonP iL inLo inHi inD inE:=Eq.mp (gset_e ..) (gset_P)
theorem gset_ok:SOK Tryz.prog glb 26 gset_s:=by
 refine ⟨fok Tryz.func26 (by kernel_rfl) (by kernel_rfl),?_⟩
 intro xs pre r h hp
 unfold gset_s at h
 split at h
 ·rename_i g l k nm fr cl f a b c hh bs
  simp only [Option.some.injEq,Prod.mk.injEq] at h
  obtain ⟨h1,h2⟩:=h
  subst h1 h2
  exact fnK_sound tyNil (by exact specOK rfl rfl ⟨gvalidR_ok,gexists_ok glb,gname_ok glb,gvalidP_ok,cloRd_ok glb,trivial⟩ ⟨sinS_ok glb,sinP_ok glb,gcop_ok (stN l nm) glb,gstB_ok l (stN l nm) glb,gperB_ok glb,trivial⟩) (by kernel_rfl) Tryz.func26 rfl (gset_v _ _ _ _ _ _ _ _ _ _ _ _ hp)
 ·cases h
end Go.Proofs.YtldiagnbagpliaaGreatDoor
namespace Go.Proofs.YtldiagnbagpliaaGreatDoor
open Go
set_option linter.unusedVariables false
set_option linter.unusedSimpArgs false
def awN:ByteArray:=⟨#[(48:UInt8),(49:UInt8),(50:UInt8),(51:UInt8),(52:UInt8)]⟩
def awP1:List AV:=pdA 0 false 0 840 0 0 [[.int .i64 1,.int .i64 3]]
def awP2:List AV:=pdA 1000 false 0 0 840 0 []
def awL1:LLR:=[stA 1 awN [awP1]]
def awL2:LLR:=[stA 1 awN [awP1,awP2]]
theorem aw_e1:setO [] 1 ⟨#[(48:UInt8),(49:UInt8),(50:UInt8),(51:UInt8),(52:UInt8)]⟩ 0 false 0 840 0 0 [[.int .i64 1,.int .i64 3]]=awL1:=by kernel_rfl
theorem aw_e2:setO awL1 1 ⟨#[(48:UInt8),(49:UInt8),(50:UInt8),(51:UInt8),(52:UInt8)]⟩ 1000 false 0 0 840 0 []=awL2:=by kernel_rfl
theorem rds_lit1 {e v:Int} (h:rng .i64 e) (h2:rng .i64 v):RdsP [[.int .i64 e,.int .i64 v]]:=rds_add rdsP_nil h h2 (by simp)
theorem aw_s1:StsP awL1:=⟨fun i hi=>by
 have hi:i=0:=by simp [awL1] at hi; exact hi
 subst hi
 refine ⟨1,awN,[awP1],rfl,fun j hj=>?_,by simp⟩
 have hj:j=0:=by simpa using hj
 subst hj
 exact ⟨0,false,0,840,0,0,_,rfl,rds_lit1 (by decide) (by decide),by decide⟩,by simp [awL1]⟩
theorem aw_s2:StsP awL2:=⟨fun i hi=>by
 have hi:i=0:=by simp [awL2] at hi; exact hi
 subst hi
 refine ⟨1,awN,[awP1,awP2],rfl,fun j hj=>?_,by simp⟩
 have hj:j=0∨j=1:=by simp at hj; omega
 rcases hj with rfl | rfl
 ·exact ⟨0,false,0,840,0,0,_,rfl,rds_lit1 (by decide) (by decide),by decide⟩
 ·exact ⟨1000,false,0,0,840,0,_,rfl,rdsP_nil,by decide⟩,by simp [awL2]⟩
theorem sts_nil:StsP []:=⟨fun i h=>by simp at h,by simp⟩
def lawake_s (apE:LLR→Int→ByteArray→Int→Int→Int→Int→Int→LLR→Int) (apX:Nat→LLR→Int→ByteArray→Int→Int→Int) (apP:LLR→ByteArray→Int→List AV) (zI:Int→Int→Int) (zS:Int→LLR→LLR) (unb:LLR→LLR→LLR) (pB:List AV→LLR):Sp
 | []=>some (True,.bool true)
 | _=>none
def lawake_T (apE:LLR→Int→ByteArray→Int→Int→Int→Int→Int→LLR→Int) (apX:Nat→LLR→Int→ByteArray→Int→Int→Int) (apP:LLR→ByteArray→Int→List AV) (zI:Int→Int→Int) (zS:Int→LLR→LLR) (unb:LLR→LLR→LLR) (pB:List AV→LLR) (rgV:LLR→Int) (stN:LLR→ByteArray→Nat) (stH:LLR→ByteArray→Bool) (pI:Nat→List AV→Int) (pC:List AV→Bool) (atR:LLR→Int→List AV) (atB:LLR→Int→Bool) (exK:Int→Bool) (vdE:LLR→Int) (isN:Int→Int→Int→Int→Bool) (zN:Int→ByteArray→ByteArray):Prop :=
  (StsP []∧RdsP [[AV.int .i64 (1:Int),.int .i64 (3:Int)]]∧(1:Nat)≤(1000:Nat))∧(StsP (setO [] (1:Int) { data:=#[(48:UInt8),(49:UInt8),(50:UInt8),(51:UInt8),(52:UInt8)] } (0:Int) false (0:Int) (840:Int) (0:Int) (0:Int) [[AV.int .i64 (1:Int),.int .i64 (3:Int)]])∧RdsP []∧(0:Nat)≤(1000:Nat))∧(StsP (setO (setO [] (1:Int) { data:=#[(48:UInt8),(49:UInt8),(50:UInt8),(51:UInt8),(52 :
 UInt8)] } (0:Int) false (0:Int) (840:Int) (0:Int) (0:Int) [[AV.int .i64 (1:Int),.int .i64 (3:Int)]]) (1:Int) { data:=#[(48:UInt8),(49:UInt8),(50:UInt8),(51:UInt8),(52:UInt8)] } (1000:Int) false (0:Int) (0:Int) (840:Int) (0:Int) [])∧RdsP [[AV.int .i64 (1:Int),.int .i64 (10132:Int)]]∧(1:Nat)≤(1000:Nat))∧(StsP (setO (setO [] (1:Int) { data:=#[(48:UInt8),(49:UInt8),(50:UInt8),(51
:UInt8),(52:UInt8)] } (0:Int) false (0:Int) (840:Int) (0:Int) (0:Int) [[AV.int .i64 (1:Int),.int .i64 (3:Int)]]) (1:Int) { data:=#[(48:UInt8),(49:UInt8),(50:UInt8),(51:UInt8),(52:UInt8)] } (1000:Int) false (0:Int) (0:Int) (840:Int) (0:Int) [])∧RdsP [[AV.int .i64 (1:Int),.int .i64 (10132:Int)]]∧(1:Nat)≤(1000:Nat))∧bif decide (apE (setO (setO [] (1:Int) { data:=#[(48:UInt8),(49 :
 UInt8),(50:UInt8),(51:UInt8),(52:UInt8)] } (0:Int) false (0:Int) (840:Int) (0:Int) (0:Int) [[AV.int .i64 (1:Int),.int .i64 (3:Int)]]) (1:Int) { data:=#[(48:UInt8),(49:UInt8),(50:UInt8),(51:UInt8),(52:UInt8)] } (1000:Int) false (0:Int) (0:Int) (840:Int) (0:Int) []) (1:Int) { data:=#[(48:UInt8),(49:UInt8),(50:UInt8),(51:UInt8),(52:UInt8)] } (999:Int) (0:Int) (0:Int)
 (0:Int) (0:Int) [[AV.int .i64 (1:Int),.int .i64 (10132:Int)]]=(0:Int)) then bif decide (apE (setO (setO [] (1:Int) { data:=#[(48:UInt8),(49:UInt8),(50:UInt8),(51:UInt8),(52:UInt8)] } (0:Int) false (0:Int) (840:Int) (0:Int) (0:Int) [[AV.int .i64 (1:Int),.int .i64 (3:Int)]]) (1:Int) { data:=#[(48:UInt8),(49:UInt8),(50:UInt8),(51:UInt8),(52:UInt8)] } (1000:Int) false (0:Int)
 (0:Int) (840:Int) (0:Int) []) (1:Int) { data:=#[(48:UInt8),(49:UInt8),(50:UInt8),(51:UInt8),(52:UInt8)] } (1000:Int) (0:Int) (0:Int) (0:Int) (0:Int) [[AV.int .i64 (1:Int),.int .i64 (10132:Int)]]=(0:Int)) then bif decide (zI (apE (setO (setO [] (1:Int) { data:=#[(48:UInt8),(49:UInt8),(50:UInt8),(51:UInt8),(52:UInt8)] } (0:Int) false (0:Int) (840:Int) (0:Int) (0:Int) [[AV.int
 .i64 (1:Int),.int .i64 (3:Int)]]) (1:Int) { data:=#[(48:UInt8),(49:UInt8),(50:UInt8),(51:UInt8),(52:UInt8)] } (1000:Int) false (0:Int) (0:Int) (840:Int) (0:Int) []) (1:Int) { data:=#[(48:UInt8),(49:UInt8),(50:UInt8),(51:UInt8),(52:UInt8)] } (999:Int) (0:Int) (0:Int) (0:Int) (0:Int) [[AV.int .i64 (1:Int),.int .i64 (10132:Int)]]) (apX (2:Nat) (setO (setO [] (1:Int) { data :=
 #[(48:UInt8),(49:UInt8),(50:UInt8),(51:UInt8),(52:UInt8)] } (0:Int) false (0:Int) (840:Int) (0:Int) (0:Int) [[AV.int .i64 (1:Int),.int .i64 (3:Int)]]) (1:Int) { data:=#[(48:UInt8),(49:UInt8),(50:UInt8),(51:UInt8),(52:UInt8)] } (1000:Int) false (0:Int) (0:Int) (840:Int) (0:Int) []) (1:Int) { data:=#[(48:UInt8),(49:UInt8),(50:UInt8),(51:UInt8),(52:UInt8)] } (999:Int)
 (0:Int))=(0:Int))&&(decide (zI (apE (setO (setO [] (1:Int) { data:=#[(48:UInt8),(49:UInt8),(50:UInt8),(51:UInt8),(52:UInt8)] } (0:Int) false (0:Int) (840:Int) (0:Int) (0:Int) [[AV.int .i64 (1:Int),.int .i64 (3:Int)]]) (1:Int) { data:=#[(48:UInt8),(49:UInt8),(50:UInt8),(51:UInt8),(52:UInt8)] } (1000:Int) false (0:Int) (0:Int) (840:Int) (0:Int) []) (1:Int) { data:=#[(48 :
 UInt8),(49:UInt8),(50:UInt8),(51:UInt8),(52:UInt8)] } (999:Int) (0:Int) (0:Int) (0:Int) (0:Int) [[AV.int .i64 (1:Int),.int .i64 (10132:Int)]]) (apX (3:Nat) (setO (setO [] (1:Int) { data:=#[(48:UInt8),(49:UInt8),(50:UInt8),(51:UInt8),(52:UInt8)] } (0:Int) false (0:Int) (840:Int) (0:Int) (0:Int) [[AV.int .i64 (1:Int),.int .i64 (3:Int)]]) (1:Int) { data:=#[(48:UInt8),(49 :
 UInt8),(50:UInt8),(51:UInt8),(52:UInt8)] } (1000:Int) false (0:Int) (0:Int) (840:Int) (0:Int) []) (1:Int) { data:=#[(48:UInt8),(49:UInt8),(50:UInt8),(51:UInt8),(52:UInt8)] } (999:Int) (0:Int))=(840:Int))&&(decide (zI (apE (setO (setO [] (1:Int) { data:=#[(48:UInt8),(49:UInt8),(50:UInt8),(51:UInt8),(52:UInt8)] } (0:Int) false (0:Int) (840:Int) (0:Int) (0:Int) [[AV.int
 .i64 (1:Int),.int .i64 (3:Int)]]) (1:Int) { data:=#[(48:UInt8),(49:UInt8),(50:UInt8),(51:UInt8),(52:UInt8)] } (1000:Int) false (0:Int) (0:Int) (840:Int) (0:Int) []) (1:Int) { data:=#[(48:UInt8),(49:UInt8),(50:UInt8),(51:UInt8),(52:UInt8)] } (999:Int) (0:Int) (0:Int) (0:Int) (0:Int) [[AV.int .i64 (1:Int),.int .i64 (10132:Int)]]) (apX (4:Nat) (setO (setO [] (1:Int) { data :=
 #[(48:UInt8),(49:UInt8),(50:UInt8),(51:UInt8),(52:UInt8)] } (0:Int) false (0:Int) (840:Int) (0:Int) (0:Int) [[AV.int .i64 (1:Int),.int .i64 (3:Int)]]) (1:Int) { data:=#[(48:UInt8),(49:UInt8),(50:UInt8),(51:UInt8),(52:UInt8)] } (1000:Int) false (0:Int) (0:Int) (840:Int) (0:Int) []) (1:Int) { data:=#[(48:UInt8),(49:UInt8),(50:UInt8),(51:UInt8),(52:UInt8)] } (999:Int)
 (0:Int))=(0:Int))&&(decide (zI (apE (setO (setO [] (1:Int) { data:=#[(48:UInt8),(49:UInt8),(50:UInt8),(51:UInt8),(52:UInt8)] } (0:Int) false (0:Int) (840:Int) (0:Int) (0:Int) [[AV.int .i64 (1:Int),.int .i64 (3:Int)]]) (1:Int) { data:=#[(48:UInt8),(49:UInt8),(50:UInt8),(51:UInt8),(52:UInt8)] } (1000:Int) false (0:Int) (0:Int) (840:Int) (0:Int) []) (1:Int) { data:=#[(48 :
 UInt8),(49:UInt8),(50:UInt8),(51:UInt8),(52:UInt8)] } (999:Int) (0:Int) (0:Int) (0:Int) (0:Int) [[AV.int .i64 (1:Int),.int .i64 (10132:Int)]]) (apX (5:Nat) (setO (setO [] (1:Int) { data:=#[(48:UInt8),(49:UInt8),(50:UInt8),(51:UInt8),(52:UInt8)] } (0:Int) false (0:Int) (840:Int) (0:Int) (0:Int) [[AV.int .i64 (1:Int),.int .i64 (3:Int)]]) (1:Int) { data:=#[(48:UInt8),(49 :
 UInt8),(50:UInt8),(51:UInt8),(52:UInt8)] } (1000:Int) false (0:Int) (0:Int) (840:Int) (0:Int) []) (1:Int) { data:=#[(48:UInt8),(49:UInt8),(50:UInt8),(51:UInt8),(52:UInt8)] } (999:Int) (0:Int))=(0:Int))&&true))) then bif decide ((0:Int)≤(0:Int)∧(0:Int) < (↑(List.length (zS (apE (setO (setO [] (1:Int) { data:=#[(48:UInt8),(49:UInt8),(50:UInt8),(51:UInt8),(52:UInt8)]
 } (0:Int) false (0:Int) (840:Int) (0:Int) (0:Int) [[AV.int .i64 (1:Int),.int .i64 (3:Int)]]) (1:Int) { data:=#[(48:UInt8),(49:UInt8),(50:UInt8),(51:UInt8),(52:UInt8)] } (1000:Int) false (0:Int) (0:Int) (840:Int) (0:Int) []) (1:Int) { data:=#[(48:UInt8),(49:UInt8),(50:UInt8),(51:UInt8),(52:UInt8)] } (999:Int) (0:Int) (0:Int) (0:Int) (0:Int) [[AV.int .i64 (1:Int),.int .i64
 (10132:Int)]]) (unb [[AV.int .i64 (1:Int),.int .i64 (10132:Int)]] (pB (apP (setO (setO [] (1:Int) { data:=#[(48:UInt8),(49:UInt8),(50:UInt8),(51:UInt8),(52:UInt8)] } (0:Int) false (0:Int) (840:Int) (0:Int) (0:Int) [[AV.int .i64 (1:Int),.int .i64 (3:Int)]]) (1:Int) { data:=#[(48:UInt8),(49:UInt8),(50:UInt8),(51:UInt8),(52:UInt8)] } (1000:Int) false (0:Int) (0:Int) (840:Int)
 (0:Int) []) { data:=#[(48:UInt8),(49:UInt8),(50:UInt8),(51:UInt8),(52:UInt8)] } (999:Int)))))):Int)) then ∃ n,List.take [AV.int .i64 n].length (List.drop (1:Nat) (List.getD (zS (apE (setO (setO [] (1:Int) { data:=#[(48:UInt8),(49:UInt8),(50:UInt8),(51:UInt8),(52:UInt8)] } (0:Int) false (0:Int) (840:Int) (0:Int) (0:Int) [[AV.int .i64 (1:Int),.int .i64 (3:Int)]]) (1:Int) {
 data:=#[(48:UInt8),(49:UInt8),(50:UInt8),(51:UInt8),(52:UInt8)] } (1000:Int) false (0:Int) (0:Int) (840:Int) (0:Int) []) (1:Int) { data:=#[(48:UInt8),(49:UInt8),(50:UInt8),(51:UInt8),(52:UInt8)] } (999:Int) (0:Int) (0:Int) (0:Int) (0:Int) [[AV.int .i64 (1:Int),.int .i64 (10132:Int)]]) (unb [[AV.int .i64 (1:Int),.int .i64 (10132:Int)]] (pB (apP (setO (setO [] (1:Int) { data
:=#[(48:UInt8),(49:UInt8),(50:UInt8),(51:UInt8),(52:UInt8)] } (0:Int) false (0:Int) (840:Int) (0:Int) (0:Int) [[AV.int .i64 (1:Int),.int .i64 (3:Int)]]) (1:Int) { data:=#[(48:UInt8),(49:UInt8),(50:UInt8),(51:UInt8),(52:UInt8)] } (1000:Int) false (0:Int) (0:Int) (840:Int) (0:Int) []) { data:=#[(48:UInt8),(49:UInt8),(50:UInt8),(51:UInt8),(52:UInt8)] } (999:Int)))))
 (0:Nat) []))=[AV.int .i64 n]∧bif decide (n=(10129:Int)) then bif decide (zI (apE (setO (setO [] (1:Int) { data:=#[(48:UInt8),(49:UInt8),(50:UInt8),(51:UInt8),(52:UInt8)] } (0:Int) false (0:Int) (840:Int) (0:Int) (0:Int) [[AV.int .i64 (1:Int),.int .i64 (3:Int)]]) (1:Int) { data:=#[(48:UInt8),(49:UInt8),(50:UInt8),(51:UInt8),(52:UInt8)] } (1000:Int) false (0:Int) (0:Int)
 (840:Int) (0:Int) []) (1:Int) { data:=#[(48:UInt8),(49:UInt8),(50:UInt8),(51:UInt8),(52:UInt8)] } (1000:Int) (0:Int) (0:Int) (0:Int) (0:Int) [[AV.int .i64 (1:Int),.int .i64 (10132:Int)]]) (apX (2:Nat) (setO (setO [] (1:Int) { data:=#[(48:UInt8),(49:UInt8),(50:UInt8),(51:UInt8),(52:UInt8)] } (0:Int) false (0:Int) (840:Int) (0:Int) (0:Int) [[AV.int .i64 (1:Int),.int .i64
 (3:Int)]]) (1:Int) { data:=#[(48:UInt8),(49:UInt8),(50:UInt8),(51:UInt8),(52:UInt8)] } (1000:Int) false (0:Int) (0:Int) (840:Int) (0:Int) []) (1:Int) { data:=#[(48:UInt8),(49:UInt8),(50:UInt8),(51:UInt8),(52:UInt8)] } (1000:Int) (0:Int))=(0:Int))&&(decide (zI (apE (setO (setO [] (1:Int) { data:=#[(48:UInt8),(49:UInt8),(50:UInt8),(51:UInt8),(52:UInt8)] } (0:Int)
 false (0:Int) (840:Int) (0:Int) (0:Int) [[AV.int .i64 (1:Int),.int .i64 (3:Int)]]) (1:Int) { data:=#[(48:UInt8),(49:UInt8),(50:UInt8),(51:UInt8),(52:UInt8)] } (1000:Int) false (0:Int) (0:Int) (840:Int) (0:Int) []) (1:Int) { data:=#[(48:UInt8),(49:UInt8),(50:UInt8),(51:UInt8),(52:UInt8)] } (1000:Int) (0:Int) (0:Int) (0:Int) (0:Int) [[AV.int .i64 (1:Int),.int .i64
 (10132:Int)]]) (apX (3:Nat) (setO (setO [] (1:Int) { data:=#[(48:UInt8),(49:UInt8),(50:UInt8),(51:UInt8),(52:UInt8)] } (0:Int) false (0:Int) (840:Int) (0:Int) (0:Int) [[AV.int .i64 (1:Int),.int .i64 (3:Int)]]) (1:Int) { data:=#[(48:UInt8),(49:UInt8),(50:UInt8),(51:UInt8),(52:UInt8)] } (1000:Int) false (0:Int) (0:Int) (840:Int) (0:Int) []) (1:Int) { data:=#[(48:UInt8),(49
:UInt8),(50:UInt8),(51:UInt8),(52:UInt8)] } (1000:Int) (0:Int))=(0:Int))&&(decide (zI (apE (setO (setO [] (1:Int) { data:=#[(48:UInt8),(49:UInt8),(50:UInt8),(51:UInt8),(52:UInt8)] } (0:Int) false (0:Int) (840:Int) (0:Int) (0:Int) [[AV.int .i64 (1:Int),.int .i64 (3:Int)]]) (1:Int) { data:=#[(48:UInt8),(49:UInt8),(50:UInt8),(51:UInt8),(52:UInt8)] } (1000:Int) false
 (0:Int) (0:Int) (840:Int) (0:Int) []) (1:Int) { data:=#[(48:UInt8),(49:UInt8),(50:UInt8),(51:UInt8),(52:UInt8)] } (1000:Int) (0:Int) (0:Int) (0:Int) (0:Int) [[AV.int .i64 (1:Int),.int .i64 (10132:Int)]]) (apX (4:Nat) (setO (setO [] (1:Int) { data:=#[(48:UInt8),(49:UInt8),(50:UInt8),(51:UInt8),(52:UInt8)] } (0:Int) false (0:Int) (840:Int) (0:Int) (0:Int) [[AV.int .i64
 (1:Int),.int .i64 (3:Int)]]) (1:Int) { data:=#[(48:UInt8),(49:UInt8),(50:UInt8),(51:UInt8),(52:UInt8)] } (1000:Int) false (0:Int) (0:Int) (840:Int) (0:Int) []) (1:Int) { data:=#[(48:UInt8),(49:UInt8),(50:UInt8),(51:UInt8),(52:UInt8)] } (1000:Int) (0:Int))=(840:Int))&&(decide (zI (apE (setO (setO [] (1:Int) { data:=#[(48:UInt8),(49:UInt8),(50:UInt8),(51:UInt8),(52
:UInt8)] } (0:Int) false (0:Int) (840:Int) (0:Int) (0:Int) [[AV.int .i64 (1:Int),.int .i64 (3:Int)]]) (1:Int) { data:=#[(48:UInt8),(49:UInt8),(50:UInt8),(51:UInt8),(52:UInt8)] } (1000:Int) false (0:Int) (0:Int) (840:Int) (0:Int) []) (1:Int) { data:=#[(48:UInt8),(49:UInt8),(50:UInt8),(51:UInt8),(52:UInt8)] } (1000:Int) (0:Int) (0:Int) (0:Int) (0:Int) [[AV.int .i64
 (1:Int),.int .i64 (10132:Int)]]) (apX (5:Nat) (setO (setO [] (1:Int) { data:=#[(48:UInt8),(49:UInt8),(50:UInt8),(51:UInt8),(52:UInt8)] } (0:Int) false (0:Int) (840:Int) (0:Int) (0:Int) [[AV.int .i64 (1:Int),.int .i64 (3:Int)]]) (1:Int) { data:=#[(48:UInt8),(49:UInt8),(50:UInt8),(51:UInt8),(52:UInt8)] } (1000:Int) false (0:Int) (0:Int) (840:Int) (0:Int) []) (1:Int) { data :=
 #[(48:UInt8),(49:UInt8),(50:UInt8),(51:UInt8),(52:UInt8)] } (1000:Int) (0:Int))=(0:Int))&&true))) then bif decide ((0:Int)≤(0:Int)∧(0:Int) < (↑(List.length (zS (apE (setO (setO [] (1:Int) { data:=#[(48:UInt8),(49:UInt8),(50:UInt8),(51:UInt8),(52:UInt8)] } (0:Int) false (0:Int) (840:Int) (0:Int) (0:Int) [[AV.int .i64 (1:Int),.int .i64 (3:Int)]]) (1:Int) { data:=#[(48 :
 UInt8),(49:UInt8),(50:UInt8),(51:UInt8),(52:UInt8)] } (1000:Int) false (0:Int) (0:Int) (840:Int) (0:Int) []) (1:Int) { data:=#[(48:UInt8),(49:UInt8),(50:UInt8),(51:UInt8),(52:UInt8)] } (1000:Int) (0:Int) (0:Int) (0:Int) (0:Int) [[AV.int .i64 (1:Int),.int .i64 (10132:Int)]]) (unb [[AV.int .i64 (1:Int),.int .i64 (10132:Int)]] (pB (apP (setO (setO [] (1:Int) { data:=#[(48 :
 UInt8),(49:UInt8),(50:UInt8),(51:UInt8),(52:UInt8)] } (0:Int) false (0:Int) (840:Int) (0:Int) (0:Int) [[AV.int .i64 (1:Int),.int .i64 (3:Int)]]) (1:Int) { data:=#[(48:UInt8),(49:UInt8),(50:UInt8),(51:UInt8),(52:UInt8)] } (1000:Int) false (0:Int) (0:Int) (840:Int) (0:Int) []) { data:=#[(48:UInt8),(49:UInt8),(50:UInt8),(51:UInt8),(52:UInt8)] } (1000:Int)))))):Int))
 then ∃ n,List.take [AV.int .i64 n].length (List.drop (1:Nat) (List.getD (zS (apE (setO (setO [] (1:Int) { data:=#[(48:UInt8),(49:UInt8),(50:UInt8),(51:UInt8),(52:UInt8)] } (0:Int) false (0:Int) (840:Int) (0:Int) (0:Int) [[AV.int .i64 (1:Int),.int .i64 (3:Int)]]) (1:Int) { data:=#[(48:UInt8),(49:UInt8),(50:UInt8),(51:UInt8),(52:UInt8)] } (1000:Int) false (0:Int) (0:Int)
 (840:Int) (0:Int) []) (1:Int) { data:=#[(48:UInt8),(49:UInt8),(50:UInt8),(51:UInt8),(52:UInt8)] } (1000:Int) (0:Int) (0:Int) (0:Int) (0:Int) [[AV.int .i64 (1:Int),.int .i64 (10132:Int)]]) (unb [[AV.int .i64 (1:Int),.int .i64 (10132:Int)]] (pB (apP (setO (setO [] (1:Int) { data:=#[(48:UInt8),(49:UInt8),(50:UInt8),(51:UInt8),(52:UInt8)] } (0:Int) false (0:Int) (840:Int)
 (0:Int) (0:Int) [[AV.int .i64 (1:Int),.int .i64 (3:Int)]]) (1:Int) { data:=#[(48:UInt8),(49:UInt8),(50:UInt8),(51:UInt8),(52:UInt8)] } (1000:Int) false (0:Int) (0:Int) (840:Int) (0:Int) []) { data:=#[(48:UInt8),(49:UInt8),(50:UInt8),(51:UInt8),(52:UInt8)] } (1000:Int))))) (0:Nat) []))=[AV.int .i64 n]∧decide (n=(10132:Int))=true else False else false=true else false=true else
 False else false=true else false=true else false=true
theorem lawake_P:lawake_T apE apX apP zI zS unb pB rgV stN stH pI pC atR atB exK vdE isN zN:=by
 unfold lawake_T
 rw [aw_e1,aw_e2]
 exact ⟨⟨sts_nil,rds_lit1 (by decide) (by decide),by decide⟩,⟨aw_s1,rdsP_nil,by decide⟩,⟨aw_s2,rds_lit1 (by decide) (by decide),by decide⟩,⟨aw_s2,rds_lit1 (by decide) (by decide),by decide⟩,
  c1 (by kernel_rfl) (c1 (by kernel_rfl) (c1 (by kernel_rfl) (c1 (by kernel_rfl) ⟨10129,by kernel_rfl,c1 (by kernel_rfl) (c1 (by kernel_rfl) (c1 (by kernel_rfl) ⟨10132,by kernel_rfl,by kernel_rfl⟩))⟩)))⟩
def lawake_S (apE:LLR→Int→ByteArray→Int→Int→Int→Int→Int→LLR→Int) (apX:Nat→LLR→Int→ByteArray→Int→Int→Int) (apP:LLR→ByteArray→Int→List AV) (zI:Int→Int→Int) (zS:Int→LLR→LLR) (unb:LLR→LLR→LLR) (pB:List AV→LLR) (rgV:LLR→Int) (stN:LLR→ByteArray→Nat) (stH:LLR→ByteArray→Bool) (pI:Nat→List AV→Int) (pC:List AV→Bool) (atR:LLR→Int→List AV) (atB:LLR→Int→Bool) (exK:Int→Bool) (vdE:LLR→Int) (isN:Int→Int→Int→Int→Bool) (zN:Int→ByteArray→ByteArray):Prop:=fnK Tryz.prog { glob:=glb,spec:=lk [(26,gset_s),(16,(gApply_s rgV stN stH pI pC pB atR atB exK vdE isN unb zI zN zS apE apX apP))],specH:=lk [],shape:=[66,80],nowf:=true,nls:=[(24,0,3),(49,6,2)],bst:=[49,29] } { nt:=83,drop:=drp [(1,261632),(2,33292288),(3,234881024),(4,16911433728),(5,17179869184),(6,2164663517184),(7,9671406556914834374393856)],tys:=[26] } (fun _ _=>none) 6 Tryz.f9 [] (.bool true)
theorem lawake_e (apE:LLR→Int→ByteArray→Int→Int→Int→Int→Int→LLR→Int) (apX:Nat→LLR→Int→ByteArray→Int→Int→Int) (apP:LLR→ByteArray→Int→List AV) (zI:Int→Int→Int) (zS:Int→LLR→LLR) (unb:LLR→LLR→LLR) (pB:List AV→LLR) (rgV:LLR→Int) (stN:LLR→ByteArray→Nat) (stH:LLR→ByteArray→Bool) (pI:Nat→List AV→Int) (pC:List AV→Bool) (atR:LLR→Int→List AV) (atB:LLR→Int→Bool) (exK:Int→Bool) (vdE:LLR→Int) (isN:Int→Int→Int→Int→Bool) (zN:Int→ByteArray→ByteArray):lawake_T apE apX apP zI zS unb pB rgV stN stH pI pC atR atB exK vdE isN zN=lawake_S apE apX apP zI zS unb pB rgV stN stH pI pC atR atB exK vdE isN zN:=by kernel_rfl
theorem lawake_v:lawake_S apE apX apP zI zS unb pB rgV stN stH pI pC atR atB exK vdE isN zN:=Eq.mp (lawake_e ..) (lawake_P)
theorem lawake_ok:SOK Tryz.prog glb 9 (lawake_s apE apX apP zI zS unb pB):=by
 refine ⟨fok Tryz.func9 (by kernel_rfl) (by kernel_rfl),?_⟩
 intro xs pre r h hp
 unfold lawake_s at h
 split at h
 ·simp only [Option.some.injEq,Prod.mk.injEq] at h
  obtain ⟨h1,h2⟩:=h
  subst h1 h2
  exact fnK_sound (tyOf (by kernel_rfl)) (by exact specOK rfl rfl ⟨(gset_ok),(gApply_ok),trivial⟩ trivial) (by kernel_rfl) Tryz.func9 rfl (lawake_v  )
 ·cases h
end Go.Proofs.YtldiagnbagpliaaGreatDoor
namespace Go.Proofs.YtldiagnbagpliaaGreatDoor
open Go
set_option linter.unusedVariables false
set_option linter.unusedSimpArgs false
structure RfdP (code:Int) (xs:List (List AV)) (i:Int):Prop where
 flo:0≤i
 fhi:i≤xs.length
 fno:∀ j:Nat,(j:Int) < i→cdP code (xs.getD j [])=false
def rfdL (f:Bool) (xs:List (List AV)) (code:Int):LInv:=⟨Int,fun i=>⟨[(0,.sl 2 f xs),(1,.int .i64 code),(6,.int .i64 i)],[]⟩,RfdP code xs,fun i=>(xs.length - i).toNat,none⟩
def rfind_s:Sp
 | [.sl 2 f xs,.int .i64 code]=>some (RdsP xs,.tup [.int .i64 (fdV xs code),.bool (fdB xs code)])
 | _=>none
def rfind_T:Prop :=
 ∀ (gl:Glob) (f:Bool) (xs:List (List AV)) (code:Int),RdsP xs→True→(-9223372036854775808:Int)≤code∧code≤(9223372036854775807:Int)→(∃ x,RfdP code xs x ∧
 (((bif f then f=true else True)∧xs=xs)∧code=code∧(0:Int)=x∧True)∧True)∧∀ (x:Int),RfdP code xs x→bif decide (x < (↑xs.length:Int)) then bif decide ((0 :
 Int)≤x∧x < (↑xs.length:Int)) then ∃ n,List.take [AV.int IntKind.i64 n].length (List.drop (0:Nat) (xs.getD x.toNat []))=[AV.int IntKind.i64 n]∧bif decide (n=code)
 then bif decide ((0:Int)≤x∧x < (↑xs.length:Int)) then ∃ n,List.take [AV.int IntKind.i64 n].length (List.drop (1:Nat) (xs.getD x.toNat []))=[AV.int IntKind.i64 n]∧n =
 fdV xs code∧true=fdB xs code∧True else False else bif decide (rng IntKind.i64 (x+(1:Int))) then ∃ y,RfdP code xs y∧(rfdL f xs code).m y < (rfdL f xs code).m x∧(((bif
 f then f=true else True)∧xs=xs)∧code=code∧x+(1:Int)=y∧True)∧True else False else False else (0:Int)=fdV xs code∧false=fdB xs code∧True
theorem rfind_P:rfind_T:=by
 unfold rfind_T
 intro gl f xs code hr _ _
 have hs:=hr.sm
 have bf:cond f (f=true) True:=by cases f <;> trivial
 refine ⟨⟨0,⟨by decide,by omega,fun j h=>by omega⟩,⟨⟨bf,rfl⟩,rfl,rfl,trivial⟩,trivial⟩,?_⟩
 rintro i ⟨h0,h1,hn⟩
 refine csx (fun hl=>?_) (fun hl=>?_)
 ·obtain ⟨e,v,he,_⟩:=hr.row i.toNat (by omega)
  have e1:rE (xs.getD i.toNat [])=e:=by rw [he]; rfl
  have e2:rV (xs.getD i.toNat [])=v:=by rw [he]; rfl
  refine cd1 (by omega) ⟨e,by rw [he]; rfl,csx (fun q=>?_) (fun q=>?_)⟩
  ·refine cd1 (by omega) ⟨v,by rw [he]; rfl,?_⟩
   have hc:cdI' code xs=i.toNat:=(idx_some (p:=cdP code) (xs:=xs) (i:=i.toNat) (by omega) (by unfold cdP; rw [e1]; exact decide_eq_true q) (fun j hj=>hn j (by omega))).symm
   have hb:fdB xs code=true:=by unfold fdB; rw [hc]; exact decide_eq_true (by omega)
   unfold fdV
   rw [hb,hc,if_pos rfl,Int.toNat_natCast,e2]
   exact ⟨rfl,rfl,trivial⟩
  ·refine cdI (by omega) ⟨i+1,⟨by omega,by omega,fun j hj=>?_⟩,by simp only [rfdL]; omega,⟨⟨bf,rfl⟩,rfl,rfl,trivial⟩,trivial⟩
   rcases Nat.lt_or_ge j i.toNat with k | k
   ·exact hn j (by omega)
   ·rw [show j=i.toNat by omega]; unfold cdP; rw [e1]; exact decide_eq_false q
 ·have hc:cdI' code xs=-1:=(idx_none fun j hj=>hn j (by omega)).symm
  have hb:fdB xs code=false:=by unfold fdB; rw [hc]; rfl
  unfold fdV
  rw [hb]
  exact ⟨rfl,rfl,trivial⟩
def rfind_S:Prop:=∀ (gl:Glob) (f:Bool) (xs:List (List AV)) (code:Int),RdsP xs→fnK Tryz.prog { glob:=gl,spec:=lk [],specH:=lk [],shape:=[17,24],nowf:=true } { nt:=25,drop:=drp [(2,896),(3,6144),(4,516096),(5,32505856)] } (invs [(2,rfdL f xs code)]) 6 Tryz.f21 [.sl 2 f xs,.int .i64 code] (.tup [.int .i64 (fdV xs code),.bool (fdB xs code)])
theorem rfind_e:rfind_T=rfind_S:=by kernel_rfl
theorem rfind_v:rfind_S:=Eq.mp (rfind_e ..) (rfind_P)
theorem rfind_ok (gl:Glob):SOK Tryz.prog gl 21 rfind_s:=by
 refine ⟨fok Tryz.func21 (by kernel_rfl) (by kernel_rfl),?_⟩
 intro xs pre r h hp
 unfold rfind_s at h
 split at h
 ·simp only [Option.some.injEq,Prod.mk.injEq] at h
  obtain ⟨h1,h2⟩:=h
  subst h1 h2
  exact fnK_sound tyNil (by exact specOK rfl rfl trivial trivial) (by kernel_rfl) Tryz.func21 rfl (rfind_v gl _ _ _ hp)
 ·cases h
def rsame_s (rdC:LLA→LLA→Int) (cmpI:Int→Int→Int) (cmpS:ByteArray→ByteArray→Int):Sp
 | [.agg [.int .i64 k,.str n,.int .i64 t,.int .i64 f,.int .i64 a,.int .i64 b,.int .i64 c,.sl 2 h rd],.agg [.int .i64 k2,.str n2,.int .i64 t2,.int .i64 f2,.int .i64 a2,.int .i64 b2,.int .i64 c2,.sl 2 h2 rd2]]=>some (RdsP rd∧RdsP rd2,.bool (decide (orI (cmpI k k2) (orI (cmpS n n2) (orI (cmpI t t2) (orI (cmpI f f2) (orI (cmpI a a2) (orI (cmpI b b2) (orI (cmpI c c2) (rdC rd rd2)))))))=0)))
 | _=>none
def rsame_T (rdC:LLA→LLA→Int) (cmpI:Int→Int→Int) (cmpS:ByteArray→ByteArray→Int):Prop :=
  ∀ (gl:Glob) (k t f a b c k2 t2 f2 a2 b2 c2:Int) (n n2:ByteArray) (rd rd2:List (List AV)) (h h2:Bool),RdsP rd∧RdsP rd2→((-9223372036854775808:Int)≤k∧k ≤
  (9223372036854775807:Int))∧n.size.le (9223372036854775807:Nat)∧((-9223372036854775808:Int)≤t∧t≤(9223372036854775807:Int))∧((-9223372036854775808:Int)≤f∧f
 ≤(9223372036854775807:Int))∧((-9223372036854775808:Int)≤a∧a≤(9223372036854775807:Int))∧((-9223372036854775808:Int)≤b∧b≤(9223372036854775807:Int)) ∧
  ((-9223372036854775808:Int)≤c∧c≤(9223372036854775807:Int))∧True∧True→((-9223372036854775808:Int)≤k2∧k2≤(9223372036854775807:Int))∧n2.size.le
  (9223372036854775807:Nat)∧((-9223372036854775808:Int)≤t2∧t2≤(9223372036854775807:Int))∧((-9223372036854775808:Int)≤f2∧f2≤(9223372036854775807:Int)) ∧
  ((-9223372036854775808:Int)≤a2∧a2≤(9223372036854775807:Int))∧((-9223372036854775808:Int)≤b2∧b2≤(9223372036854775807:Int))∧((-9223372036854775808:Int)≤c2
 ∧c2≤(9223372036854775807:Int))∧True∧True→(RdsP rd∧RdsP rd2)∧decide (orI (cmpI k k2) (orI (cmpS n n2) (orI (cmpI t t2) (orI (cmpI f f2) (orI (cmpI a a2) (orI (cmpI b
  b2) (orI (cmpI c c2) (rdC rd rd2)))))))=(0:Int))=decide (orI (cmpI k k2) (orI (cmpS n n2) (orI (cmpI t t2) (orI (cmpI f f2) (orI (cmpI a a2) (orI (cmpI b b2) (orI (cmpI c c2)
  (rdC rd rd2)))))))=(0:Int))
theorem rsame_P:rsame_T rdC cmpI cmpS:=by
 unfold rsame_T
 intro gl k t f a b c k2 t2 f2 a2 b2 c2 n n2 rd rd2 h h2 hp _ _
 exact ⟨hp,rfl⟩
def rsame_S (rdC:LLA→LLA→Int) (cmpI:Int→Int→Int) (cmpS:ByteArray→ByteArray→Int):Prop:=∀ (gl:Glob) (k t f a b c k2 t2 f2 a2 b2 c2:Int) (n n2:ByteArray) (rd rd2:List (List AV)) (h h2:Bool),RdsP rd∧RdsP rd2→fnK Tryz.prog { glob:=gl,spec:=lk [(54,(rcmp_s rdC cmpI cmpS))],specH:=lk [],nowf:=true } { nt:=9,drop:=drp [(1,480)] } (fun _ _=>none) 6 Tryz.f18 [.agg [.int .i64 k,.str n,.int .i64 t,.int .i64 f,.int .i64 a,.int .i64 b,.int .i64 c,.sl 2 h rd],.agg [.int .i64 k2,.str n2,.int .i64 t2,.int .i64 f2,.int .i64 a2,.int .i64 b2,.int .i64 c2,.sl 2 h2 rd2]] (.bool (decide (orI (cmpI k k2) (orI (cmpS n n2) (orI (cmpI t t2) (orI (cmpI f f2) (orI (cmpI a a2) (orI (cmpI b b2) (orI (cmpI c c2) (rdC rd rd2)))))))=0)))
theorem rsame_e (rdC:LLA→LLA→Int) (cmpI:Int→Int→Int) (cmpS:ByteArray→ByteArray→Int):rsame_T rdC cmpI cmpS=rsame_S rdC cmpI cmpS:=by kernel_rfl
theorem rsame_v:rsame_S rdC cmpI cmpS:=Eq.mp (rsame_e ..) (rsame_P)
theorem rsame_ok (gl:Glob):SOK Tryz.prog gl 18 (rsame_s rdC cmpI cmpS):=by
 refine ⟨fok Tryz.func18 (by kernel_rfl) (by kernel_rfl),?_⟩
 intro xs pre r h hp
 unfold rsame_s at h
 split at h
 ·simp only [Option.some.injEq,Prod.mk.injEq] at h
  obtain ⟨h1,h2⟩:=h
  subst h1 h2
  exact fnK_sound tyNil (by exact specOK rfl rfl ⟨(rcmp_ok gl),trivial⟩ trivial) (by kernel_rfl) Tryz.func18 rfl (rsame_v gl _ _ _ _ _ _ _ _ _ _ _ _ _ _ _ _ _ _ hp)
 ·cases h
theorem or_same (k t f a b c:Int) (n:ByteArray) (rd:LLA):orI (cmpI k k) (orI (cmpS n n) (orI (cmpI t t) (orI (cmpI f f) (orI (cmpI a a) (orI (cmpI b b) (orI (cmpI c c) (rdC rd rd)))))))=0:=by
 have hc:∀ z:Int,cmpI z z=0:=fun z=>by unfold cmpI; simp
 have hs:cmpS n n=0:=by rw [← lex_nm0]; exact lexI_rfl _
 have hr:rdC rd rd=0:=lexI_rfl _
 rw [hc,hc,hc,hc,hc,hc,hs,hr]
 rfl
theorem StsW.p {l:LLR} {q m:Nat} (h:StsW l q m) (hm:m≤1000000):StsP l:=⟨fun i hi=>by obtain ⟨k,nm,ps,hr,hp,_⟩:=h.fr i hi; exact ⟨k,nm,ps,hr,hp⟩,Nat.le_trans h.fl hm⟩
theorem RdV.p {ys:LLR} (h:RdV 12 ys):RdsP ys∧ys.length≤11:=by
 have hl:=h.flen
 refine ⟨⟨fun i hi=>?_,by omega⟩,by omega⟩
 obtain ⟨e,v,h1,h2,h3,h4⟩:=h.frow i hi
 have hb:=in_bd (c:=e) (by omega)
 refine ⟨e,v,h1,?_,?_⟩ <;> (show _∧_; omega)
theorem at_err {l:LLR} {n:ByteArray} {t:Int} (h0:rgV l=0) (h:atE l n t≠0):apI l n t=false∧apP l n t=pzR:=by
 have h1:apI l n t=false:=by
  cases q:apI l n t with
  | false=>rfl
  | true=>exact absurd (by unfold atE; rw [if_neg (fun z=>z h0),q]; rfl) h
 refine ⟨h1,?_⟩
 unfold apP
 split
 ·rename_i hs
  unfold atR
  have:atB (sPs (l.getD (stN l n) [])) t=false:=by
   unfold apI at h1
   rw [hs,Bool.true_and] at h1; exact h1
  rw [if_neg (by rw [this]; decide)]
 ·rfl
theorem ap_bias {l:LLR} (hl:StsP l) (n:ByteArray) (t:Int):RdsP (pB (apP l n t)):=by
 unfold apP
 split
 ·rename_i h
  obtain ⟨k,nm,ps,hr,hp⟩:=hl.fr (stN l n) (stH_lt h)
  rw [hr]
  exact at_bias hp
 ·exact rdsP_nil
theorem unb_rds {ys bs:LLR} (hy:RdsP ys):RdsP (unb ys bs):=by
 refine ⟨fun i hi=>?_,Nat.le_trans (unb_len _ _) hy.sm⟩
 rw [gD_lt hi]
 obtain ⟨q,hq,e,_⟩:=unb_mem.1 (List.getElem_mem hi)
 obtain ⟨j,hj,ej⟩:=List.mem_iff_getElem.1 hq
 obtain ⟨a,b,e1,e2,_⟩:=hy.row j hj
 rw [gD_lt hj,ej] at e1
 subst e1
 exact ⟨_,_,e.symm,e2,wrap_rng _ _⟩
structure CbP (c:Int):Prop where
 flo:1≤c
 fhi:c≤12
structure PfP (l:LLR) (k:Int) (nm:ByteArray) (t:Int) (x:Int × Bool × Int × Int × Int × Int × LLR):Prop where
 fb:x.2.2.2.2.2.2=pB (apP l nm t)
 fk:k=1→x.2.2.1=pI 2 (apP l nm t)∧x.2.2.2.1=pI 3 (apP l nm t)∧x.2.2.2.2.1=pI 4 (apP l nm t)∧x.2.2.2.2.2.1=pI 5 (apP l nm t)
structure OneU (x:Unit):Prop where
 fx:x=()
end Go.Proofs.YtldiagnbagpliaaGreatDoor
namespace Go.Proofs.YtldiagnbagpliaaGreatDoor
open Go
set_option linter.unusedVariables false
set_option linter.unusedSimpArgs false
def anT (p:List AV→Bool) (l:LLR) (i:Int):Bool:=(l.take i.toNat).any p
def ordT (l:LLR) (i:Int):Bool:=anT p5R l i||!(snO (l.take i.toNat))
def ordN (l:LLR) (i:Int):Bool:=anT p5R l i||!(snO (l.take (i+1).toNat))
def unT (ps:LLR) (q:Int):Bool:=!(ascB (ps.take q.toNat))
theorem anT_zero (p:List AV→Bool) (l:LLR):anT p l 0=false:=rfl
theorem anT_step (p:List AV→Bool) {l:LLR} {i:Int} (h0:0≤i) (h:i < l.length):anT p l (i+1)=(anT p l i||p (l.getD i.toNat [])):=by
 unfold anT
 have hi:i.toNat < l.length:=by omega
 rw [show (i+1).toNat=i.toNat+1 by omega,List.take_add_one,List.getElem?_eq_getElem hi,Option.toList_some,List.any_append,gD_lt hi]
 simp
theorem anT_all (p:List AV→Bool) {l:LLR} {i:Int} (h:¬ i < l.length):anT p l i=l.any p:=by
 unfold anT; rw [List.take_of_length_le (by omega)]
theorem take_gD {l:LLR} {n j:Nat} (h:j < n):(l.take n).getD j []=l.getD j []:=by
 rw [List.getD_eq_getElem?_getD,List.getD_eq_getElem?_getD,List.getElem?_take,if_pos h]
theorem pairT_step (R:List AV→List AV→Prop) [∀ a b,Decidable (R a b)] {l:LLR} {n:Nat} (h:n < l.length) :
  decide (∀ j,j < (l.take (n+1)).length→j=0∨R ((l.take (n+1)).getD (j - 1) []) ((l.take (n+1)).getD j []))=(decide (∀ j,j < (l.take n).length→j=0∨R ((l.take n).getD (j - 1) []) ((l.take n).getD j []))&&decide (n=0∨R (l.getD (n - 1) []) (l.getD n []))):=by
 have e1:(l.take (n+1)).length=n+1:=by rw [List.length_take]; omega
 have e2:(l.take n).length=n:=by rw [List.length_take]; omega
 rw [Bool.eq_iff_iff]
 simp only [decide_eq_true_eq,Bool.and_eq_true,e1,e2]
 constructor
 ·intro hh
  refine ⟨fun j hj=>?_,?_⟩
  ·have:=hh j (by omega)
   rwa [take_gD (by omega),take_gD (by omega)] at this ⊢
  ·have:=hh n (by omega)
   rwa [take_gD (by omega),take_gD (by omega)] at this
 ·rintro ⟨h1,h2⟩ j hj
  rw [take_gD (by omega),take_gD (by omega)]
  by_cases q:j=n
  ·subst q; exact h2
  ·have:=h1 j (by omega)
   rwa [take_gD (by omega),take_gD (by omega)] at this
theorem asc_step1 {ps:LLR} {n:Nat} (h:n < ps.length):ascB (ps.take (n+1))=(ascB (ps.take n)&&decide (n=0∨rE (ps.getD (n - 1) []) < rE (ps.getD n []))) :=
 pairT_step (fun a b=>rE a < rE b) h
theorem sn_step1 {l:LLR} {n:Nat} (h:n < l.length):snO (l.take (n+1))=(snO (l.take n)&&decide (n=0∨Op.bytesLess (sNm (l.getD (n - 1) [])).toList (sNm (l.getD n [])).toList=true)) :=
 pairT_step (fun a b=>Op.bytesLess (sNm a).toList (sNm b).toList=true) h
theorem unT_step {ps:LLR} {q:Int} (h0:0≤q) (h:q < ps.length):unT ps (q+1)=(unT ps q||(decide (0 < q)&&decide (rE (ps.getD q.toNat [])≤rE (ps.getD (q - 1).toNat [])))):=by
 unfold unT
 rw [show (q+1).toNat=q.toNat+1 by omega,asc_step1 (by omega),show (q - 1).toNat=q.toNat - 1 by omega,Bool.not_and]
 congr 1
 rw [Bool.eq_iff_iff]
 simp only [Bool.not_eq_true',decide_eq_false_iff_not,Bool.and_eq_true,decide_eq_true_eq,not_or]
 constructor
 ·rintro ⟨a,b⟩; exact ⟨by omega,by omega⟩
 ·rintro ⟨a,b⟩; exact ⟨by omega,by omega⟩
theorem ordN_step {l:LLR} {i:Int} (h0:0≤i) (h:i < l.length):ordN l i=(ordT l i||(decide (0 < i)&&!(Op.bytesLess (sNm (l.getD (i - 1).toNat [])).toList (sNm (l.getD i.toNat [])).toList))):=by
 unfold ordN ordT
 rw [show (i+1).toNat=i.toNat+1 by omega,sn_step1 (by omega),show (i - 1).toNat=i.toNat - 1 by omega,Bool.not_and,← Bool.or_assoc]
 congr 1
 rw [Bool.eq_iff_iff]
 simp only [Bool.not_eq_true',decide_eq_false_iff_not,Bool.and_eq_true,decide_eq_true_eq,not_or,Bool.not_eq_true]
 constructor
 ·rintro ⟨a,b⟩; exact ⟨by omega,b⟩
 ·rintro ⟨a,b⟩; exact ⟨by omega,b⟩
theorem ordT_step {l:LLR} {i:Int} (h0:0≤i) (h:i < l.length):ordT l (i+1)=(ordN l i||p5R (l.getD i.toNat [])):=by
 unfold ordT ordN
 rw [anT_step p5R h0 h]
 cases anT p5R l i <;> cases p5R (l.getD i.toNat []) <;> cases snO (l.take (i+1).toNat) <;> rfl
theorem anT_any {p:List AV→Bool} {l:LLR} {i:Int} (h:anT p l i=true):l.any p=true:=by
 obtain ⟨x,hx,hp⟩:=List.any_eq_true.1 h
 exact List.any_eq_true.2 ⟨x,List.mem_of_mem_take hx,hp⟩
theorem ordT_zero (l:LLR):ordT l 0=false:=by simp [ordT,anT,snO]
theorem unT_zero (ps:LLR):unT ps 0=false:=by simp [unT,ascB]
theorem unT_all {ps:LLR} {q:Int} (h:¬ q < ps.length):unT ps q=!(ascB ps):=by unfold unT; rw [List.take_of_length_le (by omega)]
theorem ordT_all {l:LLR} {i:Int} (h:¬ i < l.length):ordT l i=(l.any p5R||!(snO l)):=by unfold ordT; rw [anT_all _ h,List.take_of_length_le (by omega)]
theorem rg_two {l:LLR} {i:Int} (h:(decide (60 < (l.length:Int))||anT p1R l i)=true):2=rgV l:=by
 unfold rgV
 rw [if_pos]
 rw [Bool.or_eq_true] at h
 rcases h with h | h
 ·exact .inl (of_decide_eq_true h)
 ·exact .inr (anT_any h)
structure VfI (l:LLR) (x:Int × Bool):Prop where
 flo:0≤x.1
 fhi:x.1≤l.length
 fb:x.2=(decide (60 < (l.length:Int))||anT p1R l x.1)
def vf3 (l:LLR) (g:Bool):LInv:=⟨Int × Bool,fun x=>⟨[(1,.ptr 1 0),(3,.ptr 3 0),(4,.int .i64 x.1)],[(1,.cells [.sl 3 g l]),(3,.cells [.bool x.2,.bool false,.bool false,.bool false])]⟩,VfI l,fun x=>(l.length - x.1).toNat,none⟩
structure VfE (o b1 b2 b3:Bool) (x:Bool × Bool × Bool × Bool × Bool):Prop where
 fo:x.1=o
 f0:x.2.1=false
 f1:x.2.2.1=b1
 f2:x.2.2.2.1=b2
 f3:x.2.2.2.2=b3
structure VfJ (l:LLR) (x:Int × Bool × Bool × Bool × Bool × Bool):Prop where
 flo:0≤x.1
 fhi:x.1≤l.length
 fe:VfE (ordT l x.1) (anT p2R l x.1) (anT p3R l x.1) (anT p4R l x.1) x.2
def vf11 (l:LLR) (g:Bool):LInv:=⟨Int × Bool × Bool × Bool × Bool × Bool,fun x=>⟨[(1,.ptr 1 0),(3,.ptr 3 0),(6,.bool x.2.1),(7,.int .i64 x.1)],[(1,.cells [.sl 3 g l]),(3,.cells [.bool x.2.2.1,.bool x.2.2.2.1,.bool x.2.2.2.2.1,.bool x.2.2.2.2.2])]⟩,VfJ l,fun x=>(l.length - x.1).toNat,none⟩
structure VfK (l:LLR) (i:Int) (k:Int) (ps:LLR) (x:Int × Bool × Bool × Bool × Bool × Bool):Prop where
 flo:0≤x.1
 fhi:x.1≤ps.length
 fe:VfE (ordN l i||unT ps x.1) (anT p2R l (i+1)) (anT p3R l (i+1)) (anT p4R l i||anT (bdP k) ps x.1) x.2
def vf18 (l:LLR) (g:Bool) (i k:Int) (nm:AV) (ps:LLR):LInv:=⟨Int × Bool × Bool × Bool × Bool × Bool,fun x=>⟨[(1,.ptr 1 0),(3,.ptr 3 0),(6,.bool x.2.1),(7,.int .i64 i),(8,.ptr 8 0),(9,.int .i64 x.1)],[(1,.cells [.sl 3 g l]),(3,.cells [.bool x.2.2.1,.bool x.2.2.2.1,.bool x.2.2.2.2.1,.bool x.2.2.2.2.2]),(8,.cells [.int .i64 k,nm,.sl 7 false ps])]⟩,VfK l i k ps,fun x=>(ps.length - x.1).toNat,none⟩
def vfC (l:LLR) (g:Bool) (i k:Int) (nm:AV) (ps:LLR) (more:List (Nat × AV)) (o b1 b2 b3:Bool):LInv:=⟨Bool × Bool × Bool × Bool × Bool,fun x=>⟨[(1,.ptr 1 0),(3,.ptr 3 0),(6,.bool x.1),(7,.int .i64 i),(8,.ptr 8 0)]++more,[(1,.cells [.sl 3 g l]),(3,.cells [.bool x.2.1,.bool x.2.2.1,.bool x.2.2.2.1,.bool x.2.2.2.2]),(8,.cells [.int .i64 k,nm,.sl 7 false ps])]⟩,VfE o b1 b2 b3,fun _=>0,none⟩
def vfX (l:LLR) (g:Bool) (st:St) (K:Int→Int→AV→LLR→LInv):Option LInv:=match lk st.tmps 7,lk st.heap 8 with
 | some (.int _ i),some (.cells [.int _ k,nm,.sl _ _ ps])=>some (K i k nm ps)
 | _,_=>none
def vfJ (l:LLR) (g:Bool) (id:Nat) (st:St):Option LInv:=cond (Nat.beq id 3) (some (vf3 l g)) (cond (Nat.beq id 11) (some (vf11 l g)) (cond (Nat.beq id 18) (vfX l g st fun i k nm ps=>vf18 l g i k nm ps)
 (cond (Nat.beq id 100015) (vfX l g st fun i k nm ps=>vfC l g i k nm ps [] (ordT l i) (anT p2R l (i+1)) (anT p3R l i) (anT p4R l i))
 (cond (Nat.beq id 100016) (vfX l g st fun i k nm ps=>vfC l g i k nm ps [] (ordT l i) (anT p2R l (i+1)) (anT p3R l (i+1)) (anT p4R l i))
 (cond (Nat.beq id 100017) (vfX l g st fun i k nm ps=>vfC l g i k nm ps [] (ordN l i) (anT p2R l (i+1)) (anT p3R l (i+1)) (anT p4R l i))
 (cond (Nat.beq id 100021) (match lk st.tmps 9 with
 | some (.int _ q)=>vfX l g st fun i k nm ps=>vfC l g i k nm ps [(9,.int .i64 q)] (ordN l i||unT ps q) (anT p2R l (i+1)) (anT p3R l (i+1)) (anT p4R l i||anT (bdP k) ps (q+1))
 | _=>none) none))))))
def rvalidF_s (pdV:Int→Int→Bool→Int→Int→Int→Int→LLR→Bool) (nmOk:ByteArray→Bool) (rgV:LLR→Int):Sp
 | [.agg [.sl 3 g l]]=>some (StsP l,.int .i64 (rgV l))
 | _=>none
def rvalidF_T (pdV:Int→Int→Bool→Int→Int→Int→Int→LLR→Bool) (nmOk:ByteArray→Bool) (rgV:LLR→Int) (nrm:Int→Int→Int→Int→Int × Int × Int × Int) (vld:Int→Int→Int→Int→Bool) (isN:Int→Int→Int→Int→Bool) (inB:Int→Bool) (bsOk:LLR→Bool):Prop :=
  ∀ (gl:Glob) (l:List (List AV)) (g:Bool),StsP l→True∧True→(∃ x,VfI l x∧((0:Nat)=0∧(0:Nat)=0∧(0:Int)=x.fst∧True)∧(((bif g then g=true else True)∧l=l)∧True)∧(decide ((60:Int) < (↑l.length:Int))=x.snd∧false=false∧false=false∧false=false∧True)∧True)∧∀ (x:Int × Bool),VfI l x→bif decide (x.fst < (↑l.length:Int)) then bif !x.snd then bif decide (0≤x.fst∧x.fst < (↑l.length:Int)) then ∃ n s
 xs,List.take [AV.int .i64 n,.str s,.sl (7:Nat) false xs].length (l.getD x.fst.toNat [])=[AV.int .i64 n,.str s,.sl (7:Nat) false xs]∧bif decide ((↑xs.length:Int)=(0:Int)) then bif decide (rng .i64 (x.fst+(1:Int))) then ∃ y,VfI l y∧(vf3 l g).m y < (vf3 l g).m x∧((0:Nat)=0∧(0:Nat)=0∧x.fst+(1:Int)=y.fst∧True)∧(((bif g then g=true else
 True)∧l=l)∧True)∧(true=y.snd∧false=false∧false=false∧false=false∧True)∧True else False else bif decide (rng .i64 (x.fst+(1:Int))) then ∃ y,VfI l y∧(vf3 l g).m y < (vf3 l g).m x∧((0:Nat)=0∧(0:Nat)=0∧x.fst+(1:Int)=y.fst∧True)∧(((bif g then g=true else True)∧l=l)∧True)∧(decide ((8:Int) < (↑xs.length:Int))=y.snd∧false=false∧false=false∧false=false∧True)∧True else False else False else bif x.snd
 then (2:Int)=rgV l else (∃ x_1,VfJ l x_1∧((0:Nat)=0∧(0:Nat)=0∧false=x_1.snd.fst∧(0:Int)=x_1.fst∧True)∧(((bif g then g=true else True)∧l=l)∧True)∧(x.snd=x_1.snd.snd.fst∧false=x_1.snd.snd.snd.fst∧false=x_1.snd.snd.snd.snd.fst∧false=x_1.snd.snd.snd.snd.snd∧True)∧True)∧∀ (x:Int × Bool × Bool × Bool × Bool × Bool),VfJ l x→bif decide (x.fst < (↑l.length:Int)) then bif decide (0≤x.fst∧x.fst <
 (↑l.length:Int)) then ∃ n s xs,List.take [AV.int .i64 n,.str s,.sl (7:Nat) false xs].length (l.getD x.fst.toNat [])=[AV.int .i64 n,.str s,.sl (7:Nat) false xs]∧(bif x.snd.snd.snd.fst then ∃ x_1,VfE (ordT l x.fst) (anT p2R l (x.fst+(1:Int))) (anT p3R l x.fst) (anT p4R l x.fst) x_1∧((0:Nat)=0∧(0:Nat)=0∧x.snd.fst=x_1.fst∧x.fst=x.fst∧(0:Nat)=0∧True)∧(((bif g then g=true else
 True)∧l=l)∧True)∧(x.snd.snd.fst=x_1.snd.fst∧true=x_1.snd.snd.fst∧x.snd.snd.snd.snd.fst=x_1.snd.snd.snd.fst∧x.snd.snd.snd.snd.snd=x_1.snd.snd.snd.snd∧True)∧(n=n∧s=s∧(True∧xs=xs)∧True)∧True else True∧∃ x_1,VfE (ordT l x.fst) (anT p2R l (x.fst+(1:Int))) (anT p3R l x.fst) (anT p4R l x.fst) x_1∧((0:Nat)=0∧(0:Nat)=0∧x.snd.fst=x_1.fst∧x.fst=x.fst∧(0:Nat)=0∧True)∧(((bif g then g=true else
 True)∧l=l)∧True)∧(x.snd.snd.fst=x_1.snd.fst∧(!decide (1≤n∧n≤(3:Int)))=x_1.snd.snd.fst∧x.snd.snd.snd.snd.fst=x_1.snd.snd.snd.fst∧x.snd.snd.snd.snd.snd=x_1.snd.snd.snd.snd∧True)∧(n=n∧s=s∧(True∧xs=xs)∧True)∧True)∧∀ (x_1:Bool × Bool × Bool × Bool × Bool),VfE (ordT l x.fst) (anT p2R l (x.fst+(1:Int))) (anT p3R l x.fst) (anT p4R l x.fst) x_1→(bif x_1.snd.snd.snd.fst then ∃ x_2,VfE (ordT l
 x.fst) (anT p2R l (x.fst+(1:Int))) (anT p3R l (x.fst+(1:Int))) (anT p4R l x.fst) x_2∧((0:Nat)=0∧(0:Nat)=0∧x_1.fst=x_2.fst∧x.fst=x.fst∧(0:Nat)=0∧True)∧(((bif g then g=true else True)∧l=l)∧True)∧(x_1.snd.fst=x_2.snd.fst∧x_1.snd.snd.fst=x_2.snd.snd.fst∧true=x_2.snd.snd.snd.fst∧x_1.snd.snd.snd.snd=x_2.snd.snd.snd.snd∧True)∧(n=n∧s=s∧(True∧xs=xs)∧True)∧True else True∧∃ x_2,VfE (ordT l x.fst) (anT p2R
 l (x.fst+(1:Int))) (anT p3R l (x.fst+(1:Int))) (anT p4R l x.fst) x_2∧((0:Nat)=0∧(0:Nat)=0∧x_1.fst=x_2.fst∧x.fst=x.fst∧(0:Nat)=0∧True)∧(((bif g then g=true else True)∧l=l)∧True)∧(x_1.snd.fst=x_2.snd.fst∧x_1.snd.snd.fst=x_2.snd.snd.fst∧(!nmOk s)=x_2.snd.snd.snd.fst∧x_1.snd.snd.snd.snd=x_2.snd.snd.snd.snd∧True)∧(n=n∧s=s∧(True∧xs=xs)∧True)∧True)∧∀ (x_2:Bool × Bool × Bool × Bool × Bool),VfE (ordT
 l x.fst) (anT p2R l (x.fst+(1:Int))) (anT p3R l (x.fst+(1:Int))) (anT p4R l x.fst) x_2→(bif x_2.fst then ∃ x_3,VfE (ordN l x.fst) (anT p2R l (x.fst+(1:Int))) (anT p3R l (x.fst+(1:Int))) (anT p4R l x.fst) x_3∧((0:Nat)=0∧(0:Nat)=0∧true=x_3.fst∧x.fst=x.fst∧(0:Nat)=0∧True)∧(((bif g then g=true else
 True)∧l=l)∧True)∧(x_2.snd.fst=x_3.snd.fst∧x_2.snd.snd.fst=x_3.snd.snd.fst∧x_2.snd.snd.snd.fst=x_3.snd.snd.snd.fst∧x_2.snd.snd.snd.snd=x_3.snd.snd.snd.snd∧True)∧(n=n∧s=s∧(True∧xs=xs)∧True)∧True else bif decide (0 < x.fst) then bif decide (rng .i64 (x.fst - (1:Int))) then bif decide (0≤x.fst - (1:Int)∧x.fst - (1:Int) < (↑l.length:Int)) then ∃ s_1,List.take [AV.str s_1].length (List.drop
 (1:Nat) (l.getD (x.fst - (1:Int)).toNat []))=[AV.str s_1]∧∃ x_3,VfE (ordN l x.fst) (anT p2R l (x.fst+(1:Int))) (anT p3R l (x.fst+(1:Int))) (anT p4R l x.fst) x_3∧((0:Nat)=0∧(0:Nat)=0∧(!Op.bytesLess s_1.toList s.toList)=x_3.fst∧x.fst=x.fst∧(0:Nat)=0∧True)∧(((bif g then g=true else
 True)∧l=l)∧True)∧(x_2.snd.fst=x_3.snd.fst∧x_2.snd.snd.fst=x_3.snd.snd.fst∧x_2.snd.snd.snd.fst=x_3.snd.snd.snd.fst∧x_2.snd.snd.snd.snd=x_3.snd.snd.snd.snd∧True)∧(n=n∧s=s∧(True∧xs=xs)∧True)∧True else False else False else ∃ x_3,VfE (ordN l x.fst) (anT p2R l (x.fst+(1:Int))) (anT p3R l (x.fst+(1:Int))) (anT p4R l x.fst) x_3∧((0:Nat)=0∧(0:Nat)=0∧false=x_3.fst∧x.fst=x.fst∧(0:Nat)=0∧True)∧(((bif g
 then g=true else True)∧l=l)∧True)∧(x_2.snd.fst=x_3.snd.fst∧x_2.snd.snd.fst=x_3.snd.snd.fst∧x_2.snd.snd.snd.fst=x_3.snd.snd.snd.fst∧x_2.snd.snd.snd.snd=x_3.snd.snd.snd.snd∧True)∧(n=n∧s=s∧(True∧xs=xs)∧True)∧True)∧∀ (x_3:Bool × Bool × Bool × Bool × Bool),VfE (ordN l x.fst) (anT p2R l (x.fst+(1:Int))) (anT p3R l (x.fst+(1:Int))) (anT p4R l x.fst) x_3→(∃ x_4,VfK l x.fst n xs
 x_4∧((0:Nat)=0∧(0:Nat)=0∧x_3.fst=x_4.snd.fst∧x.fst=x.fst∧(0:Nat)=0∧(0:Int)=x_4.fst∧True)∧(((bif g then g=true else True)∧l=l)∧True)∧(x_3.snd.fst=x_4.snd.snd.fst∧x_3.snd.snd.fst=x_4.snd.snd.snd.fst∧x_3.snd.snd.snd.fst=x_4.snd.snd.snd.snd.fst∧x_3.snd.snd.snd.snd=x_4.snd.snd.snd.snd.snd∧True)∧(n=n∧s=s∧(True∧xs=xs)∧True)∧True)∧∀ (x_4:Int × Bool × Bool × Bool × Bool × Bool),VfK l x.fst n xs x_4→bif
 decide (x_4.fst < (↑xs.length:Int)) then (bif x_4.snd.snd.snd.snd.snd then ∃ x_5,VfE (ordN l x.fst||unT xs x_4.fst) (anT p2R l (x.fst+(1:Int))) (anT p3R l (x.fst+(1:Int))) (anT p4R l x.fst||anT (bdP n) xs (x_4.fst+(1:Int))) x_5∧((0:Nat)=0∧(0:Nat)=0∧x_4.snd.fst=x_5.fst∧x.fst=x.fst∧(0:Nat)=0∧x_4.fst=x_4.fst∧True)∧(((bif g then g=true else
 True)∧l=l)∧True)∧(x_4.snd.snd.fst=x_5.snd.fst∧x_4.snd.snd.snd.fst=x_5.snd.snd.fst∧x_4.snd.snd.snd.snd.fst=x_5.snd.snd.snd.fst∧true=x_5.snd.snd.snd.snd∧True)∧(n=n∧s=s∧(True∧xs=xs)∧True)∧True else bif decide (0≤x_4.fst∧x_4.fst < (↑xs.length:Int)) then ∃ n_1 b n_2 n_3 n_4 n_5 xs_1,List.take [AV.int .i64 n_1,.bool b,.int .i64 n_2,.int .i64 n_3,.int .i64 n_4,.int .i64 n_5,.sl (2:Nat) false
 xs_1].length (xs.getD x_4.fst.toNat [])=[AV.int .i64 n_1,.bool b,.int .i64 n_2,.int .i64 n_3,.int .i64 n_4,.int .i64 n_5,.sl (2:Nat) false xs_1]∧RdsP xs_1∧∃ x_5,VfE (ordN l x.fst||unT xs x_4.fst) (anT p2R l (x.fst+(1:Int))) (anT p3R l (x.fst+(1:Int))) (anT p4R l x.fst||anT (bdP n) xs (x_4.fst+(1:Int)))
 x_5∧((0:Nat)=0∧(0:Nat)=0∧x_4.snd.fst=x_5.fst∧x.fst=x.fst∧(0:Nat)=0∧x_4.fst=x_4.fst∧True)∧(((bif g then g=true else True)∧l=l)∧True)∧(x_4.snd.snd.fst=x_5.snd.fst∧x_4.snd.snd.snd.fst=x_5.snd.snd.fst∧x_4.snd.snd.snd.snd.fst=x_5.snd.snd.snd.fst∧(!pdV n n_1 b n_2 n_3 n_4 n_5 xs_1)=x_5.snd.snd.snd.snd∧True)∧(n=n∧s=s∧(True∧xs=xs)∧True)∧True else False)∧∀ (x_5:Bool × Bool × Bool × Bool × Bool),VfE (ordN
 l x.fst||unT xs x_4.fst) (anT p2R l (x.fst+(1:Int))) (anT p3R l (x.fst+(1:Int))) (anT p4R l x.fst||anT (bdP n) xs (x_4.fst+(1:Int))) x_5→bif x_5.fst then bif decide (rng .i64 (x_4.fst+(1:Int))) then ∃ y,VfK l x.fst n xs y∧((fun i k nm ps=>vf18 l g i k nm ps) x.fst n (AV.str s) xs).m y < ((fun i k nm ps=>vf18 l g i k nm ps) x.fst n (AV.str s) xs).m
 x_4∧((0:Nat)=0∧(0:Nat)=0∧true=y.snd.fst∧x.fst=x.fst∧(0:Nat)=0∧x_4.fst+(1:Int)=y.fst∧True)∧(((bif g then g=true else True)∧l=l)∧True)∧(x_5.snd.fst=y.snd.snd.fst∧x_5.snd.snd.fst=y.snd.snd.snd.fst∧x_5.snd.snd.snd.fst=y.snd.snd.snd.snd.fst∧x_5.snd.snd.snd.snd=y.snd.snd.snd.snd.snd∧True)∧(n=n∧s=s∧(True∧xs=xs)∧True)∧True else False else bif decide (0 < x_4.fst) then bif decide (rng .i64 (x_4.fst
 - (1:Int))) then bif decide (0≤x_4.fst - (1:Int)∧x_4.fst - (1:Int) < (↑xs.length:Int)) then ∃ n_1,List.take [AV.int .i64 n_1].length (List.drop (0:Nat) (xs.getD (x_4.fst - (1:Int)).toNat []))=[AV.int .i64 n_1]∧bif decide (0≤x_4.fst∧x_4.fst < (↑xs.length:Int)) then ∃ n_2,List.take [AV.int .i64 n_2].length (List.drop (0:Nat) (xs.getD x_4.fst.toNat []))=[AV.int .i64 n_2]∧bif decide
 (rng .i64 (x_4.fst+(1:Int))) then ∃ y,VfK l x.fst n xs y∧((fun i k nm ps=>vf18 l g i k nm ps) x.fst n (AV.str s) xs).m y < ((fun i k nm ps=>vf18 l g i k nm ps) x.fst n (AV.str s) xs).m x_4∧((0:Nat)=0∧(0:Nat)=0∧decide (n_2≤n_1)=y.snd.fst∧x.fst=x.fst∧(0:Nat)=0∧x_4.fst+(1:Int)=y.fst∧True)∧(((bif g then g=true else
 True)∧l=l)∧True)∧(x_5.snd.fst=y.snd.snd.fst∧x_5.snd.snd.fst=y.snd.snd.snd.fst∧x_5.snd.snd.snd.fst=y.snd.snd.snd.snd.fst∧x_5.snd.snd.snd.snd=y.snd.snd.snd.snd.snd∧True)∧(n=n∧s=s∧(True∧xs=xs)∧True)∧True else False else False else False else False else bif decide (rng .i64 (x_4.fst+(1:Int))) then ∃ y,VfK l x.fst n xs y∧((fun i k nm ps=>vf18 l g i k nm ps) x.fst n (AV.str s) xs).m y < ((fun i k nm
 ps=>vf18 l g i k nm ps) x.fst n (AV.str s) xs).m x_4∧((0:Nat)=0∧(0:Nat)=0∧false=y.snd.fst∧x.fst=x.fst∧(0:Nat)=0∧x_4.fst+(1:Int)=y.fst∧True)∧(((bif g then g=true else True)∧l=l)∧True)∧(x_5.snd.fst=y.snd.snd.fst∧x_5.snd.snd.fst=y.snd.snd.snd.fst∧x_5.snd.snd.snd.fst=y.snd.snd.snd.snd.fst∧x_5.snd.snd.snd.snd=y.snd.snd.snd.snd.snd∧True)∧(n=n∧s=s∧(True∧xs=xs)∧True)∧True else False else bif decide
 (rng .i64 (x.fst+(1:Int))) then ∃ y,VfJ l y∧(vf11 l g).m y < (vf11 l g).m x∧((0:Nat)=0∧(0:Nat)=0∧x_4.snd.fst=y.snd.fst∧x.fst+(1:Int)=y.fst∧True)∧(((bif g then g=true else True)∧l=l)∧True)∧(x_4.snd.snd.fst=y.snd.snd.fst∧x_4.snd.snd.snd.fst=y.snd.snd.snd.fst∧x_4.snd.snd.snd.snd.fst=y.snd.snd.snd.snd.fst∧x_4.snd.snd.snd.snd.snd=y.snd.snd.snd.snd.snd∧True)∧True else False else False else bif
 x.snd.snd.snd.fst then (4:Int)=rgV l else bif x.snd.snd.snd.snd.fst then (3:Int)=rgV l else bif x.snd.snd.snd.snd.snd then (1:Int)=rgV l else bif x.snd.fst then (8:Int)=rgV l else (0:Int)=rgV l else bif x.snd then (2:Int)=rgV l else (∃ x_1,VfJ l x_1∧((0:Nat)=0∧(0:Nat)=0∧false=x_1.snd.fst∧(0:Int)=x_1.fst∧True)∧(((bif g then g=true else
 True)∧l=l)∧True)∧(x.snd=x_1.snd.snd.fst∧false=x_1.snd.snd.snd.fst∧false=x_1.snd.snd.snd.snd.fst∧false=x_1.snd.snd.snd.snd.snd∧True)∧True)∧∀ (x:Int × Bool × Bool × Bool × Bool × Bool),VfJ l x→bif decide (x.fst < (↑l.length:Int)) then bif decide (0≤x.fst∧x.fst < (↑l.length:Int)) then ∃ n s xs,List.take [AV.int .i64 n,.str s,.sl (7:Nat) false xs].length (l.getD x.fst.toNat [])=[AV.int .i64
 n,.str s,.sl (7:Nat) false xs]∧(bif x.snd.snd.snd.fst then ∃ x_1,VfE (ordT l x.fst) (anT p2R l (x.fst+(1:Int))) (anT p3R l x.fst) (anT p4R l x.fst) x_1∧((0:Nat)=0∧(0:Nat)=0∧x.snd.fst=x_1.fst∧x.fst=x.fst∧(0:Nat)=0∧True)∧(((bif g then g=true else
 True)∧l=l)∧True)∧(x.snd.snd.fst=x_1.snd.fst∧true=x_1.snd.snd.fst∧x.snd.snd.snd.snd.fst=x_1.snd.snd.snd.fst∧x.snd.snd.snd.snd.snd=x_1.snd.snd.snd.snd∧True)∧(n=n∧s=s∧(True∧xs=xs)∧True)∧True else True∧∃ x_1,VfE (ordT l x.fst) (anT p2R l (x.fst+(1:Int))) (anT p3R l x.fst) (anT p4R l x.fst) x_1∧((0:Nat)=0∧(0:Nat)=0∧x.snd.fst=x_1.fst∧x.fst=x.fst∧(0:Nat)=0∧True)∧(((bif g then g=true else
 True)∧l=l)∧True)∧(x.snd.snd.fst=x_1.snd.fst∧(!decide (1≤n∧n≤(3:Int)))=x_1.snd.snd.fst∧x.snd.snd.snd.snd.fst=x_1.snd.snd.snd.fst∧x.snd.snd.snd.snd.snd=x_1.snd.snd.snd.snd∧True)∧(n=n∧s=s∧(True∧xs=xs)∧True)∧True)∧∀ (x_1:Bool × Bool × Bool × Bool × Bool),VfE (ordT l x.fst) (anT p2R l (x.fst+(1:Int))) (anT p3R l x.fst) (anT p4R l x.fst) x_1→(bif x_1.snd.snd.snd.fst then ∃ x_2,VfE (ordT l
 x.fst) (anT p2R l (x.fst+(1:Int))) (anT p3R l (x.fst+(1:Int))) (anT p4R l x.fst) x_2∧((0:Nat)=0∧(0:Nat)=0∧x_1.fst=x_2.fst∧x.fst=x.fst∧(0:Nat)=0∧True)∧(((bif g then g=true else True)∧l=l)∧True)∧(x_1.snd.fst=x_2.snd.fst∧x_1.snd.snd.fst=x_2.snd.snd.fst∧true=x_2.snd.snd.snd.fst∧x_1.snd.snd.snd.snd=x_2.snd.snd.snd.snd∧True)∧(n=n∧s=s∧(True∧xs=xs)∧True)∧True else True∧∃ x_2,VfE (ordT l x.fst) (anT p2R
 l (x.fst+(1:Int))) (anT p3R l (x.fst+(1:Int))) (anT p4R l x.fst) x_2∧((0:Nat)=0∧(0:Nat)=0∧x_1.fst=x_2.fst∧x.fst=x.fst∧(0:Nat)=0∧True)∧(((bif g then g=true else True)∧l=l)∧True)∧(x_1.snd.fst=x_2.snd.fst∧x_1.snd.snd.fst=x_2.snd.snd.fst∧(!nmOk s)=x_2.snd.snd.snd.fst∧x_1.snd.snd.snd.snd=x_2.snd.snd.snd.snd∧True)∧(n=n∧s=s∧(True∧xs=xs)∧True)∧True)∧∀ (x_2:Bool × Bool × Bool × Bool × Bool),VfE (ordT
 l x.fst) (anT p2R l (x.fst+(1:Int))) (anT p3R l (x.fst+(1:Int))) (anT p4R l x.fst) x_2→(bif x_2.fst then ∃ x_3,VfE (ordN l x.fst) (anT p2R l (x.fst+(1:Int))) (anT p3R l (x.fst+(1:Int))) (anT p4R l x.fst) x_3∧((0:Nat)=0∧(0:Nat)=0∧true=x_3.fst∧x.fst=x.fst∧(0:Nat)=0∧True)∧(((bif g then g=true else
 True)∧l=l)∧True)∧(x_2.snd.fst=x_3.snd.fst∧x_2.snd.snd.fst=x_3.snd.snd.fst∧x_2.snd.snd.snd.fst=x_3.snd.snd.snd.fst∧x_2.snd.snd.snd.snd=x_3.snd.snd.snd.snd∧True)∧(n=n∧s=s∧(True∧xs=xs)∧True)∧True else bif decide (0 < x.fst) then bif decide (rng .i64 (x.fst - (1:Int))) then bif decide (0≤x.fst - (1:Int)∧x.fst - (1:Int) < (↑l.length:Int)) then ∃ s_1,List.take [AV.str s_1].length (List.drop
 (1:Nat) (l.getD (x.fst - (1:Int)).toNat []))=[AV.str s_1]∧∃ x_3,VfE (ordN l x.fst) (anT p2R l (x.fst+(1:Int))) (anT p3R l (x.fst+(1:Int))) (anT p4R l x.fst) x_3∧((0:Nat)=0∧(0:Nat)=0∧(!Op.bytesLess s_1.toList s.toList)=x_3.fst∧x.fst=x.fst∧(0:Nat)=0∧True)∧(((bif g then g=true else
 True)∧l=l)∧True)∧(x_2.snd.fst=x_3.snd.fst∧x_2.snd.snd.fst=x_3.snd.snd.fst∧x_2.snd.snd.snd.fst=x_3.snd.snd.snd.fst∧x_2.snd.snd.snd.snd=x_3.snd.snd.snd.snd∧True)∧(n=n∧s=s∧(True∧xs=xs)∧True)∧True else False else False else ∃ x_3,VfE (ordN l x.fst) (anT p2R l (x.fst+(1:Int))) (anT p3R l (x.fst+(1:Int))) (anT p4R l x.fst) x_3∧((0:Nat)=0∧(0:Nat)=0∧false=x_3.fst∧x.fst=x.fst∧(0:Nat)=0∧True)∧(((bif g
 then g=true else True)∧l=l)∧True)∧(x_2.snd.fst=x_3.snd.fst∧x_2.snd.snd.fst=x_3.snd.snd.fst∧x_2.snd.snd.snd.fst=x_3.snd.snd.snd.fst∧x_2.snd.snd.snd.snd=x_3.snd.snd.snd.snd∧True)∧(n=n∧s=s∧(True∧xs=xs)∧True)∧True)∧∀ (x_3:Bool × Bool × Bool × Bool × Bool),VfE (ordN l x.fst) (anT p2R l (x.fst+(1:Int))) (anT p3R l (x.fst+(1:Int))) (anT p4R l x.fst) x_3→(∃ x_4,VfK l x.fst n xs
 x_4∧((0:Nat)=0∧(0:Nat)=0∧x_3.fst=x_4.snd.fst∧x.fst=x.fst∧(0:Nat)=0∧(0:Int)=x_4.fst∧True)∧(((bif g then g=true else True)∧l=l)∧True)∧(x_3.snd.fst=x_4.snd.snd.fst∧x_3.snd.snd.fst=x_4.snd.snd.snd.fst∧x_3.snd.snd.snd.fst=x_4.snd.snd.snd.snd.fst∧x_3.snd.snd.snd.snd=x_4.snd.snd.snd.snd.snd∧True)∧(n=n∧s=s∧(True∧xs=xs)∧True)∧True)∧∀ (x_4:Int × Bool × Bool × Bool × Bool × Bool),VfK l x.fst n xs x_4→bif
 decide (x_4.fst < (↑xs.length:Int)) then (bif x_4.snd.snd.snd.snd.snd then ∃ x_5,VfE (ordN l x.fst||unT xs x_4.fst) (anT p2R l (x.fst+(1:Int))) (anT p3R l (x.fst+(1:Int))) (anT p4R l x.fst||anT (bdP n) xs (x_4.fst+(1:Int))) x_5∧((0:Nat)=0∧(0:Nat)=0∧x_4.snd.fst=x_5.fst∧x.fst=x.fst∧(0:Nat)=0∧x_4.fst=x_4.fst∧True)∧(((bif g then g=true else
 True)∧l=l)∧True)∧(x_4.snd.snd.fst=x_5.snd.fst∧x_4.snd.snd.snd.fst=x_5.snd.snd.fst∧x_4.snd.snd.snd.snd.fst=x_5.snd.snd.snd.fst∧true=x_5.snd.snd.snd.snd∧True)∧(n=n∧s=s∧(True∧xs=xs)∧True)∧True else bif decide (0≤x_4.fst∧x_4.fst < (↑xs.length:Int)) then ∃ n_1 b n_2 n_3 n_4 n_5 xs_1,List.take [AV.int .i64 n_1,.bool b,.int .i64 n_2,.int .i64 n_3,.int .i64 n_4,.int .i64 n_5,.sl (2:Nat) false
 xs_1].length (xs.getD x_4.fst.toNat [])=[AV.int .i64 n_1,.bool b,.int .i64 n_2,.int .i64 n_3,.int .i64 n_4,.int .i64 n_5,.sl (2:Nat) false xs_1]∧RdsP xs_1∧∃ x_5,VfE (ordN l x.fst||unT xs x_4.fst) (anT p2R l (x.fst+(1:Int))) (anT p3R l (x.fst+(1:Int))) (anT p4R l x.fst||anT (bdP n) xs (x_4.fst+(1:Int)))
 x_5∧((0:Nat)=0∧(0:Nat)=0∧x_4.snd.fst=x_5.fst∧x.fst=x.fst∧(0:Nat)=0∧x_4.fst=x_4.fst∧True)∧(((bif g then g=true else True)∧l=l)∧True)∧(x_4.snd.snd.fst=x_5.snd.fst∧x_4.snd.snd.snd.fst=x_5.snd.snd.fst∧x_4.snd.snd.snd.snd.fst=x_5.snd.snd.snd.fst∧(!pdV n n_1 b n_2 n_3 n_4 n_5 xs_1)=x_5.snd.snd.snd.snd∧True)∧(n=n∧s=s∧(True∧xs=xs)∧True)∧True else False)∧∀ (x_5:Bool × Bool × Bool × Bool × Bool),VfE (ordN
 l x.fst||unT xs x_4.fst) (anT p2R l (x.fst+(1:Int))) (anT p3R l (x.fst+(1:Int))) (anT p4R l x.fst||anT (bdP n) xs (x_4.fst+(1:Int))) x_5→bif x_5.fst then bif decide (rng .i64 (x_4.fst+(1:Int))) then ∃ y,VfK l x.fst n xs y∧((fun i k nm ps=>vf18 l g i k nm ps) x.fst n (AV.str s) xs).m y < ((fun i k nm ps=>vf18 l g i k nm ps) x.fst n (AV.str s) xs).m
 x_4∧((0:Nat)=0∧(0:Nat)=0∧true=y.snd.fst∧x.fst=x.fst∧(0:Nat)=0∧x_4.fst+(1:Int)=y.fst∧True)∧(((bif g then g=true else True)∧l=l)∧True)∧(x_5.snd.fst=y.snd.snd.fst∧x_5.snd.snd.fst=y.snd.snd.snd.fst∧x_5.snd.snd.snd.fst=y.snd.snd.snd.snd.fst∧x_5.snd.snd.snd.snd=y.snd.snd.snd.snd.snd∧True)∧(n=n∧s=s∧(True∧xs=xs)∧True)∧True else False else bif decide (0 < x_4.fst) then bif decide (rng .i64 (x_4.fst
 - (1:Int))) then bif decide (0≤x_4.fst - (1:Int)∧x_4.fst - (1:Int) < (↑xs.length:Int)) then ∃ n_1,List.take [AV.int .i64 n_1].length (List.drop (0:Nat) (xs.getD (x_4.fst - (1:Int)).toNat []))=[AV.int .i64 n_1]∧bif decide (0≤x_4.fst∧x_4.fst < (↑xs.length:Int)) then ∃ n_2,List.take [AV.int .i64 n_2].length (List.drop (0:Nat) (xs.getD x_4.fst.toNat []))=[AV.int .i64 n_2]∧bif decide
 (rng .i64 (x_4.fst+(1:Int))) then ∃ y,VfK l x.fst n xs y∧((fun i k nm ps=>vf18 l g i k nm ps) x.fst n (AV.str s) xs).m y < ((fun i k nm ps=>vf18 l g i k nm ps) x.fst n (AV.str s) xs).m x_4∧((0:Nat)=0∧(0:Nat)=0∧decide (n_2≤n_1)=y.snd.fst∧x.fst=x.fst∧(0:Nat)=0∧x_4.fst+(1:Int)=y.fst∧True)∧(((bif g then g=true else
 True)∧l=l)∧True)∧(x_5.snd.fst=y.snd.snd.fst∧x_5.snd.snd.fst=y.snd.snd.snd.fst∧x_5.snd.snd.snd.fst=y.snd.snd.snd.snd.fst∧x_5.snd.snd.snd.snd=y.snd.snd.snd.snd.snd∧True)∧(n=n∧s=s∧(True∧xs=xs)∧True)∧True else False else False else False else False else bif decide (rng .i64 (x_4.fst+(1:Int))) then ∃ y,VfK l x.fst n xs y∧((fun i k nm ps=>vf18 l g i k nm ps) x.fst n (AV.str s) xs).m y < ((fun i k nm
 ps=>vf18 l g i k nm ps) x.fst n (AV.str s) xs).m x_4∧((0:Nat)=0∧(0:Nat)=0∧false=y.snd.fst∧x.fst=x.fst∧(0:Nat)=0∧x_4.fst+(1:Int)=y.fst∧True)∧(((bif g then g=true else True)∧l=l)∧True)∧(x_5.snd.fst=y.snd.snd.fst∧x_5.snd.snd.fst=y.snd.snd.snd.fst∧x_5.snd.snd.snd.fst=y.snd.snd.snd.snd.fst∧x_5.snd.snd.snd.snd=y.snd.snd.snd.snd.snd∧True)∧(n=n∧s=s∧(True∧xs=xs)∧True)∧True else False else bif decide
 (rng .i64 (x.fst+(1:Int))) then ∃ y,VfJ l y∧(vf11 l g).m y < (vf11 l g).m x∧((0:Nat)=0∧(0:Nat)=0∧x_4.snd.fst=y.snd.fst∧x.fst+(1:Int)=y.fst∧True)∧(((bif g then g=true else True)∧l=l)∧True)∧(x_4.snd.snd.fst=y.snd.snd.fst∧x_4.snd.snd.snd.fst=y.snd.snd.snd.fst∧x_4.snd.snd.snd.snd.fst=y.snd.snd.snd.snd.fst∧x_4.snd.snd.snd.snd.snd=y.snd.snd.snd.snd.snd∧True)∧True else False else False else bif
 x.snd.snd.snd.fst then (4:Int)=rgV l else bif x.snd.snd.snd.snd.fst then (3:Int)=rgV l else bif x.snd.snd.snd.snd.snd then (1:Int)=rgV l else bif x.snd.fst then (8:Int)=rgV l else (0:Int)=rgV l
theorem rvalidF_P:rvalidF_T pdV nmOk rgV nrm vld isN inB bsOk:=by
 unfold rvalidF_T
 intro gl l g hl _
 have ll:=hl.fs
 have bg:cond g (g=true) True:=by cases g <;> trivial
 refine ⟨⟨(0,decide (60 < (l.length:Int))),⟨by simp,by simp,by simp [anT_zero]⟩,by (repeat' (first | exact trivial | exact rfl | assumption | apply And.intro))⟩,?_⟩
 rintro ⟨i,b⟩ ⟨i0,i1,fb⟩
 simp only at i0 i1 fb
 dsimp only
 refine csx (fun hi=>csplit (fun hb=>cd1 (by omega) ?_) (fun hb=>csplit (fun hb2=>rg_two (fb ▸ hb2)) (fun hb2=>by rw [hb2] at hb; cases hb))) (fun hi=>csplit (fun hb2=>rg_two (fb ▸ hb2)) (fun hb2=>?_))
 ·obtain ⟨k,nm,ps,hr,hp⟩:=hl.fr i.toNat (by omega)
  have hb:b=false:=by simpa using hb
  have S1:anT p1R l (i+1)=(anT p1R l i||s1B ps):=by rw [anT_step p1R i0 hi,hr]; rfl
  rw [hb] at fb
  obtain ⟨h60,ha⟩:=Bool.or_eq_false_iff.1 fb.symm
  exact ⟨k,nm,ps,by rw [hr]; rfl,csx (fun q=>cdI (by omega) ⟨(i+1,true),⟨by simp only; omega,by simp only; omega,by simp only [S1,h60,ha]; unfold s1B; rw [decide_eq_true (show ps.length=0 by omega)]; rfl⟩,by simp only [vf3]; omega,by (repeat' (first | exact trivial | exact rfl | assumption | apply And.intro))⟩) (fun q=>cdI (by omega) ⟨(i+1,decide (8 < (ps.length:Int))),⟨by simp only; omega,by simp only; omega,by simp only [S1,h60,ha]; unfold s1B; rw [decide_eq_false (show ¬ ps.length=0 by omega)]; rfl⟩,by simp only [vf3]; omega,by (repeat' (first | exact trivial | exact rfl | assumption | apply And.intro))⟩)⟩
 rw [hb2] at fb
 obtain ⟨h60,ha⟩:=Bool.or_eq_false_iff.1 fb.symm
 rw [anT_all _ hi] at ha
 have R0:rgV l=if l.any p2R=true then 4 else if l.any p3R=true then 3 else if l.any p4R=true then 1 else if l.any p5R=true then 8 else if snO l=true then 0 else 8:=by
  have:¬ (60 < (l.length:Int)∨l.any p1R=true):=by
   rintro (z | z)
   ·exact absurd z (of_decide_eq_false h60)
   ·rw [ha] at z; cases z
  unfold rgV; rw [if_neg this]
 clear i0 i1 fb hi
 refine ⟨⟨(0,false,b,false,false,false),⟨by simp,by simp,⟨(ordT_zero l).symm,hb2,rfl,rfl,rfl⟩⟩,by (repeat' (first | exact trivial | exact rfl | assumption | apply And.intro))⟩,?_⟩
 rintro ⟨i,o,b0,b1,b2,b3⟩ ⟨i0,i1,fo,f0,f1,f2,f3⟩
 simp only at i0 i1 fo f0 f1 f2 f3
 dsimp only
 refine csx (fun hi=>cd1 (by omega) ?_) (fun hi=>?_)
 ·obtain ⟨k,nm,ps,hr,hp⟩:=hl.fr i.toNat (by omega)
  have hs:=hp.fs
  have S2:anT p2R l (i+1)=(anT p2R l i||!(decide (1≤k∧k≤3))):=by rw [anT_step p2R i0 hi,hr]; rfl
  have S3:anT p3R l (i+1)=(anT p3R l i||!(nmOk nm)):=by rw [anT_step p3R i0 hi,hr]; rfl
  have S4:anT p4R l (i+1)=(anT p4R l i||ps.any (bdP k)):=by rw [anT_step p4R i0 hi,hr]; rfl
  have S5:ordT l (i+1)=(ordN l i||!(ascB ps)):=by rw [ordT_step i0 hi,hr]; rfl
  refine ⟨k,nm,ps,by rw [hr]; rfl,csplit (fun q=>⟨(o,b0,true,b2,b3),⟨fo,f0,by simp only [S2,← f1,q]; rfl,f2,f3⟩,by (repeat' (first | exact trivial | exact rfl | assumption | apply And.intro))⟩) (fun q=>⟨trivial,(o,b0,!decide (1≤k∧k≤3),b2,b3),⟨fo,f0,by simp only [S2,← f1,q]; rfl,f2,f3⟩,by (repeat' (first | exact trivial | exact rfl | assumption | apply And.intro))⟩),?_⟩
  clear fo f0 f1 f2 f3
  rintro ⟨o,b0,b1,b2,b3⟩ ⟨fo,f0,f1,f2,f3⟩
  simp only at fo f0 f1 f2 f3
  dsimp only
  refine ⟨csplit (fun q=>⟨(o,b0,b1,true,b3),⟨fo,f0,f1,by simp only [S3,← f2,q]; rfl,f3⟩,by (repeat' (first | exact trivial | exact rfl | assumption | apply And.intro))⟩) (fun q=>⟨trivial,(o,b0,b1,!nmOk nm,b3),⟨fo,f0,f1,by simp only [S3,← f2,q]; rfl,f3⟩,by (repeat' (first | exact trivial | exact rfl | assumption | apply And.intro))⟩),?_⟩
  clear fo f0 f1 f2 f3
  rintro ⟨o,b0,b1,b2,b3⟩ ⟨fo,f0,f1,f2,f3⟩
  simp only at fo f0 f1 f2 f3
  dsimp only
  have SN:=ordN_step i0 hi
  have hnm:sNm (l.getD i.toNat [])=nm:=by rw [hr]; rfl
  rw [hnm] at SN
  refine ⟨csplit (fun q=>⟨(true,b0,b1,b2,b3),⟨by simp only [SN,← fo,q]; rfl,f0,f1,f2,f3⟩,by (repeat' (first | exact trivial | exact rfl | assumption | apply And.intro))⟩) (fun q=>csx (fun q2=>cdI (by omega) (cd1 (by omega) ?_)) (fun q2=>⟨(false,b0,b1,b2,b3),⟨by simp only [SN,← fo,q,decide_eq_false q2]; rfl,f0,f1,f2,f3⟩,by (repeat' (first | exact trivial | exact rfl | assumption | apply And.intro))⟩)),?_⟩
  ·obtain ⟨k',nm',ps',hr',_⟩:=hl.fr (i - 1).toNat (by omega)
   have hnm':sNm (l.getD (i - 1).toNat [])=nm':=by rw [hr']; rfl
   rw [hnm'] at SN
   exact ⟨nm',by rw [hr']; rfl,(!Op.bytesLess nm'.toList nm.toList,b0,b1,b2,b3),⟨by simp only [SN,← fo,q,decide_eq_true q2]; rfl,f0,f1,f2,f3⟩,by (repeat' (first | exact trivial | exact rfl | assumption | apply And.intro))⟩
  clear fo f0 f1 f2 f3
  rintro ⟨o,b0,b1,b2,b3⟩ ⟨fo,f0,f1,f2,f3⟩
  simp only at fo f0 f1 f2 f3
  dsimp only
  refine ⟨⟨(0,o,b0,b1,b2,b3),⟨by simp,by simp,⟨by simp only [unT_zero,Bool.or_false]; exact fo,f0,f1,f2,by simp only [anT_zero,Bool.or_false]; exact f3⟩⟩,by (repeat' (first | exact trivial | exact rfl | assumption | apply And.intro))⟩,?_⟩
  clear fo f0 f1 f2 f3
  rintro ⟨q,o,b0,b1,b2,b3⟩ ⟨q0,q1,fo,f0,f1,f2,f3⟩
  simp only at q0 q1 fo f0 f1 f2 f3
  dsimp only
  refine csx (fun hq=>⟨csplit (fun z=>?_) (fun z=>cd1 (by omega) ?_),?_⟩) (fun hq=>cdI (by omega) ⟨(i+1,o,b0,b1,b2,b3),⟨by simp only; omega,by simp only; omega,⟨by simp only [S5]; rw [fo,unT_all hq],f0,f1,f2,by simp only [S4]; rw [f3,anT_all _ hq]⟩⟩,by simp only [vf11]; omega,by (repeat' (first | exact trivial | exact rfl | assumption | apply And.intro))⟩)
  ·obtain ⟨fr,cl,f,a,b,c,bs,he,hb,_⟩:=hp.fr q.toNat (by omega)
   have SB:anT (bdP k) ps (q+1)=(anT (bdP k) ps q||bdP k (ps.getD q.toNat [])):=anT_step _ q0 hq
   exact ⟨(o,b0,b1,b2,true),⟨fo,f0,f1,f2,by simp only [SB,← Bool.or_assoc,← f3,z]; rfl⟩,by (repeat' (first | exact trivial | exact rfl | assumption | apply And.intro))⟩
  ·obtain ⟨fr,cl,f,a,b,c,bs,he,hb,_⟩:=hp.fr q.toNat (by omega)
   have SB:anT (bdP k) ps (q+1)=(anT (bdP k) ps q||!pdV k fr cl f a b c bs):=by rw [anT_step _ q0 hq,he]; rfl
   exact ⟨fr,cl,f,a,b,c,bs,by rw [he]; rfl,hb,(o,b0,b1,b2,!pdV k fr cl f a b c bs),⟨fo,f0,f1,f2,by simp only [SB,← Bool.or_assoc,← f3,z]; rfl⟩,by (repeat' (first | exact trivial | exact rfl | assumption | apply And.intro))⟩
  clear fo f0 f1 f2 f3
  rintro ⟨o,b0,b1,b2,b3⟩ ⟨fo,f0,f1,f2,f3⟩
  simp only at fo f0 f1 f2 f3
  dsimp only
  have SU:=unT_step q0 hq
  refine csplit (fun z=>cdI (by omega) ⟨(q+1,true,b0,b1,b2,b3),⟨by simp only; omega,by simp only; omega,⟨by simp only [SU,← Bool.or_assoc,← fo,z]; rfl,f0,f1,f2,f3⟩⟩,by simp only [vf18]; omega,by (repeat' (first | exact trivial | exact rfl | assumption | apply And.intro))⟩) (fun z=>csx (fun z2=>cdI (by omega) (cd1 (by omega) ?_)) (fun z2=>cdI (by omega) ⟨(q+1,false,b0,b1,b2,b3),⟨by simp only; omega,by simp only; omega,⟨by simp only [SU,← Bool.or_assoc,← fo,z,decide_eq_false z2]; rfl,f0,f1,f2,f3⟩⟩,by simp only [vf18]; omega,by (repeat' (first | exact trivial | exact rfl | assumption | apply And.intro))⟩))
  obtain ⟨fr,cl,f,a,b,c,bs,he,hb,_⟩:=hp.fr (q - 1).toNat (by omega)
  obtain ⟨fr2,cl2,f2',a2,b2',c2,bs2,he2,hb2,_⟩:=hp.fr q.toNat (by omega)
  have e1:rE (ps.getD (q - 1).toNat [])=fr:=by rw [he]; rfl
  have e2:rE (ps.getD q.toNat [])=fr2:=by rw [he2]; rfl
  rw [e1,e2] at SU
  exact ⟨fr,by rw [he]; rfl,cd1 (by omega) ⟨fr2,by rw [he2]; rfl,cdI (by omega) ⟨(q+1,decide (fr2≤fr),b0,b1,b2,b3),⟨by simp only; omega,by simp only; omega,⟨by simp only [SU,← Bool.or_assoc,← fo,z,decide_eq_true z2]; simp,f0,f1,f2,f3⟩⟩,by simp only [vf18]; omega,by (repeat' (first | exact trivial | exact rfl | assumption | apply And.intro))⟩⟩⟩
 ·rw [ordT_all hi] at fo
  rw [anT_all _ hi] at f1 f2 f3
  rw [R0,← f1,← f2,← f3]
  refine csplit (fun q=>by rw [q]; rfl) (fun q=>csplit (fun q2=>by rw [q,q2]; rfl) (fun q2=>csplit (fun q3=>by rw [q,q2,q3]; rfl) (fun q3=>csplit (fun q4=>?_) (fun q4=>?_))))
  ·rw [q,q2,q3]
   rw [fo] at q4
   cases z:l.any p5R with
   | true=>rfl
   | false=>rw [z] at q4; rw [show snO l=false by simpa using q4]; rfl
  ·rw [q,q2,q3]
   rw [fo] at q4
   obtain ⟨z1,z2⟩:=Bool.or_eq_false_iff.1 q4
   rw [z1,show snO l=true by simpa using z2]; rfl
def rvalidF_S (pdV:Int→Int→Bool→Int→Int→Int→Int→LLR→Bool) (nmOk:ByteArray→Bool) (rgV:LLR→Int) (nrm:Int→Int→Int→Int→Int × Int × Int × Int) (vld:Int→Int→Int→Int→Bool) (isN:Int→Int→Int→Int→Bool) (inB:Int→Bool) (bsOk:LLR→Bool):Prop:=∀ (gl:Glob) (l:List (List AV)) (g:Bool),StsP l→fnK Tryz.prog { glob:=gl,spec:=lk [(51,rkind_s),(75,(rname_s nmOk)),(76,(rperiod_s nrm vld isN pdV inB bsOk))],specH:=lk [],shape:=[31,56,86,108,124,130],slz:=[(31,[7]),(56,[7]),(108,[2])],nowf:=true } { nt:=145,drop:=drp [(1,31744),(3,16744448),(4,100663296),(5,4160749568),(6,8791798054912),(7,8796093022208),(11,527765581332480),(12,3377699720527872),(13,139611588448485376),(14,73642861106762350592),(15,37705144886662323503104),(16,4951722378209658142434787328),(18,74276402357122816493947453440),(19,475368975085586025561263702016),(20,10383959891769541142360244306837504),(21,21778061098346344592000717814640507092992),(22,130668428897640369969935849253798993199104),(24,1045347431181122959759486794030391945592832),(26,8362779449448983678075894352243135564742656),(28,22300745198530623141535718272648361505980416)] } (vfJ l g) 6 Tryz.f32 [.agg [.sl 3 g l]] (.int .i64 (rgV l))
theorem rvalidF_e (pdV:Int→Int→Bool→Int→Int→Int→Int→LLR→Bool) (nmOk:ByteArray→Bool) (rgV:LLR→Int) (nrm:Int→Int→Int→Int→Int × Int × Int × Int) (vld:Int→Int→Int→Int→Bool) (isN:Int→Int→Int→Int→Bool) (inB:Int→Bool) (bsOk:LLR→Bool):rvalidF_T pdV nmOk rgV nrm vld isN inB bsOk=rvalidF_S pdV nmOk rgV nrm vld isN inB bsOk:=by kernel_rfl
theorem rvalidF_v:rvalidF_S pdV nmOk rgV nrm vld isN inB bsOk:=Eq.mp (rvalidF_e ..) (rvalidF_P)
theorem rvalidF_ok (gl:Glob):SOK Tryz.prog gl 32 (rvalidF_s pdV nmOk rgV):=by
 refine ⟨fok Tryz.func32 (by kernel_rfl) (by kernel_rfl),?_⟩
 intro xs pre r h hp
 unfold rvalidF_s at h
 split at h
 ·simp only [Option.some.injEq,Prod.mk.injEq] at h
  obtain ⟨h1,h2⟩:=h
  subst h1 h2
  exact fnK_sound tyNil (by exact specOK rfl rfl ⟨(rkind_ok gl),(rname_ok gl),(rperiod_ok gl),trivial⟩ trivial) (by kernel_rfl) Tryz.func32 rfl (rvalidF_v gl _ _ hp)
 ·cases h
end Go.Proofs.YtldiagnbagpliaaGreatDoor
namespace Go.Proofs.YtldiagnbagpliaaGreatDoor
open Go
set_option linter.unusedVariables false
set_option linter.unusedSimpArgs false
def cS (nm:ByteArray) (r:List AV):Bool:=decide (sNm r=nm)
def fiI (l:LLR) (nm:ByteArray):Int:=idxP (cS nm) l
def fiB (l:LLR) (nm:ByteArray):Bool:=decide (0≤fiI l nm)
def fiK (l:LLR) (nm:ByteArray):Int:=if fiB l nm=true then rE (l.getD (fiI l nm).toNat []) else 0
def fiN (l:LLR) (nm:ByteArray):ByteArray:=if fiB l nm=true then nm else ⟨#[]⟩
def fiP (l:LLR) (nm:ByteArray):LLR:=if fiB l nm=true then sPs (l.getD (fiI l nm).toNat []) else []
structure FfP (l:LLR) (nm:ByteArray) (i:Int):Prop where
 flo:0≤i
 fhi:i≤l.length
 fno:∀ j:Nat,(j:Int) < i→cS nm (l.getD j [])=false
def ff2 (l:LLR) (g:Bool) (nm:ByteArray):LInv:=⟨Int,fun i=>⟨[(1,.str nm),(2,.ptr 2 0),(4,.ptr 4 0),(6,.int .i64 i)],[(2,.cells [.sl 3 g l]),(4,.cells [.int .i64 0,.str ⟨#[]⟩,.nils])]⟩,FfP l nm,fun i=>(l.length - i).toNat,none⟩
def rfindF_s (fiK:LLR→ByteArray→Int) (fiN:LLR→ByteArray→ByteArray) (fiP:LLR→ByteArray→LLR) (fiB:LLR→ByteArray→Bool):Sp
 | [.agg [.sl 3 g l],.str nm]=>some (StsP l,.tup [.agg [.int .i64 (fiK l nm),.str (fiN l nm),.sl 7 false (fiP l nm)],.bool (fiB l nm)])
 | _=>none
def rfindF_T (fiK:LLR→ByteArray→Int) (fiN:LLR→ByteArray→ByteArray) (fiP:LLR→ByteArray→LLR) (fiB:LLR→ByteArray→Bool):Prop :=
  ∀ (gl:Glob) (l:List (List AV)) (g:Bool) (nm:ByteArray),StsP l→True∧True→nm.size.le (9223372036854775807:Nat)→(∃ x,FfP l nm x∧(nm=nm∧(0:Nat)=0∧(0:Nat)=0∧(0:Int)=x∧True)∧(((bif g then g=true else True)∧l=l)∧True)∧((0:Int)=0∧(⟨#[]⟩:ByteArray)=(⟨#[]⟩:ByteArray)∧True∧True)∧True)∧∀ (x:Int),FfP l nm x→bif decide (x < (↑l.length:Int)) then bif decide (0≤x∧x < (↑l.length:Int)) then ∃
 s,List.take [AV.str s].length (List.drop (1:Nat) (l.getD x.toNat []))=[AV.str s]∧bif decide (s=nm) then bif decide (0≤x∧x < (↑l.length:Int)) then ∃ n s xs,List.take [AV.int .i64 n,.str s,.sl (7:Nat) false xs].length (l.getD x.toNat [])=[AV.int .i64 n,.str s,.sl (7:Nat) false xs]∧(n=fiK l nm∧s=fiN l nm∧(True∧xs=fiP l nm)∧True)∧true=fiB l nm∧True else False else bif decide (rng .i64 (x +
 (1:Int))) then ∃ y,FfP l nm y∧(ff2 l g nm).m y < (ff2 l g nm).m x∧(nm=nm∧(0:Nat)=0∧(0:Nat)=0∧x+(1:Int)=y∧True)∧(((bif g then g=true else True)∧l=l)∧True)∧((0:Int)=0∧(⟨#[]⟩:ByteArray)=(⟨#[]⟩:ByteArray)∧True∧True)∧True else False else False else ((0:Int)=fiK l nm∧(⟨#[]⟩:ByteArray)=fiN l nm∧fiP l nm=[]∧True)∧false=fiB l nm∧True
theorem rfindF_P:rfindF_T fiK fiN fiP fiB:=by
 unfold rfindF_T
 intro gl l g nm hl _ _
 have ll:=hl.fs
 have bg:cond g (g=true) True:=by cases g <;> trivial
 refine ⟨⟨0,⟨by decide,by omega,fun j h=>by omega⟩,by (repeat' (first | exact trivial | exact rfl | assumption | apply And.intro))⟩,?_⟩
 rintro i ⟨i0,i1,hn⟩
 refine csx (fun hi=>cd1 (by omega) ?_) (fun hi=>?_)
 ·obtain ⟨k,n,ps,hr,hp⟩:=hl.fr i.toNat (by omega)
  have hc:cS nm (l.getD i.toNat [])=decide (n=nm):=by rw [hr]; rfl
  refine ⟨n,by rw [hr]; rfl,csplit (fun q=>cd1 (by omega) ⟨k,n,ps,by rw [hr]; rfl,?_⟩) (fun q=>cdI (by omega) ⟨i+1,⟨by omega,by omega,fun j hj=>?_⟩,by simp only [ff2]; omega,by (repeat' (first | exact trivial | exact rfl | assumption | apply And.intro))⟩)⟩
  ·have q:=of_decide_eq_true q
   subst q
   have e1:fiI l n=i.toNat:=(idx_some (p:=cS n) (by omega) (by rw [hc]; exact decide_eq_true rfl) (fun j hj=>hn j (by omega))).symm
   have e2:fiB l n=true:=by unfold fiB; rw [e1]; exact decide_eq_true (by omega)
   unfold fiK fiN fiP
   rw [e2,e1,if_pos rfl,if_pos rfl,if_pos rfl,Int.toNat_natCast,hr]
   exact ⟨⟨rfl,rfl,⟨trivial,rfl⟩,trivial⟩,rfl,trivial⟩
  ·rcases Nat.lt_or_ge j i.toNat with z | z
   ·exact hn j (by omega)
   ·rw [show j=i.toNat by omega,hc]; exact q
 ·have e1:fiI l nm=-1:=(idx_none fun j hj=>hn j (by omega)).symm
  have e2:fiB l nm=false:=by unfold fiB; rw [e1]; rfl
  unfold fiK fiN fiP
  rw [e2,if_neg (by decide),if_neg (by decide),if_neg (by decide)]
  exact ⟨⟨rfl,rfl,rfl,trivial⟩,rfl,trivial⟩
def rfindF_S (fiK:LLR→ByteArray→Int) (fiN:LLR→ByteArray→ByteArray) (fiP:LLR→ByteArray→LLR) (fiB:LLR→ByteArray→Bool):Prop:=∀ (gl:Glob) (l:List (List AV)) (g:Bool) (nm:ByteArray),StsP l→fnK Tryz.prog { glob:=gl,spec:=lk [],specH:=lk [],shape:=[19,26],slz:=[(19,[7]),(26,[7])],nowf:=true } { nt:=28,drop:=drp [(2,1920),(3,12288),(4,2080768),(5,130023424),(6,134217728)] } (invs [(2,ff2 l g nm)]) 6 Tryz.f23 [.agg [.sl 3 g l],.str nm] (.tup [.agg [.int .i64 (fiK l nm),.str (fiN l nm),.sl 7 false (fiP l nm)],.bool (fiB l nm)])
theorem rfindF_e (fiK:LLR→ByteArray→Int) (fiN:LLR→ByteArray→ByteArray) (fiP:LLR→ByteArray→LLR) (fiB:LLR→ByteArray→Bool):rfindF_T fiK fiN fiP fiB=rfindF_S fiK fiN fiP fiB:=by kernel_rfl
theorem rfindF_v:rfindF_S fiK fiN fiP fiB:=Eq.mp (rfindF_e ..) (rfindF_P)
theorem rfindF_ok (gl:Glob):SOK Tryz.prog gl 23 (rfindF_s fiK fiN fiP fiB):=by
 refine ⟨fok Tryz.func23 (by kernel_rfl) (by kernel_rfl),?_⟩
 intro xs pre r h hp
 unfold rfindF_s at h
 split at h
 ·simp only [Option.some.injEq,Prod.mk.injEq] at h
  obtain ⟨h1,h2⟩:=h
  subst h1 h2
  exact fnK_sound tyNil (by exact specOK rfl rfl trivial trivial) (by kernel_rfl) Tryz.func23 rfl (rfindF_v gl _ _ _ hp)
 ·cases h
def genL (ge ne:List AV→Bool) (s:List AV):Bool→LLR→LLR
 | d,[]=>if d=true then [] else [s]
 | d,x::l=>(if (!d&&ge x)=true then [s] else [])++((if ne x=true then [x] else [])++genL ge ne s (d||ge x) l)
def geS (nm:ByteArray) (x:List AV):Bool:=Op.bytesLess nm.toList (sNm x).toList||decide (nm=sNm x)
def neS (nm:ByteArray) (x:List AV):Bool:=!(decide (sNm x=nm))
def wiL (l:LLR) (k:Int) (nm:ByteArray) (ps:LLR):LLR:=genL (geS nm) (neS nm) (stA k nm ps) (decide ((ps.length:Int)=0)) l
structure WfI (ge ne:List AV→Bool) (s:List AV) (l R:LLR) (x:Int × Bool × LLR):Prop where
 flo:0≤x.1
 fhi:x.1≤l.length
 fl:(x.2.2.length:Int)≤2*x.1
 fe:x.2.2++genL ge ne s x.2.1 (l.drop x.1.toNat)=R
theorem genL_step {ge ne:List AV→Bool} {s:List AV} {d:Bool} {l:LLR} {i:Int} (h0:0≤i) (hi:i < l.length):genL ge ne s d (l.drop i.toNat)=(if (!d&&ge (l.getD i.toNat []))=true then [s] else [])++((if ne (l.getD i.toNat [])=true then [l.getD i.toNat []] else [])++genL ge ne s (d||ge (l.getD i.toNat [])) (l.drop (i+1).toNat)):=by
 have h:i.toNat < l.length:=by omega
 rw [gD_lt h,List.drop_eq_getElem_cons h,show (i+1).toNat=i.toNat+1 by omega]
 rfl
theorem wf_next {ge ne:List AV→Bool} {s:List AV} {l R:LLR} {i:Int} {d:Bool} {out:LLR} (h:WfI ge ne s l R (i,d,out)) (hi:i < l.length) {x:List AV} (hx:l.getD i.toNat []=x) {d':Bool} (hd:d'=(d||ge x)) {out':LLR}
  (ho:out'=out++((if (!d&&ge x)=true then [s] else [])++(if ne x=true then [x] else []))):WfI ge ne s l R (i+1,d',out'):=by
 obtain ⟨h0,h1,h2,h3⟩:=h
 simp only at h0 h1 h2 h3
 refine ⟨by simp only; omega,by simp only; omega,?_,?_⟩
 ·subst ho
  simp only [List.length_append]
  have a1:(if (!d&&ge x)=true then [s] else []).length≤1:=by split <;> simp
  have a2:(if ne x=true then [x] else []).length≤1:=by split <;> simp
  omega
 ·rw [← h3,genL_step h0 hi,hx]
  subst ho hd
  simp only [List.append_assoc]
theorem wf_end {ge ne:List AV→Bool} {s:List AV} {l R:LLR} {i:Int} {d:Bool} {out:LLR} (h:WfI ge ne s l R (i,d,out)) (hi:¬ i < l.length):(if d=true then out else out++[s])=R:=by
 have h3:=h.fe
 have h1:=h.fhi
 simp only at h3 h1
 rw [← h3,List.drop_eq_nil_of_le (by omega)]
 cases d <;> simp [genL]
def wf4 (l:LLR) (g h:Bool) (k:Int) (nm:ByteArray) (ps:LLR):LInv:=⟨Int × Bool × LLR,fun x=>⟨[(2,.ptr 2 0),(3,.ptr 3 0),(4,.ptr 4 0),(5,.ptr 5 0),(6,.bool x.2.1),(14,.sl 3 g l),(15,.int .i64 l.length),(16,.int .i64 x.1)],[(2,.cells [.sl 3 g l]),(3,.cells [.int .i64 k,.str nm,.sl 7 h ps]),(4,.cells [.nils]),(5,.cells [.rw 1501 3 x.2.2.length]),(1501,.row 59 3 x.2.2)]⟩,WfI (geS nm) (neS nm) (stA k nm ps) l (wiL l k nm ps),fun x=>(l.length - x.1).toNat,none⟩
def rwithF_s (wiL:LLR→Int→ByteArray→LLR→LLR):Sp
 | [.agg [.sl 3 g l],.agg [.int .i64 k,.str nm,.sl 7 false ps]]=>some (StsP l,.agg [.sl 3 false (wiL l k nm ps)])
 | _=>none
def rwithF_T (wiL':LLR→Int→ByteArray→LLR→LLR):Prop :=
  ∀ (gl:Glob) (l ps:List (List AV)) (g:Bool) (k:Int) (nm:ByteArray),StsP l→True∧True→(IR9 k)∧nm.size.le (9223372036854775807:Nat)∧True∧True→(∃ x,WfI (geS nm) (neS nm) (stA k nm ps) l (wiL l k nm ps) x∧((0:Nat)=0∧(0:Nat)=0∧(0:Nat)=0∧(0:Nat)=0∧decide ((↑ps.length:Int)=(0:Int))=x.snd.fst∧((bif g then g=true else
 True)∧l=l)∧(↑l.length:Int)=(↑l.length:Int)∧(0:Int)=x.fst∧True)∧(((bif g then g=true else True)∧l=l)∧True)∧(k=k∧nm=nm∧(True∧ps=ps)∧True)∧(True∧True)∧((0:Nat)=List.length x.snd.snd∧True)∧[]=x.snd.snd∧True)∧∀ (x:Int × Bool × LLR),WfI (geS nm) (neS nm) (stA k nm ps) l (wiL l k nm ps) x→bif decide (x.fst < (↑l.length:Int)) then bif decide (0≤x.fst∧x.fst <
 (↑l.length:Int)) then ∃ n s xs,List.take [AV.int .i64 n,.str s,.sl (7:Nat) false xs].length (l.getD x.fst.toNat [])=[AV.int .i64 n,.str s,.sl (7:Nat) false xs]∧bif !x.snd.fst then bif Op.bytesLess nm.toList s.toList||decide (nm=s) then bif decide (List.length x.snd.snd=List.length x.snd.snd∧List.length x.snd.snd+[[AV.int .i64 k,.str nm,.sl (7:Nat) false ps]].length ≤
 (9223372036854775807:Nat)∧(List.length x.snd.snd+[[AV.int .i64 k,.str nm,.sl (7:Nat) false ps]].length)*(48:Nat)≤(140737488355328:Nat)) then bif !decide (s=nm) then bif decide ((x.snd.snd++[[AV.int .i64 k,.str nm,.sl (7:Nat) false ps]]).length=(x.snd.snd++[[AV.int .i64 k,.str nm,.sl (7:Nat) false ps]]).length∧(x.snd.snd++[[AV.int .i64 k,.str nm,.sl (7:Nat) false ps]]).length+[[AV.int
 .i64 n,.str s,.sl (7:Nat) false xs]].length≤(9223372036854775807:Nat)∧((x.snd.snd++[[AV.int .i64 k,.str nm,.sl (7:Nat) false ps]]).length+[[AV.int .i64 n,.str s,.sl (7:Nat) false xs]].length)*(48:Nat)≤(140737488355328:Nat)) then bif decide (rng .i64 (x.fst+(1:Int))) then ∃ y,WfI (geS nm) (neS nm) (stA k nm ps) l (wiL l k nm ps) y∧(wf4 l g false k nm ps).m y <
 (wf4 l g false k nm ps).m x∧((0:Nat)=0∧(0:Nat)=0∧(0:Nat)=0∧(0:Nat)=0∧true=y.snd.fst∧((bif g then g=true else True)∧l=l)∧(↑l.length:Int)=(↑l.length:Int)∧x.fst+(1:Int)=y.fst∧True)∧(((bif g then g=true else True)∧l=l)∧True)∧(k=k∧nm=nm∧(True∧ps=ps)∧True)∧(True∧True)∧((x.snd.snd++[[AV.int .i64 k,.str nm,.sl (7:Nat) false ps]]++[[AV.int .i64 n,.str s,.sl (7:Nat) false xs]]).length=List.length
 y.snd.snd∧True)∧x.snd.snd++[[AV.int .i64 k,.str nm,.sl (7:Nat) false ps]]++[[AV.int .i64 n,.str s,.sl (7:Nat) false xs]]=y.snd.snd∧True else False else False else bif decide (rng .i64 (x.fst+(1:Int))) then ∃ y,WfI (geS nm) (neS nm) (stA k nm ps) l (wiL l k nm ps) y∧(wf4 l g false k nm ps).m y < (wf4 l g false k nm ps).m
 x∧((0:Nat)=0∧(0:Nat)=0∧(0:Nat)=0∧(0:Nat)=0∧true=y.snd.fst∧((bif g then g=true else True)∧l=l)∧(↑l.length:Int)=(↑l.length:Int)∧x.fst+(1:Int)=y.fst∧True)∧(((bif g then g=true else True)∧l=l)∧True)∧(k=k∧nm=nm∧(True∧ps=ps)∧True)∧(True∧True)∧((x.snd.snd++[[AV.int .i64 k,.str nm,.sl (7:Nat) false ps]]).length=List.length y.snd.snd∧True)∧x.snd.snd++[[AV.int .i64 k,.str nm,.sl (7:Nat) false
 ps]]=y.snd.snd∧True else False else False else bif !decide (s=nm) then bif decide (List.length x.snd.snd=List.length x.snd.snd∧List.length x.snd.snd+[[AV.int .i64 n,.str s,.sl (7:Nat) false xs]].length≤(9223372036854775807:Nat)∧(List.length x.snd.snd+[[AV.int .i64 n,.str s,.sl (7:Nat) false xs]].length)*(48:Nat)≤(140737488355328:Nat)) then bif decide (rng .i64 (x.fst+(1:Int))) then ∃
 y,WfI (geS nm) (neS nm) (stA k nm ps) l (wiL l k nm ps) y∧(wf4 l g false k nm ps).m y < (wf4 l g false k nm ps).m x∧((0:Nat)=0∧(0:Nat)=0∧(0:Nat)=0∧(0:Nat)=0∧x.snd.fst=y.snd.fst∧((bif g then g=true else True)∧l=l)∧(↑l.length:Int)=(↑l.length:Int)∧x.fst+(1:Int)=y.fst∧True)∧(((bif g then g=true else True)∧l=l)∧True)∧(k=k∧nm=nm∧(True∧ps=ps)∧True)∧(True∧True)∧((x.snd.snd ++
 [[AV.int .i64 n,.str s,.sl (7:Nat) false xs]]).length=List.length y.snd.snd∧True)∧x.snd.snd++[[AV.int .i64 n,.str s,.sl (7:Nat) false xs]]=y.snd.snd∧True else False else False else bif decide (rng .i64 (x.fst+(1:Int))) then ∃ y,WfI (geS nm) (neS nm) (stA k nm ps) l (wiL l k nm ps) y∧(wf4 l g false k nm ps).m y < (wf4 l g false k nm ps).m
 x∧((0:Nat)=0∧(0:Nat)=0∧(0:Nat)=0∧(0:Nat)=0∧x.snd.fst=y.snd.fst∧((bif g then g=true else True)∧l=l)∧(↑l.length:Int)=(↑l.length:Int)∧x.fst+(1:Int)=y.fst∧True)∧(((bif g then g=true else True)∧l=l)∧True)∧(k=k∧nm=nm∧(True∧ps=ps)∧True)∧(True∧True)∧(List.length x.snd.snd=List.length y.snd.snd∧True)∧x.snd.snd=y.snd.snd∧True else False else bif !decide (s=nm) then bif decide (List.length
 x.snd.snd=List.length x.snd.snd∧List.length x.snd.snd+[[AV.int .i64 n,.str s,.sl (7:Nat) false xs]].length≤(9223372036854775807:Nat)∧(List.length x.snd.snd+[[AV.int .i64 n,.str s,.sl (7:Nat) false xs]].length)*(48:Nat)≤(140737488355328:Nat)) then bif decide (rng .i64 (x.fst+(1:Int))) then ∃ y,WfI (geS nm) (neS nm) (stA k nm ps) l (wiL l k nm ps) y∧(wf4 l g
 false k nm ps).m y < (wf4 l g false k nm ps).m x∧((0:Nat)=0∧(0:Nat)=0∧(0:Nat)=0∧(0:Nat)=0∧x.snd.fst=y.snd.fst∧((bif g then g=true else True)∧l=l)∧(↑l.length:Int)=(↑l.length:Int)∧x.fst+(1:Int)=y.fst∧True)∧(((bif g then g=true else True)∧l=l)∧True)∧(k=k∧nm=nm∧(True∧ps=ps)∧True)∧(True∧True)∧((x.snd.snd++[[AV.int .i64 n,.str s,.sl (7:Nat) false xs]]).length=List.length y.snd.snd∧True)∧x.snd.snd ++
 [[AV.int .i64 n,.str s,.sl (7:Nat) false xs]]=y.snd.snd∧True else False else False else bif decide (rng .i64 (x.fst+(1:Int))) then ∃ y,WfI (geS nm) (neS nm) (stA k nm ps) l (wiL l k nm ps) y∧(wf4 l g false k nm ps).m y < (wf4 l g false k nm ps).m x∧((0:Nat)=0∧(0:Nat)=0∧(0:Nat)=0∧(0:Nat)=0∧x.snd.fst=y.snd.fst∧((bif g then g=true else
 True)∧l=l)∧(↑l.length:Int)=(↑l.length:Int)∧x.fst+(1:Int)=y.fst∧True)∧(((bif g then g=true else True)∧l=l)∧True)∧(k=k∧nm=nm∧(True∧ps=ps)∧True)∧(True∧True)∧(List.length x.snd.snd=List.length y.snd.snd∧True)∧x.snd.snd=y.snd.snd∧True else False else False else bif !x.snd.fst then bif decide (List.length x.snd.snd=List.length x.snd.snd∧List.length x.snd.snd+[[AV.int .i64 k,.str nm,.sl (7:Nat) false
 ps]].length≤(9223372036854775807:Nat)∧(List.length x.snd.snd+[[AV.int .i64 k,.str nm,.sl (7:Nat) false ps]].length)*(48:Nat)≤(140737488355328:Nat)) then bif decide ((x.snd.snd++[[AV.int .i64 k,.str nm,.sl (7:Nat) false ps]]).length=(x.snd.snd++[[AV.int .i64 k,.str nm,.sl (7:Nat) false ps]]).length) then (True∧x.snd.snd++[[AV.int .i64 k,.str nm,.sl (7:Nat) false ps]]=wiL' l k nm
 ps)∧True else False else False else bif decide (List.length x.snd.snd=List.length x.snd.snd) then (True∧x.snd.snd=wiL' l k nm ps)∧True else False
theorem rwithF_P:rwithF_T wiL:=by
 unfold rwithF_T
 intro gl l ps g k nm hl _ _
 have ll:=hl.fs
 have bg:cond g (g=true) True:=by cases g <;> trivial
 refine ⟨⟨(0,decide ((ps.length:Int)=0),[]),⟨by simp,by simp,by simp,by simp [wiL]⟩,by (repeat' (first | exact trivial | exact rfl | assumption | apply And.intro))⟩,?_⟩
 rintro ⟨i,d,out⟩ hw
 have i0:=hw.flo
 have ol:=hw.fl
 simp only at i0 ol
 dsimp only
 refine csx (fun hi=>cd1 (by omega) ?_) (fun hi=>?_)
 ·obtain ⟨k2,nm2,ps2,hr,hp2⟩:=hl.fr i.toNat (by omega)
  have nx:=@wf_next _ _ _ _ _ _ _ _ hw hi _ hr
  have i1:i+1≤l.length:=by omega
  refine ⟨k2,nm2,ps2,by rw [hr]; rfl,csplit (fun hd=>?_) (fun hd=>?_)⟩
  ·have hd:d=false:=by simpa using hd
   subst hd
   refine csplit (fun q=>?_) (fun q=>?_)
   ·have q':geS nm (stA k2 nm2 ps2)=true:=q
    refine cd1 ⟨rfl,by simp; omega,by simp; omega⟩ (csplit (fun q2=>?_) (fun q2=>?_))
    ·have q2':neS nm (stA k2 nm2 ps2)=true:=q2
     exact cd1 ⟨rfl,by simp; omega,by simp; omega⟩ (cdI (by omega) ⟨(i+1,true,out++[stA k nm ps]++[stA k2 nm2 ps2]),nx (by rw [q']; rfl) (by simp [q',q2']),by simp only [wf4]; omega,by (repeat' (first | exact trivial | exact rfl | assumption | apply And.intro))⟩)
    ·have q2':neS nm (stA k2 nm2 ps2)=false:=q2
     exact cdI (by omega) ⟨(i+1,true,out++[stA k nm ps]),nx (by rw [q']; rfl) (by simp [q',q2']),by simp only [wf4]; omega,by (repeat' (first | exact trivial | exact rfl | assumption | apply And.intro))⟩
   ·have q':geS nm (stA k2 nm2 ps2)=false:=q
    refine csplit (fun q2=>?_) (fun q2=>?_)
    ·have q2':neS nm (stA k2 nm2 ps2)=true:=q2
     exact cd1 ⟨rfl,by simp; omega,by simp; omega⟩ (cdI (by omega) ⟨(i+1,false,out++[stA k2 nm2 ps2]),nx (by rw [q']; rfl) (by simp [q',q2']),by simp only [wf4]; omega,by (repeat' (first | exact trivial | exact rfl | assumption | apply And.intro))⟩)
    ·have q2':neS nm (stA k2 nm2 ps2)=false:=q2
     exact cdI (by omega) ⟨(i+1,false,out),nx (by rw [q']; rfl) (by simp [q',q2']),by simp only [wf4]; omega,by (repeat' (first | exact trivial | exact rfl | assumption | apply And.intro))⟩
  ·have hd:d=true:=by simpa using hd
   subst hd
   refine csplit (fun q2=>?_) (fun q2=>?_)
   ·have q2':neS nm (stA k2 nm2 ps2)=true:=q2
    exact cd1 ⟨rfl,by simp; omega,by simp; omega⟩ (cdI (by omega) ⟨(i+1,true,out++[stA k2 nm2 ps2]),nx (by rfl) (by simp [q2']),by simp only [wf4]; omega,by (repeat' (first | exact trivial | exact rfl | assumption | apply And.intro))⟩)
   ·have q2':neS nm (stA k2 nm2 ps2)=false:=q2
    exact cdI (by omega) ⟨(i+1,true,out),nx (by rfl) (by simp [q2']),by simp only [wf4]; omega,by (repeat' (first | exact trivial | exact rfl | assumption | apply And.intro))⟩
 ·have he:=wf_end hw hi
  have i1:=hw.fhi
  simp only at i1
  refine csplit (fun hd=>?_) (fun hd=>?_)
  ·have hd:d=false:=by simpa using hd
   subst hd
   exact cd1 ⟨rfl,by simp; omega,by simp; omega⟩ (cd1 rfl ⟨⟨trivial,he⟩,trivial⟩)
  ·have hd:d=true:=by simpa using hd
   subst hd
   exact cd1 rfl ⟨⟨trivial,he⟩,trivial⟩
def rwithF_S (wiL:LLR→Int→ByteArray→LLR→LLR):Prop:=∀ (gl:Glob) (l ps:List (List AV)) (g:Bool) (k:Int) (nm:ByteArray),StsP l→fnK Tryz.prog { glob:=gl,spec:=lk [],specH:=lk [],shape:=[19],slz:=[(19,[7])],nowf:=true } { nt:=56,drop:=drp [(2,7680),(3,8192),(5,786432),(6,267386880),(7,33822867456),(9,515396075520),(10,69269232549888),(11,70368744177664),(12,140737488355328),(13,35465847065542656),(14,36028797018963968)],emp:=fun id=>cond (Nat.beq id 3) [(1000500,1501,59,3)] [] } (invs [(4,wf4 l g false k nm ps)]) 6 Tryz.f81 [.agg [.sl 3 g l],.agg [.int .i64 k,.str nm,.sl 7 false ps]] (.agg [.sl 3 false (wiL l k nm ps)])
theorem rwithF_e (wiL:LLR→Int→ByteArray→LLR→LLR):rwithF_T wiL=rwithF_S wiL:=by kernel_rfl
theorem rwithF_v:rwithF_S wiL:=Eq.mp (rwithF_e ..) (rwithF_P)
theorem rwithF_ok (gl:Glob):SOK Tryz.prog gl 81 (rwithF_s wiL):=by
 refine ⟨fok Tryz.func81 (by kernel_rfl) (by kernel_rfl),?_⟩
 intro xs pre r h hp
 unfold rwithF_s at h
 split at h
 ·simp only [Option.some.injEq,Prod.mk.injEq] at h
  obtain ⟨h1,h2⟩:=h
  subst h1 h2
  exact fnK_sound tyNil (by exact specOK rfl rfl trivial trivial) (by kernel_rfl) Tryz.func81 rfl (rwithF_v gl _ _ _ _ _ hp)
 ·cases h
def geP (fr:Int) (x:List AV):Bool:=decide (fr≤rE x)
def neP (fr:Int) (x:List AV):Bool:=decide (¬ rE x=fr)
def puL (ps:LLR) (fr:Int) (p:List AV):LLR:=genL (geP fr) (neP fr) p false ps
def reP (l:LLR) (nm:ByteArray) (fr:Int) (p:List AV):LLR:=puL (fiP l nm) fr p
def reL (l:LLR) (k:Int) (nm:ByteArray) (fr:Int) (p:List AV):LLR:=wiL l k nm (reP l nm fr p)
def reE (l:LLR) (k:Int) (nm:ByteArray) (fr:Int) (cl:Bool) (f a b c:Int) (bs:LLR):Int :=
 if rgV l≠0 then rgV l else if exK k=false then 4 else if nmOk nm=false then 3 else if pdV k fr cl f a b c bs=false then 1 else
 if fiB l nm=true∧fiK l nm≠k then 7 else if 60 < ((reL l k nm fr (pdA fr cl f a b c bs)).length:Int) then 2 else if 8 < ((reP l nm fr (pdA fr cl f a b c bs)).length:Int) then 2 else 0
def reO (l:LLR) (k:Int) (nm:ByteArray) (fr:Int) (cl:Bool) (f a b c:Int) (bs:LLR):LLR:=if reE l k nm fr cl f a b c bs=0 then reL l k nm fr (pdA fr cl f a b c bs) else []
def sf16 (l:LLR) (g:Bool) (k:Int) (nm:ByteArray) (fr:Int) (p:List AV) (ps0:LLR):LInv:=⟨Int × Bool × LLR,fun x=>⟨[(1,.int .i64 k),(2,.str nm),(4,.ptr 4 0),(7,.ptr 7 0),(8,.ptr 8 0),(13,.ptr 13 0),(14,.bool x.2.1),(55,.sl 7 false ps0),(56,.int .i64 ps0.length),(57,.int .i64 x.1)],[(4,.cells [.sl 3 g l]),(7,.cells p),(8,.cells [.nils]),(13,.cells [.int .i64 k,.str nm,.rw 1502 7 x.2.2.length]),(1502,.row 49 7 x.2.2)]⟩,WfI (geP fr) (neP fr) p ps0 (puL ps0 fr p),fun x=>(ps0.length - x.1).toNat,none⟩
theorem fiP_p {l:LLR} (hl:StsP l) (nm:ByteArray):PdsP (fiP l nm):=by
 unfold fiP
 split
 ·rename_i h
  rcases Nat.lt_or_ge (fiI l nm).toNat l.length with z | z
  ·obtain ⟨k,n,ps,hr,hp⟩:=hl.fr _ z
   rw [hr]; exact hp
  ·rw [List.getD_eq_getElem?_getD,List.getElem?_eq_none z]; exact pds_nil
 ·exact pds_nil
theorem re_err {l:LLR} {k:Int} {nm:ByteArray} {fr:Int} {cl:Bool} {f a b c:Int} {bs:LLR} {e:Int} (h:reE l k nm fr cl f a b c bs=e) (he:e≠0):(reO l k nm fr cl f a b c bs=[]∧True)∧e=reE l k nm fr cl f a b c bs∧True :=
 ⟨⟨if_neg (by rw [h]; exact he),trivial⟩,h.symm,trivial⟩
structure RsC (l:LLR) (k:Int) (nm:ByteArray) (fr:Int) (cl:Bool) (f a b c:Int) (bs:LLR) (x:Unit):Prop where
 h0:rgV l=0
 hE:reE l k nm fr cl f a b c bs=if 60 < ((reL l k nm fr (pdA fr cl f a b c bs)).length:Int) then 2 else if 8 < ((reP l nm fr (pdA fr cl f a b c bs)).length:Int) then 2 else 0
def sf13 (l:LLR) (g:Bool) (k:Int) (nm:ByteArray) (fr:Int) (cl:Bool) (f a b c:Int) (bs:LLR) (q:List AV):LInv:=⟨Unit,fun _=>⟨[(1,.int .i64 k),(2,.str nm),(4,.ptr 4 0),(7,.ptr 7 0),(8,.ptr 8 0),(11,.ptr 11 0)],[(4,.cells [.sl 3 g l]),(7,.cells (pdA fr cl f a b c bs)),(8,.cells [.nils]),(11,.cells q)]⟩,RsC l k nm fr cl f a b c bs,fun _=>0,none⟩
def sfJ (l:LLR) (g:Bool) (k:Int) (nm:ByteArray) (fr:Int) (cl:Bool) (f a b c:Int) (bs:LLR) (id:Nat) (st:St):Option LInv:=cond (Nat.beq id 16) (match lk st.tmps 55 with
 | some (.sl _ _ ps0)=>some (sf16 l g k nm fr (pdA fr cl f a b c bs) ps0)
 | _=>none) (cond (Nat.beq id 100013) (match lk st.heap 11 with
 | some (.cells q)=>some (sf13 l g k nm fr cl f a b c bs q)
 | _=>none) none)
def rsetF_s (pdV:Int→Int→Bool→Int→Int→Int→Int→LLR→Bool) (nmOk:ByteArray→Bool) (rgV:LLR→Int) (reE:LLR→Int→ByteArray→Int→Bool→Int→Int→Int→Int→LLR→Int) (reO:LLR→Int→ByteArray→Int→Bool→Int→Int→Int→Int→LLR→LLR) (wiL:LLR→Int→ByteArray→LLR→LLR) (fiK:LLR→ByteArray→Int) (fiN:LLR→ByteArray→ByteArray) (fiP:LLR→ByteArray→LLR) (fiB:LLR→ByteArray→Bool):Sp
 | [.agg [.sl 3 g l],.int .i64 k,.str nm,.agg [.int .i64 fr,.bool cl,.int .i64 f,.int .i64 a,.int .i64 b,.int .i64 c,.sl 2 false bs]]=>some (StsP l∧RdsP bs,.tup [.agg [.sl 3 false (reO l k nm fr cl f a b c bs)],.int .i64 (reE l k nm fr cl f a b c bs)])
 | _=>none
def rsetF_T (pdV:Int→Int→Bool→Int→Int→Int→Int→LLR→Bool) (nmOk:ByteArray→Bool) (rgV:LLR→Int) (reE:LLR→Int→ByteArray→Int→Bool→Int→Int→Int→Int→LLR→Int) (reO:LLR→Int→ByteArray→Int→Bool→Int→Int→Int→Int→LLR→LLR) (wiL:LLR→Int→ByteArray→LLR→LLR) (fiK:LLR→ByteArray→Int) (fiN:LLR→ByteArray→ByteArray) (fiP:LLR→ByteArray→LLR) (fiB:LLR→ByteArray→Bool) (nrm:Int→Int→Int→Int→Int × Int × Int × Int) (vld:Int→Int→Int→Int→Bool) (isN:Int→Int→Int→Int→Bool) (inB:Int→Bool) (bsOk:LLR→Bool):Prop :=
  ∀ (gl:Glob) (l bs:List (List AV)) (g cl:Bool) (k fr f a b c:Int) (nm:ByteArray),StsP l∧RdsP bs→True∧True→IR9 k→nm.size.le (9223372036854775807:Nat)→(IR9 fr)∧True∧(IR9 f)∧((-9223372036854775808:Int)≤a∧a ≤
 (9223372036854775807:Int))∧(IR9 b)∧(IR9 c)∧True∧True→StsP l∧bif decide ¬rgV l=(0:Int) then (reO l k nm fr cl f a b c bs=[]∧True)∧rgV l=reE l k nm fr cl f a b c bs∧True else True∧bif !decide (1≤k∧k≤(3:Int)) then (reO l k nm fr cl f a b c bs=[]∧True)∧(4:Int)=reE l k nm fr cl f a b c
 bs∧True else True∧bif !nmOk nm then (reO l k nm fr cl f a b c bs=[]∧True)∧(3:Int)=reE l k nm fr cl f a b c bs∧True else RdsP bs∧bif !pdV k fr cl f a b c bs then (reO l k nm fr cl f a b c bs=[]∧True)∧(1:Int)=reE l k nm fr cl f a b c bs∧True else StsP l∧(bif fiB l nm then bif decide ¬fiK l nm=k then (reO l k nm fr cl f a b c bs=[]∧True)∧(7:Int)=reE l k nm fr cl f a b c bs∧True else ∃ x,RsC l k nm fr
 cl f a b c bs x∧(k=k∧nm=nm∧(0:Nat)=0∧(0:Nat)=0∧(0:Nat)=0∧(0:Nat)=0∧True)∧(((bif g then g=true else True)∧l=l)∧True)∧(fr=fr∧cl=cl∧f=f∧a=a∧b=b∧c=c∧(True∧bs=bs)∧True)∧(True∧True)∧(fiK l nm=fiK l nm∧fiN l nm=fiN l nm∧(True∧fiP l nm=fiP l nm)∧True)∧True else ∃ x,RsC l k nm fr cl f a b c bs x∧(k=k∧nm=nm∧(0:Nat)=0∧(0:Nat)=0∧(0:Nat)=0∧(0:Nat)=0∧True)∧(((bif g then g=true else
 True)∧l=l)∧True)∧(fr=fr∧cl=cl∧f=f∧a=a∧b=b∧c=c∧(True∧bs=bs)∧True)∧(True∧True)∧(fiK l nm=fiK l nm∧fiN l nm=fiN l nm∧(True∧fiP l nm=fiP l nm)∧True)∧True)∧∀ (x:PUnit),RsC l k nm fr cl f a b c bs x→(∃ x,WfI (geP fr) (neP fr) (pdA fr cl f a b c bs) (fiP l nm) (puL (fiP l nm) fr (pdA fr cl f a b c bs)) x∧(k=k∧nm=nm∧(0:Nat)=0∧(0:Nat)=0∧(0:Nat)=0∧(0:Nat)=0∧false=x.snd.fst∧(True∧fiP l nm=fiP l
 nm)∧(↑(List.length (fiP l nm)):Int)=(↑(List.length (fiP l nm)):Int)∧(0:Int)=x.fst∧True)∧(((bif g then g=true else True)∧l=l)∧True)∧(fr=fr∧cl=cl∧f=f∧a=a∧b=b∧c=c∧(True∧bs=bs)∧True)∧(True∧True)∧(k=k∧nm=nm∧(0:Nat)=List.length x.snd.snd∧True)∧[]=x.snd.snd∧True)∧∀ (x:Int × Bool × LLR),WfI (geP fr) (neP fr) (pdA fr cl f a b c bs) (fiP l nm) (puL (fiP l nm) fr (pdA fr cl f a b c bs)) x→bif decide (x.fst
 < (↑(List.length (fiP l nm)):Int)) then bif decide (0≤x.fst∧x.fst < (↑(List.length (fiP l nm)):Int)) then ∃ n b_1 n_1 n_2 n_3 n_4 xs,List.take [AV.int .i64 n,.bool b_1,.int .i64 n_1,.int .i64 n_2,.int .i64 n_3,.int .i64 n_4,.sl (2:Nat) false xs].length (List.getD (fiP l nm) x.fst.toNat [])=[AV.int .i64 n,.bool b_1,.int .i64 n_1,.int .i64 n_2,.int .i64 n_3,.int .i64 n_4,.sl (2:Nat) false
 xs]∧bif !x.snd.fst then bif decide (fr≤n) then bif decide (List.length x.snd.snd=List.length x.snd.snd∧List.length x.snd.snd+[[AV.int .i64 fr,.bool cl,.int .i64 f,.int .i64 a,.int .i64 b,.int .i64 c,.sl (2:Nat) false bs]].length≤(9223372036854775807:Nat)∧(List.length x.snd.snd+[[AV.int .i64 fr,.bool cl,.int .i64 f,.int .i64 a,.int .i64 b,.int .i64 c,.sl (2:Nat) false bs]].length)*(72:Nat)
≤(140737488355328:Nat)) then bif decide ¬n=fr then bif decide ((x.snd.snd++[[AV.int .i64 fr,.bool cl,.int .i64 f,.int .i64 a,.int .i64 b,.int .i64 c,.sl (2:Nat) false bs]]).length=(x.snd.snd++[[AV.int .i64 fr,.bool cl,.int .i64 f,.int .i64 a,.int .i64 b,.int .i64 c,.sl (2:Nat) false bs]]).length∧(x.snd.snd++[[AV.int .i64 fr,.bool cl,.int .i64 f,.int .i64 a,.int .i64 b,.int .i64 c,.sl (2:Nat)
 false bs]]).length+[[AV.int .i64 n,.bool b_1,.int .i64 n_1,.int .i64 n_2,.int .i64 n_3,.int .i64 n_4,.sl (2:Nat) false xs]].length≤(9223372036854775807:Nat)∧((x.snd.snd++[[AV.int .i64 fr,.bool cl,.int .i64 f,.int .i64 a,.int .i64 b,.int .i64 c,.sl (2:Nat) false bs]]).length+[[AV.int .i64 n,.bool b_1,.int .i64 n_1,.int .i64 n_2,.int .i64 n_3,.int .i64 n_4,.sl (2:Nat) false xs]].length) *
 (72:Nat)≤(140737488355328:Nat)) then bif decide (rng .i64 (x.fst+(1:Int))) then ∃ y,WfI (geP fr) (neP fr) (pdA fr cl f a b c bs) (fiP l nm) (puL (fiP l nm) fr (pdA fr cl f a b c bs)) y∧(sf16 l g k nm fr (pdA fr cl f a b c bs) (fiP l nm)).m y < (sf16 l g k nm fr (pdA fr cl f a b c bs) (fiP l nm)).m x∧(k=k∧nm=nm∧(0:Nat)=0∧(0:Nat)=0∧(0:Nat)=0∧(0:Nat)=0∧true=y.snd.fst∧(True∧fiP l nm=fiP l
 nm)∧(↑(List.length (fiP l nm)):Int)=(↑(List.length (fiP l nm)):Int)∧x.fst+(1:Int)=y.fst∧True)∧(((bif g then g=true else True)∧l=l)∧True)∧(fr=fr∧cl=cl∧f=f∧a=a∧b=b∧c=c∧(True∧bs=bs)∧True)∧(True∧True)∧(k=k∧nm=nm∧(x.snd.snd++[[AV.int .i64 fr,.bool cl,.int .i64 f,.int .i64 a,.int .i64 b,.int .i64 c,.sl (2:Nat) false bs]]++[[AV.int .i64 n,.bool b_1,.int .i64 n_1,.int .i64 n_2,.int .i64 n_3,.int .i64
 n_4,.sl (2:Nat) false xs]]).length=List.length y.snd.snd∧True)∧x.snd.snd++[[AV.int .i64 fr,.bool cl,.int .i64 f,.int .i64 a,.int .i64 b,.int .i64 c,.sl (2:Nat) false bs]]++[[AV.int .i64 n,.bool b_1,.int .i64 n_1,.int .i64 n_2,.int .i64 n_3,.int .i64 n_4,.sl (2:Nat) false xs]]=y.snd.snd∧True else False else False else bif decide (rng .i64 (x.fst+(1:Int))) then ∃ y,WfI (geP fr) (neP fr) (pdA fr
 cl f a b c bs) (fiP l nm) (puL (fiP l nm) fr (pdA fr cl f a b c bs)) y∧(sf16 l g k nm fr (pdA fr cl f a b c bs) (fiP l nm)).m y < (sf16 l g k nm fr (pdA fr cl f a b c bs) (fiP l nm)).m x∧(k=k∧nm=nm∧(0:Nat)=0∧(0:Nat)=0∧(0:Nat)=0∧(0:Nat)=0∧true=y.snd.fst∧(True∧fiP l nm=fiP l nm)∧(↑(List.length (fiP l nm)):Int)=(↑(List.length (fiP l nm)):Int)∧x.fst+(1:Int)=y.fst∧True)∧(((bif g then g=true else
 True)∧l=l)∧True)∧(fr=fr∧cl=cl∧f=f∧a=a∧b=b∧c=c∧(True∧bs=bs)∧True)∧(True∧True)∧(k=k∧nm=nm∧(x.snd.snd++[[AV.int .i64 fr,.bool cl,.int .i64 f,.int .i64 a,.int .i64 b,.int .i64 c,.sl (2:Nat) false bs]]).length=List.length y.snd.snd∧True)∧x.snd.snd++[[AV.int .i64 fr,.bool cl,.int .i64 f,.int .i64 a,.int .i64 b,.int .i64 c,.sl (2:Nat) false bs]]=y.snd.snd∧True else False else False else bif decide
 ¬n=fr then bif decide (List.length x.snd.snd=List.length x.snd.snd∧List.length x.snd.snd+[[AV.int .i64 n,.bool b_1,.int .i64 n_1,.int .i64 n_2,.int .i64 n_3,.int .i64 n_4,.sl (2:Nat) false xs]].length≤(9223372036854775807:Nat)∧(List.length x.snd.snd+[[AV.int .i64 n,.bool b_1,.int .i64 n_1,.int .i64 n_2,.int .i64 n_3,.int .i64 n_4,.sl (2:Nat) false xs]].length)*(72:Nat) ≤
 (140737488355328:Nat)) then bif decide (rng .i64 (x.fst+(1:Int))) then ∃ y,WfI (geP fr) (neP fr) (pdA fr cl f a b c bs) (fiP l nm) (puL (fiP l nm) fr (pdA fr cl f a b c bs)) y∧(sf16 l g k nm fr (pdA fr cl f a b c bs) (fiP l nm)).m y < (sf16 l g k nm fr (pdA fr cl f a b c bs) (fiP l nm)).m x∧(k=k∧nm=nm∧(0:Nat)=0∧(0:Nat)=0∧(0:Nat)=0∧(0:Nat)=0∧x.snd.fst=y.snd.fst∧(True∧fiP l nm=fiP l
 nm)∧(↑(List.length (fiP l nm)):Int)=(↑(List.length (fiP l nm)):Int)∧x.fst+(1:Int)=y.fst∧True)∧(((bif g then g=true else True)∧l=l)∧True)∧(fr=fr∧cl=cl∧f=f∧a=a∧b=b∧c=c∧(True∧bs=bs)∧True)∧(True∧True)∧(k=k∧nm=nm∧(x.snd.snd++[[AV.int .i64 n,.bool b_1,.int .i64 n_1,.int .i64 n_2,.int .i64 n_3,.int .i64 n_4,.sl (2:Nat) false xs]]).length=List.length y.snd.snd∧True)∧x.snd.snd++[[AV.int .i64 n,.bool
 b_1,.int .i64 n_1,.int .i64 n_2,.int .i64 n_3,.int .i64 n_4,.sl (2:Nat) false xs]]=y.snd.snd∧True else False else False else bif decide (rng .i64 (x.fst+(1:Int))) then ∃ y,WfI (geP fr) (neP fr) (pdA fr cl f a b c bs) (fiP l nm) (puL (fiP l nm) fr (pdA fr cl f a b c bs)) y∧(sf16 l g k nm fr (pdA fr cl f a b c bs) (fiP l nm)).m y < (sf16 l g k nm fr (pdA fr cl f a b c bs) (fiP l nm)).m
 x∧(k=k∧nm=nm∧(0:Nat)=0∧(0:Nat)=0∧(0:Nat)=0∧(0:Nat)=0∧x.snd.fst=y.snd.fst∧(True∧fiP l nm=fiP l nm)∧(↑(List.length (fiP l nm)):Int)=(↑(List.length (fiP l nm)):Int)∧x.fst+(1:Int)=y.fst∧True)∧(((bif g then g=true else True)∧l=l)∧True)∧(fr=fr∧cl=cl∧f=f∧a=a∧b=b∧c=c∧(True∧bs=bs)∧True)∧(True∧True)∧(k=k∧nm=nm∧List.length x.snd.snd=List.length y.snd.snd∧True)∧x.snd.snd=y.snd.snd∧True else False else bif
 decide ¬n=fr then bif decide (List.length x.snd.snd=List.length x.snd.snd∧List.length x.snd.snd+[[AV.int .i64 n,.bool b_1,.int .i64 n_1,.int .i64 n_2,.int .i64 n_3,.int .i64 n_4,.sl (2:Nat) false xs]].length≤(9223372036854775807:Nat)∧(List.length x.snd.snd+[[AV.int .i64 n,.bool b_1,.int .i64 n_1,.int .i64 n_2,.int .i64 n_3,.int .i64 n_4,.sl (2:Nat) false xs]].length)*(72:Nat) ≤
 (140737488355328:Nat)) then bif decide (rng .i64 (x.fst+(1:Int))) then ∃ y,WfI (geP fr) (neP fr) (pdA fr cl f a b c bs) (fiP l nm) (puL (fiP l nm) fr (pdA fr cl f a b c bs)) y∧(sf16 l g k nm fr (pdA fr cl f a b c bs) (fiP l nm)).m y < (sf16 l g k nm fr (pdA fr cl f a b c bs) (fiP l nm)).m x∧(k=k∧nm=nm∧(0:Nat)=0∧(0:Nat)=0∧(0:Nat)=0∧(0:Nat)=0∧x.snd.fst=y.snd.fst∧(True∧fiP l nm=fiP l
 nm)∧(↑(List.length (fiP l nm)):Int)=(↑(List.length (fiP l nm)):Int)∧x.fst+(1:Int)=y.fst∧True)∧(((bif g then g=true else True)∧l=l)∧True)∧(fr=fr∧cl=cl∧f=f∧a=a∧b=b∧c=c∧(True∧bs=bs)∧True)∧(True∧True)∧(k=k∧nm=nm∧(x.snd.snd++[[AV.int .i64 n,.bool b_1,.int .i64 n_1,.int .i64 n_2,.int .i64 n_3,.int .i64 n_4,.sl (2:Nat) false xs]]).length=List.length y.snd.snd∧True)∧x.snd.snd++[[AV.int .i64 n,.bool
 b_1,.int .i64 n_1,.int .i64 n_2,.int .i64 n_3,.int .i64 n_4,.sl (2:Nat) false xs]]=y.snd.snd∧True else False else False else bif decide (rng .i64 (x.fst+(1:Int))) then ∃ y,WfI (geP fr) (neP fr) (pdA fr cl f a b c bs) (fiP l nm) (puL (fiP l nm) fr (pdA fr cl f a b c bs)) y∧(sf16 l g k nm fr (pdA fr cl f a b c bs) (fiP l nm)).m y < (sf16 l g k nm fr (pdA fr cl f a b c bs) (fiP l nm)).m
 x∧(k=k∧nm=nm∧(0:Nat)=0∧(0:Nat)=0∧(0:Nat)=0∧(0:Nat)=0∧x.snd.fst=y.snd.fst∧(True∧fiP l nm=fiP l nm)∧(↑(List.length (fiP l nm)):Int)=(↑(List.length (fiP l nm)):Int)∧x.fst+(1:Int)=y.fst∧True)∧(((bif g then g=true else True)∧l=l)∧True)∧(fr=fr∧cl=cl∧f=f∧a=a∧b=b∧c=c∧(True∧bs=bs)∧True)∧(True∧True)∧(k=k∧nm=nm∧List.length x.snd.snd=List.length y.snd.snd∧True)∧x.snd.snd=y.snd.snd∧True else False else False
 else bif !x.snd.fst then bif decide (List.length x.snd.snd=List.length x.snd.snd∧List.length x.snd.snd+[[AV.int .i64 fr,.bool cl,.int .i64 f,.int .i64 a,.int .i64 b,.int .i64 c,.sl (2:Nat) false bs]].length≤(9223372036854775807:Nat)∧(List.length x.snd.snd+[[AV.int .i64 fr,.bool cl,.int .i64 f,.int .i64 a,.int .i64 b,.int .i64 c,.sl (2:Nat) false bs]].length)*(72:Nat) ≤
 (140737488355328:Nat)) then bif decide ((x.snd.snd++[[AV.int .i64 fr,.bool cl,.int .i64 f,.int .i64 a,.int .i64 b,.int .i64 c,.sl (2:Nat) false bs]]).length=(x.snd.snd++[[AV.int .i64 fr,.bool cl,.int .i64 f,.int .i64 a,.int .i64 b,.int .i64 c,.sl (2:Nat) false bs]]).length) then StsP l∧bif decide ((60:Int) < (↑(List.length (wiL l k nm (x.snd.snd++[[AV.int .i64 fr,.bool cl,.int .i64 f,.int
 .i64 a,.int .i64 b,.int .i64 c,.sl (2:Nat) false bs]]))):Int)) then (reO l k nm fr cl f a b c bs=[]∧True)∧(2:Int)=reE l k nm fr cl f a b c bs∧True else bif decide ((x.snd.snd++[[AV.int .i64 fr,.bool cl,.int .i64 f,.int .i64 a,.int .i64 b,.int .i64 c,.sl (2:Nat) false bs]]).length=(x.snd.snd++[[AV.int .i64 fr,.bool cl,.int .i64 f,.int .i64 a,.int .i64 b,.int .i64 c,.sl (2:Nat) false
 bs]]).length) then bif decide ((8:Int) < (↑(x.snd.snd++[[AV.int .i64 fr,.bool cl,.int .i64 f,.int .i64 a,.int .i64 b,.int .i64 c,.sl (2:Nat) false bs]]).length:Int)) then (reO l k nm fr cl f a b c bs=[]∧True)∧(2:Int)=reE l k nm fr cl f a b c bs∧True else ((True∧wiL l k nm (x.snd.snd++[[AV.int .i64 fr,.bool cl,.int .i64 f,.int .i64 a,.int .i64 b,.int .i64 c,.sl (2:Nat) false bs]])=reO l k nm fr
 cl f a b c bs)∧True)∧(0:Int)=reE l k nm fr cl f a b c bs∧True else False else False else False else bif decide (List.length x.snd.snd=List.length x.snd.snd) then StsP l∧bif decide ((60:Int) < (↑(List.length (wiL l k nm x.snd.snd)):Int)) then (reO l k nm fr cl f a b c bs=[]∧True)∧(2:Int)=reE l k nm fr cl f a b c bs∧True else bif decide (List.length x.snd.snd=List.length x.snd.snd) then bif decide
 ((8:Int) < (↑(List.length x.snd.snd):Int)) then (reO l k nm fr cl f a b c bs=[]∧True)∧(2:Int)=reE l k nm fr cl f a b c bs∧True else ((True∧wiL l k nm x.snd.snd=reO l k nm fr cl f a b c bs)∧True)∧(0:Int)=reE l k nm fr cl f a b c bs∧True else False else False
theorem rsetF_P:rsetF_T pdV nmOk rgV reE reO wiL fiK fiN fiP fiB nrm vld isN inB bsOk:=by
 unfold rsetF_T
 intro gl l bs g cl k fr f a b c nm ⟨hl,hb⟩ _
 intros
 have bg:cond g (g=true) True:=by cases g <;> trivial
 have ll:=hl.fs
 have hE:reE l k nm fr cl f a b c bs=reE l k nm fr cl f a b c bs:=rfl
 conv at hE=>rhs; unfold reE
 refine ⟨hl,csx (fun q=>re_err (hE.trans (if_pos q)) q) (fun q=>?_)⟩
 rw [if_neg q] at hE
 have h0:=Decidable.not_not.1 q
 refine ⟨trivial,csplit (fun q2=>re_err (hE.trans (if_pos ((Bool.not_eq_true' _).mp q2))) (by decide)) (fun q2=>?_)⟩
 have q2:exK k=true:=(Bool.not_eq_false' _).mp q2
 rw [if_neg (by rw [q2]; decide)] at hE
 refine ⟨trivial,csplit (fun q3=>re_err (hE.trans (if_pos (by simpa using q3))) (by decide)) (fun q3=>?_)⟩
 rw [if_neg (by simpa using q3)] at hE
 refine ⟨hb,csplit (fun q4=>re_err (hE.trans (if_pos (by simpa using q4))) (by decide)) (fun q4=>?_)⟩
 rw [if_neg (by simpa using q4)] at hE
 refine ⟨hl,csplit (fun q5=>csx (fun q6=>re_err (hE.trans (if_pos ⟨q5,q6⟩)) (by decide)) (fun q6=>?_)) (fun q5=>?_),?_⟩
 ·rw [if_neg (fun z=>q6 z.2)] at hE
  exact ⟨(),⟨h0,hE⟩,by (repeat' (first | exact trivial | exact rfl | assumption | apply And.intro))⟩
 ·rw [if_neg (fun z=>by rw [q5] at z; cases z.1)] at hE
  exact ⟨(),⟨h0,hE⟩,by (repeat' (first | exact trivial | exact rfl | assumption | apply And.intro))⟩
 clear hE q q2 q3 q4
 rintro _ ⟨h0,hE⟩
 have hps:=fiP_p hl nm
 have lp:=hps.fs
 refine ⟨⟨(0,false,[]),⟨by simp,by simp,by simp,by simp [puL]⟩,by (repeat' (first | exact trivial | exact rfl | assumption | apply And.intro))⟩,?_⟩
 rintro ⟨i,d,out⟩ hw
 have i0:=hw.flo
 have ol:=hw.fl
 have i1:=hw.fhi
 simp only at i0 ol i1
 dsimp only
 have fin:∀ o:LLR,o=reP l nm fr (pdA fr cl f a b c bs)→cond (decide (o.length=o.length)) (StsP l∧cond (decide (60 < ((wiL l k nm o).length:Int))) ((reO l k nm fr cl f a b c bs=[]∧True)∧2=reE l k nm fr cl f a b c bs∧True) (cond (decide (o.length=o.length)) (cond (decide (8 < (o.length:Int))) ((reO l k nm fr cl f a b c bs=[]∧True)∧2=reE l k nm fr cl f a b c bs∧True) (((True∧wiL l k nm o=reO l k nm fr cl f a b c bs)∧True)∧0=reE l k nm fr cl f a b c bs∧True)) False)) False:=by
  intro o ho
  subst ho
  refine cd1 rfl ⟨hl,csx (fun z=>re_err (hE.trans (if_pos z)) (by decide)) (fun z=>cd1 rfl (csx (fun z2=>re_err (hE.trans ((if_neg z).trans (if_pos z2))) (by decide)) (fun z2=>?_)))⟩
  have h:=hE.trans ((if_neg z).trans (if_neg z2))
  exact ⟨⟨⟨trivial,by unfold reO; rw [if_pos h]; rfl⟩,trivial⟩,h.symm,trivial⟩
 refine csx (fun hi=>cd1 (by omega) ?_) (fun hi=>?_)
 ·obtain ⟨fr2,cl2,f2,a2,b2,c2,bs2,hr,hb2,hbl2⟩:=hps.fr i.toNat (by omega)
  have nx:=@wf_next _ _ _ _ _ _ _ _ hw hi _ hr
  refine ⟨fr2,cl2,f2,a2,b2,c2,bs2,by rw [hr]; rfl,csplit (fun hd=>?_) (fun hd=>?_)⟩
  ·have hd:d=false:=by simpa using hd
   subst hd
   refine csx (fun q=>?_) (fun q=>?_)
   ·have q':geP fr (pdA fr2 cl2 f2 a2 b2 c2 bs2)=true:=decide_eq_true q
    refine cd1 ⟨rfl,by simp; omega,by simp; omega⟩ (csx (fun q2=>?_) (fun q2=>?_))
    ·have q2':neP fr (pdA fr2 cl2 f2 a2 b2 c2 bs2)=true:=decide_eq_true q2
     exact cd1 ⟨rfl,by simp; omega,by simp; omega⟩ (cdI (by omega) ⟨(i+1,true,out++[pdA fr cl f a b c bs]++[pdA fr2 cl2 f2 a2 b2 c2 bs2]),nx (by rw [q']; rfl) (by simp [q',q2']),by simp only [sf16]; omega,by (repeat' (first | exact trivial | exact rfl | assumption | apply And.intro))⟩)
    ·have q2':neP fr (pdA fr2 cl2 f2 a2 b2 c2 bs2)=false:=decide_eq_false q2
     exact cdI (by omega) ⟨(i+1,true,out++[pdA fr cl f a b c bs]),nx (by rw [q']; rfl) (by simp [q',q2']),by simp only [sf16]; omega,by (repeat' (first | exact trivial | exact rfl | assumption | apply And.intro))⟩
   ·have q':geP fr (pdA fr2 cl2 f2 a2 b2 c2 bs2)=false:=decide_eq_false q
    refine csx (fun q2=>?_) (fun q2=>?_)
    ·have q2':neP fr (pdA fr2 cl2 f2 a2 b2 c2 bs2)=true:=decide_eq_true q2
     exact cd1 ⟨rfl,by simp; omega,by simp; omega⟩ (cdI (by omega) ⟨(i+1,false,out++[pdA fr2 cl2 f2 a2 b2 c2 bs2]),nx (by rw [q']; rfl) (by simp [q',q2']),by simp only [sf16]; omega,by (repeat' (first | exact trivial | exact rfl | assumption | apply And.intro))⟩)
    ·have q2':neP fr (pdA fr2 cl2 f2 a2 b2 c2 bs2)=false:=decide_eq_false q2
     exact cdI (by omega) ⟨(i+1,false,out),nx (by rw [q']; rfl) (by simp [q',q2']),by simp only [sf16]; omega,by (repeat' (first | exact trivial | exact rfl | assumption | apply And.intro))⟩
  ·have hd:d=true:=by simpa using hd
   subst hd
   refine csx (fun q2=>?_) (fun q2=>?_)
   ·have q2':neP fr (pdA fr2 cl2 f2 a2 b2 c2 bs2)=true:=decide_eq_true q2
    exact cd1 ⟨rfl,by simp; omega,by simp; omega⟩ (cdI (by omega) ⟨(i+1,true,out++[pdA fr2 cl2 f2 a2 b2 c2 bs2]),nx (by rfl) (by simp [q2']),by simp only [sf16]; omega,by (repeat' (first | exact trivial | exact rfl | assumption | apply And.intro))⟩)
   ·have q2':neP fr (pdA fr2 cl2 f2 a2 b2 c2 bs2)=false:=decide_eq_false q2
    exact cdI (by omega) ⟨(i+1,true,out),nx (by rfl) (by simp [q2']),by simp only [sf16]; omega,by (repeat' (first | exact trivial | exact rfl | assumption | apply And.intro))⟩
 ·have he:=wf_end hw hi
  refine csplit (fun hd=>?_) (fun hd=>?_)
  ·have hd:d=false:=by simpa using hd
   subst hd
   exact cd1 ⟨rfl,by simp; omega,by simp; omega⟩ (fin _ he)
  ·have hd:d=true:=by simpa using hd
   subst hd
   exact fin _ he
def rsetF_S (pdV:Int→Int→Bool→Int→Int→Int→Int→LLR→Bool) (nmOk:ByteArray→Bool) (rgV:LLR→Int) (reE:LLR→Int→ByteArray→Int→Bool→Int→Int→Int→Int→LLR→Int) (reO:LLR→Int→ByteArray→Int→Bool→Int→Int→Int→Int→LLR→LLR) (wiL:LLR→Int→ByteArray→LLR→LLR) (fiK:LLR→ByteArray→Int) (fiN:LLR→ByteArray→ByteArray) (fiP:LLR→ByteArray→LLR) (fiB:LLR→ByteArray→Bool) (nrm:Int→Int→Int→Int→Int × Int × Int × Int) (vld:Int→Int→Int→Int→Bool) (isN:Int→Int→Int→Int→Bool) (inB:Int→Bool) (bsOk:LLR→Bool):Prop:=∀ (gl:Glob) (l bs:List (List AV)) (g cl:Bool) (k fr f a b c:Int) (nm:ByteArray),StsP l∧RdsP bs→fnK Tryz.prog { glob:=gl,spec:=lk [(32,(rvalidF_s pdV nmOk rgV)),(51,rkind_s),(75,(rname_s nmOk)),(76,(rperiod_s nrm vld isN pdV inB bsOk)),(23,(rfindF_s fiK fiN fiP fiB)),(81,(rwithF_s wiL))],specH:=lk [],shape:=[60],slz:=[(60,[2])],nowf:=true } { nt:=111,drop:=drp [(1,786432),(2,1048576),(3,12582912),(4,50331648),(5,134217728),(6,805306368),(7,2147483648),(8,30064771072),(9,68719476736),(10,8658654068736),(11,554153860399104),(12,1125899906842624),(13,15762598695796736),(15,18014398509481984),(17,1729382256910270464),(18,587989967349491957760),(19,74377272105196912115712),(21,1133367955888714851287040),(22,152324653271443276012978176),(23,154742504910672534362390528),(24,309485009821345068724781056),(25,77990222474978957318644826112),(26,554597137599850363154807652352),(27,323884728358312612082407668973568),(28,649037107316853453566312041152512),(29,1298074214633706907132624082305024)],frz:=fun id=>cond (Nat.beq id 26) [1001502] [],emp:=fun id=>cond (Nat.beq id 15) [(1001302,1502,49,7)] [] } (sfJ l g k nm fr cl f a b c bs) 6 Tryz.f34 [.agg [.sl 3 g l],.int .i64 k,.str nm,.agg [.int .i64 fr,.bool cl,.int .i64 f,.int .i64 a,.int .i64 b,.int .i64 c,.sl 2 false bs]] (.tup [.agg [.sl 3 false (reO l k nm fr cl f a b c bs)],.int .i64 (reE l k nm fr cl f a b c bs)])
theorem rsetF_e (pdV:Int→Int→Bool→Int→Int→Int→Int→LLR→Bool) (nmOk:ByteArray→Bool) (rgV:LLR→Int) (reE:LLR→Int→ByteArray→Int→Bool→Int→Int→Int→Int→LLR→Int) (reO:LLR→Int→ByteArray→Int→Bool→Int→Int→Int→Int→LLR→LLR) (wiL:LLR→Int→ByteArray→LLR→LLR) (fiK:LLR→ByteArray→Int) (fiN:LLR→ByteArray→ByteArray) (fiP:LLR→ByteArray→LLR) (fiB:LLR→ByteArray→Bool) (nrm:Int→Int→Int→Int→Int × Int × Int × Int) (vld:Int→Int→Int→Int→Bool) (isN:Int→Int→Int→Int→Bool) (inB:Int→Bool) (bsOk:LLR→Bool):rsetF_T pdV nmOk rgV reE reO wiL fiK fiN fiP fiB nrm vld isN inB bsOk=rsetF_S pdV nmOk rgV reE reO wiL fiK fiN fiP fiB nrm vld isN inB bsOk:=by kernel_rfl
theorem rsetF_v:rsetF_S pdV nmOk rgV reE reO wiL fiK fiN fiP fiB nrm vld isN inB bsOk:=Eq.mp (rsetF_e ..) (rsetF_P)
theorem rsetF_ok (gl:Glob):SOK Tryz.prog gl 34 (rsetF_s pdV nmOk rgV reE reO wiL fiK fiN fiP fiB):=by
 refine ⟨fok Tryz.func34 (by kernel_rfl) (by kernel_rfl),?_⟩
 intro xs pre r h hp
 unfold rsetF_s at h
 split at h
 ·simp only [Option.some.injEq,Prod.mk.injEq] at h
  obtain ⟨h1,h2⟩:=h
  subst h1 h2
  exact fnK_sound tyNil (by exact specOK rfl rfl ⟨(rvalidF_ok gl),(rkind_ok gl),(rname_ok gl),(rperiod_ok gl),(rfindF_ok gl),(rwithF_ok gl),trivial⟩ trivial) (by kernel_rfl) Tryz.func34 rfl (rsetF_v gl _ _ _ _ _ _ _ _ _ _ _ hp)
 ·cases h
end Go.Proofs.YtldiagnbagpliaaGreatDoor
namespace Go.Proofs.YtldiagnbagpliaaGreatDoor
open Go
set_option linter.unusedVariables false
set_option linter.unusedSimpArgs false
def SrtQ (q:List AV→Int) (l:LLR):Prop:=l.Pairwise fun a b=>0≤q a→0 < q b
def genQ (q:List AV→Int) (s:List AV) (d:Bool) (l:LLR):LLR:=genL (fun x=>decide (0≤q x)) (fun x=>decide (q x≠0)) s d l
def insQ (q:List AV→Int) (l:LLR) (s:List AV):LLR:=l.take (fpI q l)++([s]++l.drop (fpI q l+cond (fpB q l) 1 0))
theorem fpI_lt {q:List AV→Int} {x:List AV} {l:LLR} (h:q x < 0):fpI q (x::l)=fpI q l+1:=by
 unfold fpI; rw [List.findIdx_cons,decide_eq_false (by omega)]; rfl
theorem fpI_ge {q:List AV→Int} {x:List AV} {l:LLR} (h:¬ q x < 0):fpI q (x::l)=0:=by
 unfold fpI; rw [List.findIdx_cons,decide_eq_true (by omega)]; rfl
theorem fpB_lt {q:List AV→Int} {x:List AV} {l:LLR} (h:q x < 0):fpB q (x::l)=fpB q l:=by
 unfold fpB
 rw [fpI_lt h,List.length_cons]
 congr 1
 rw [Bool.eq_iff_iff]; simp
theorem fpB_ge {q:List AV→Int} {x:List AV} {l:LLR} (h:¬ q x < 0):fpB q (x::l)=decide (q x=0):=by
 unfold fpB
 rw [fpI_ge h,List.length_cons]
 simp
theorem genQ_pos {q:List AV→Int} {s:List AV}:∀ {l:LLR},(∀ y ∈ l,0 < q y)→genQ q s true l=l
 | [],_=>rfl
 | x::l,h=>by
  have hx:=h x (by simp)
  have ih:=genQ_pos (q:=q) (s:=s) (l:=l) (fun y hy=>h y (by simp [hy]))
  unfold genQ at ih ⊢
  unfold genL
  rw [decide_eq_true (show 0≤q x by omega),decide_eq_true (show q x≠0 by omega)]
  simp only [Bool.not_true,Bool.false_and,Bool.true_or,if_true,Bool.false_eq_true,if_false,List.nil_append]
  rw [ih]; rfl
theorem genQ_ins {q:List AV→Int} {s:List AV}:∀ {l:LLR},SrtQ q l→genQ q s false l=insQ q l s
 | [],_=>rfl
 | x::l,h=>by
  obtain ⟨h1,h2⟩:=List.pairwise_cons.1 h
  by_cases hx:q x < 0
  ·have ih:=genQ_ins (s:=s) h2
   unfold insQ at ih ⊢
   rw [fpI_lt hx,fpB_lt hx,List.take_succ_cons,show fpI q l+1+cond (fpB q l) 1 0=fpI q l+cond (fpB q l) 1 0+1 by omega,List.drop_succ_cons,List.cons_append,← ih]
   unfold genQ
   rw [genL,decide_eq_false (show ¬ 0≤q x by omega),decide_eq_true (show q x≠0 by omega)]
   rfl
  ·have ht:=genQ_pos (q:=q) (s:=s) (l:=l) (fun y hy=>h1 y hy (by omega))
   unfold insQ
   rw [fpI_ge hx,fpB_ge hx]
   unfold genQ at ht ⊢
   rw [genL,decide_eq_true (show 0≤q x by omega)]
   by_cases hz:q x=0
   ·rw [decide_eq_false (show ¬ q x≠0 by omega),decide_eq_true hz]
    simp only [Bool.not_false,Bool.true_and,Bool.or_true,Bool.false_or,if_true,Bool.false_eq_true,if_false,List.nil_append]
    rw [ht]; rfl
   ·rw [decide_eq_true hz,decide_eq_false hz]
    simp only [Bool.not_false,Bool.true_and,Bool.or_true,Bool.false_or,if_true,Bool.false_eq_true,if_false,List.nil_append]
    rw [ht]; rfl
theorem fp_parts {q:List AV→Int}:∀ {l:LLR},SrtQ q l→(∀ x ∈ l.take (fpI q l),q x < 0)∧(∀ x ∈ l.drop (fpI q l+cond (fpB q l) 1 0),0 < q x)∧(fpB q l=true→fpI q l < l.length∧q (l.getD (fpI q l) [])=0)
 | [],_=>⟨by simp,by simp,fun h=>by simp [fpB] at h⟩
 | x::l,h=>by
  obtain ⟨h1,h2⟩:=List.pairwise_cons.1 h
  refine ⟨?_,?_,fun hb=>?_⟩
  ·by_cases hx:q x < 0
   ·rw [fpI_lt hx,List.take_succ_cons]
    intro y hy
    rcases List.mem_cons.1 hy with rfl | hy
    ·exact hx
    ·exact (fp_parts h2).1 y hy
   ·rw [fpI_ge hx]; simp
  ·by_cases hx:q x < 0
   ·rw [fpI_lt hx,fpB_lt hx,show fpI q l+1+cond (fpB q l) 1 0=fpI q l+cond (fpB q l) 1 0+1 by omega,List.drop_succ_cons]
    exact (fp_parts h2).2.1
   ·rw [fpI_ge hx,fpB_ge hx]
    intro y hy
    by_cases hz:q x=0
    ·rw [decide_eq_true hz] at hy
     exact h1 y hy (by omega)
    ·rw [decide_eq_false hz] at hy
     rcases List.mem_cons.1 hy with rfl | hy
     ·omega
     ·exact h1 y hy (by omega)
  ·unfold fpB at hb
   rw [Bool.and_eq_true] at hb
   exact ⟨of_decide_eq_true hb.1,of_decide_eq_true hb.2⟩
theorem insQ_len (q:List AV→Int) (l:LLR) (s:List AV):(insQ q l s).length=l.length+1 - cond (fpB q l) 1 0:=by
 have h:=fp_le q l
 unfold insQ
 cases hb:fpB q l with
 | false=>simp; omega
 | true =>
  have:fpI q l < l.length:=by unfold fpB at hb; rw [Bool.and_eq_true] at hb; exact of_decide_eq_true hb.1
  simp; omega
theorem set_ins {q:List AV→Int} {l:LLR} {s:List AV} (hb:fpB q l=true):l.set (fpI q l) s=insQ q l s:=by
 have:fpI q l < l.length:=by unfold fpB at hb; rw [Bool.and_eq_true] at hb; exact of_decide_eq_true hb.1
 unfold insQ
 rw [hb,List.set_eq_take_append_cons_drop,if_pos this]
 rfl
abbrev SnP (l:LLR):Prop:=l.Pairwise fun a b=>cmpS (sNm a) (sNm b) < 0
theorem sn_pw {l:LLR}:snO l=true↔SnP l:=by
 constructor
 ·intro h
  rw [SnP,List.pairwise_iff_getElem]
  intro i j hi hj hij
  have st:∀ (d i:Nat),i+d+1 < l.length→cmpS (sNm (l.getD i [])) (sNm (l.getD (i+d+1) [])) < 0:=by
   intro d
   induction d with
   | zero =>
    intro i hi
    rcases of_decide_eq_true h (i+1) hi with q | q
    ·omega
    ·exact cmpS_lt.2 (by simpa using q)
   | succ d ih =>
    intro i hi
    have h1:=ih i (by omega)
    rcases of_decide_eq_true h (i+d+1+1) (by omega) with q | q
    ·omega
    ·simp only [Nat.add_sub_cancel] at q
     rw [show i+(d+1)+1=i+d+1+1 by omega]
     exact cmpS_tr h1 (cmpS_lt.2 q)
  have:=st (j - i - 1) i (by omega)
  rw [show i+(j - i - 1)+1=j by omega,gD_lt hi,gD_lt hj] at this
  exact this
 ·intro h
  rw [SnP,List.pairwise_iff_getElem] at h
  refine decide_eq_true fun j hj=>?_
  by_cases hz:j=0
  ·exact .inl hz
  ·refine .inr ?_
   rw [gD_lt hj,gD_lt (show j - 1 < l.length by omega)]
   exact cmpS_lt.1 (h (j - 1) j (by omega) hj (by omega))
theorem cmpS_an (s t:ByteArray):cmpS t s=- cmpS s t:=by
 rw [← lex_nm0,← lex_nm0]; exact lexI_an _ _
theorem cmpS_z {s t:ByteArray}:cmpS s t=0↔s=t:=by
 constructor
 ·intro h
  rw [← lex_nm0] at h
  have h:=lexI_zero h
  exact str_inj (nmK_inj (x:=[]) (y:=[]) (s:=s.toList) (t:=t.toList) (by rw [h])).1
 ·rintro rfl
  rw [← lex_nm0]; exact lexI_rfl _
theorem sn_srt {l:LLR} (h:SnP l) (nm:ByteArray):SrtQ (qS nm) l:=by
 refine List.Pairwise.imp (fun {a b} hab=>?_) h
 intro ha
 have ha:0≤cmpS (sNm a) nm:=ha
 show 0 < cmpS (sNm b) nm
 rcases Int.lt_or_le 0 (cmpS (sNm b) nm) with z | z
 ·exact z
 ·exfalso
  have hlt:cmpS (sNm a) nm < 0:=by
   by_cases e:cmpS (sNm b) nm=0
   ·rw [cmpS_z] at e; rw [← e]; exact hab
   ·exact cmpS_tr hab (by omega)
  omega
theorem asc_srt {ps:LLR} (h:AscP ps) (t:Int):SrtQ (qP t) ps:=by
 refine List.Pairwise.imp (fun {a b} hab=>?_) h
 intro ha
 have ha:0≤cmpI (rE a) t:=ha
 show 0 < cmpI (rE b) t
 have hab:rE a < rE b:=hab
 have h1:¬ rE a < t:=fun z=>by have:=cmpI_lt.2 z; omega
 unfold cmpI
 rw [if_neg (by omega),if_pos (by omega)]
 decide
end Go.Proofs.YtldiagnbagpliaaGreatDoor
namespace Go.Proofs.YtldiagnbagpliaaGreatDoor
open Go
set_option linter.unusedVariables false
set_option linter.unusedSimpArgs false
theorem geS_q (nm:ByteArray):geS nm=fun x=>decide (0≤qS nm x):=by
 funext x
 unfold geS
 rw [Bool.eq_iff_iff,Bool.or_eq_true,decide_eq_true_eq,decide_eq_true_eq,← cmpS_lt]
 show _↔0≤cmpS (sNm x) nm
 have h:=cmpS_an (sNm x) nm
 constructor
 ·rintro (z | z)
  ·omega
  ·have:=cmpS_z.2 z; omega
 ·intro z
  by_cases e:cmpS (sNm x) nm=0
  ·exact .inr (cmpS_z.1 e).symm
  ·exact .inl (by omega)
theorem neS_q (nm:ByteArray):neS nm=fun x=>decide (qS nm x≠0):=by
 funext x
 unfold neS
 rw [Bool.eq_iff_iff]
 simp only [Bool.not_eq_true',decide_eq_false_iff_not,decide_eq_true_eq]
 show _↔cmpS (sNm x) nm≠0
 rw [Ne,cmpS_z]
theorem geP_q (fr:Int):geP fr=fun x=>decide (0≤qP fr x):=by
 funext x
 unfold geP
 rw [decide_eq_decide]
 show _↔0≤cmpI (rE x) fr
 have:=@cmpI_lt (rE x) fr
 constructor
 ·intro z; exact Int.not_lt.1 (fun h=>by have:=this.1 h; omega)
 ·intro z; exact Int.not_lt.1 (fun h=>by have:=this.2 h; omega)
theorem neP_q (fr:Int):neP fr=fun x=>decide (qP fr x≠0):=by
 funext x
 unfold neP
 rw [decide_eq_decide]
 show _↔cmpI (rE x) fr≠0
 rw [Ne,cmpI_z]
theorem wiL_ins {l:LLR} (h:SnP l) {k:Int} {nm:ByteArray} {ps:LLR} (hp:ps≠[]):wiL l k nm ps=insQ (qS nm) l (stA k nm ps):=by
 unfold wiL
 have:¬ (ps.length:Int)=0:=fun e=>hp (List.eq_nil_of_length_eq_zero (by omega))
 rw [decide_eq_false this,geS_q,neS_q]
 exact genQ_ins (sn_srt h nm)
theorem puL_ins {ps:LLR} (h:AscP ps) (fr:Int) (p:List AV):puL ps fr p=insQ (qP fr) ps p:=by
 unfold puL
 rw [geP_q,neP_q]
 exact genQ_ins (asc_srt h fr)
theorem setEl_all {l:LLR} {i:Nat} {p:List AV} (h:(l.getD i []).length=p.length):setEl l i 0 p=l.set i p:=by
 unfold setEl spl
 rw [List.take_zero,List.nil_append,Nat.zero_add,List.drop_of_length_le (by omega),List.append_nil]
theorem putP_ins {ps:LLR} (hp:PdsP ps) (fr:Int) (cl:Bool) (f a b c:Int) (bs:LLR):putP ps fr (pdA fr cl f a b c bs)=insQ (qP fr) ps (pdA fr cl f a b c bs):=by
 unfold putP
 split
 ·rename_i h
  have h':fpB (qP fr) ps=true:=h
  rw [← set_ins h']
  refine setEl_all ?_
  have hlt:pdN ps fr < ps.length:=by
   unfold fpB at h'; rw [Bool.and_eq_true] at h'; exact of_decide_eq_true h'.1
  obtain ⟨fr2,cl2,f2,a2,b2,c2,bs2,hr,_⟩:=hp.fr _ hlt
  rw [hr]; rfl
 ·rename_i h
  have h':fpB (qP fr) ps=false:=by
   have h:¬ fpB (qP fr) ps=true:=h
   simpa using h
  unfold insQ
  rw [h',← List.append_assoc]
  rfl
theorem insQ_ne (q:List AV→Int) (l:LLR) (s:List AV):insQ q l s≠[]:=by
 unfold insQ; simp
theorem seD_at {l:LLR} {nm:ByteArray} (hl:StsP l) (h:stH l nm=true):∃ (k:Int),l.getD (stN l nm) []=stA k nm (seD l nm)∧stN l nm < l.length:=by
 have hlt:=stH_lt h
 obtain ⟨k,n,ps,hr,_⟩:=hl.fr _ hlt
 have h2:qS nm (l.getD (stN l nm) [])=0:=by
  have:=h
  unfold stH fpB at this
  rw [Bool.and_eq_true] at this
  exact of_decide_eq_true this.2
 rw [hr] at h2
 have hn:n=nm:=cmpS_z.1 h2
 subst hn
 refine ⟨k,?_,hlt⟩
 rw [hr]
 unfold seD hoP
 rw [hr]; rfl
theorem setL_ins {l:LLR} (hl:StsP l) {k:Int} {nm:ByteArray} {fr:Int} {p:List AV} (hk:stH l nm=true→rE (l.getD (stN l nm) [])=k) :
  setL l k nm fr p=insQ (qS nm) l (stA k nm (if stH l nm=true then putP (seD l nm) fr p else [p])):=by
 unfold setL
 split
 ·rename_i h
  obtain ⟨k2,hr,hlt⟩:=seD_at hl h
  have h':fpB (qS nm) l=true:=h
  have hk2:k2=k:=by rw [← hk h,hr]; rfl
  subst hk2
  rw [← set_ins h']
  unfold setEl
  rw [hr]
  rfl
 ·rename_i h
  have h':fpB (qS nm) l=false:=by
   have h:¬ fpB (qS nm) l=true:=h
   simpa using h
  unfold insQ
  rw [h',List.append_assoc]
  rfl
theorem fi_st {l:LLR} (h:SnP l) (nm:ByteArray):fiB l nm=stH l nm∧(stH l nm=true→fiI l nm=(stN l nm:Nat)):=by
 obtain ⟨p1,p2,p3⟩:=fp_parts (sn_srt h nm)
 have hc:∀ x:List AV,cS nm x=decide (qS nm x=0):=fun x=>by
  unfold cS
  rw [decide_eq_decide]
  show _↔cmpS (sNm x) nm=0
  rw [cmpS_z]
 cases hs:stH l nm with
 | true =>
  obtain ⟨h1,h2⟩:=p3 hs
  have e:fiI l nm=(stN l nm:Nat):=(idx_some (p:=cS nm) (i:=stN l nm) h1 (by rw [hc]; exact decide_eq_true h2) (fun j hj=>by
   rw [hc]
   have:=p1 (l.getD j []) (by
    have hj':j < fpI (qS nm) l:=hj
    have hjl:j < l.length:=Nat.lt_of_lt_of_le hj' (fp_le _ _)
    rw [gD_lt hjl]
    exact List.mem_iff_getElem.2 ⟨j,by rw [List.length_take]; omega,by rw [List.getElem_take]⟩)
   exact decide_eq_false (by omega))).symm
  exact ⟨by unfold fiB; rw [e]; exact decide_eq_true (by omega),fun _=>e⟩
 | false =>
  have hb:fpB (qS nm) l=false:=hs
  rw [hb] at p2
  have e:fiI l nm=-1:=(idx_none fun j hj=>by
   rw [hc]
   rcases Nat.lt_or_ge j (fpI (qS nm) l) with z | z
   ·have:=p1 (l.getD j []) (by rw [gD_lt hj]; exact List.mem_iff_getElem.2 ⟨j,by rw [List.length_take]; omega,by rw [List.getElem_take]⟩)
    exact decide_eq_false (by omega)
   ·have:=p2 (l.getD j []) (by
     rw [gD_lt hj]
     refine List.mem_iff_getElem.2 ⟨j - fpI (qS nm) l,by rw [List.length_drop]; simp only [cond_false]; omega,?_⟩
     rw [List.getElem_drop]
     congr 1
     simp only [cond_false]; omega)
    exact decide_eq_false (by omega)).symm
  exact ⟨by unfold fiB; rw [e]; rfl,fun h=>by cases h⟩
theorem fi_all {l:LLR} (h:SnP l) (nm:ByteArray):(fiP l nm=if stH l nm=true then seD l nm else [])∧(stH l nm=true→fiK l nm=rE (l.getD (stN l nm) [])):=by
 obtain ⟨h1,h2⟩:=fi_st h nm
 constructor
 ·unfold fiP
  rw [h1]
  split
  ·rename_i hs; rw [h2 hs,Int.toNat_natCast]; rfl
  ·rfl
 ·intro hs
  unfold fiK
  rw [h1,if_pos hs,h2 hs,Int.toNat_natCast]
theorem re_eq {l:LLR} (hl:StsP l) (k:Int) (nm:ByteArray) (fr:Int) (cl:Bool) (f a b c:Int) (bs:LLR) :
  reE l k nm fr cl f a b c bs=setE l k nm fr cl f a b c bs∧reO l k nm fr cl f a b c bs=setO l k nm fr cl f a b c bs:=by
 by_cases h0:rgV l=0
 ·have hz:=rg_zero hl h0
  obtain ⟨l60,p8⟩:=rg_len h0
  have hs:=sn_pw.1 hz.fs
  obtain ⟨f1,f2⟩:=fi_all hs nm
  obtain ⟨g1,g2⟩:=fi_st hs nm
  have hD:stH l nm=true→PdsP (seD l nm)∧AscP (seD l nm)∧(seD l nm).length≤8:=fun h=>by
   have hlt:=stH_lt h
   obtain ⟨k2,n2,ps2,hr,hp2⟩:=hl.fr _ hlt
   have e:seD l nm=ps2:=by unfold seD hoP; rw [hr]; rfl
   have ha:=hz.fa _ hlt
   rw [hr] at ha
   exact ⟨e ▸ hp2,e ▸ asc_pw.1 ha,p8 _ hlt⟩
  have eR:reP l nm fr (pdA fr cl f a b c bs)=if stH l nm=true then putP (seD l nm) fr (pdA fr cl f a b c bs) else [pdA fr cl f a b c bs]:=by
   unfold reP
   rw [f1]
   split
   ·rename_i h
    rw [puL_ins (hD h).2.1,putP_ins (hD h).1]
   ·rfl
  have eN:reP l nm fr (pdA fr cl f a b c bs)≠[]:=by
   rw [eR]
   split
   ·rename_i h
    rw [putP_ins (hD h).1]; exact insQ_ne _ _ _
   ·simp
  have eL:reL l k nm fr (pdA fr cl f a b c bs)=insQ (qS nm) l (stA k nm (reP l nm fr (pdA fr cl f a b c bs))):=wiL_ins hs eN
  have eE:reE l k nm fr cl f a b c bs=setE l k nm fr cl f a b c bs:=by
   unfold reE setE
   split
   ·rfl
   ·split
    ·rfl
    ·split
     ·rfl
     ·split
      ·rfl
      ·rw [eL,insQ_len,eR,g1]
       cases h:stH l nm with
       | true =>
        have h':fpB (qS nm) l=true:=h
        rw [h',f2 h]
        obtain ⟨d1,d2,d3⟩:=hD h
        simp only [if_true,true_and,cond_true]
        by_cases hk:rE (l.getD (stN l nm) [])=k
        ·have n7:¬ (rE (l.getD (stN l nm) [])≠k):=fun z=>z hk
         have n60:¬ 60 < ((l.length+1 - 1:Nat):Int):=by omega
         rw [if_neg n7,if_neg n7,if_neg n60,putP_ins d1,insQ_len]
         cases hh:pdH (seD l nm) fr with
         | true =>
          have hh':fpB (qP fr) (seD l nm)=true:=hh
          have n8:¬ 8 < (((seD l nm).length+1 - 1:Nat):Int):=by omega
          rw [hh']
          simp only [if_true,cond_true]
          rw [if_neg n8]
         | false =>
          have hh':fpB (qP fr) (seD l nm)=false:=hh
          rw [hh']
          simp only [Bool.false_eq_true,if_false,cond_false,Nat.sub_zero]
          by_cases z:8≤((seD l nm).length:Int)
          ·rw [if_pos z,if_pos (show 8 < (((seD l nm).length+1:Nat):Int) by omega)]
          ·rw [if_neg z,if_neg (show ¬ 8 < (((seD l nm).length+1:Nat):Int) by omega)]
        ·have y7:rE (l.getD (stN l nm) [])≠k:=hk
         rw [if_pos y7,if_pos y7]
       | false =>
        have h':fpB (qS nm) l=false:=h
        rw [h']
        simp only [Bool.false_eq_true,false_and,if_false,cond_false,Nat.sub_zero]
        by_cases z:60≤(l.length:Int)
        ·rw [if_pos z,if_pos (show 60 < ((l.length+1:Nat):Int) by omega)]
        ·rw [if_neg z,if_neg (show ¬ 60 < ((l.length+1:Nat):Int) by omega)]
         rfl
  refine ⟨eE,?_⟩
  unfold reO setO
  rw [eE]
  split
  ·rename_i he
   rw [eL,eR]
   refine (setL_ins hl fun h=>?_).symm
   unfold setE at he
   rw [if_neg (fun z=>z h0)] at he
   repeat' split at he
   all_goals first
    | (exact absurd he (by decide))
    | (rename_i q _ _ _ _ ; exact Decidable.not_not.1 (by assumption))
    | skip
   all_goals (first | exact Decidable.not_not.1 (by assumption) | (exfalso; rename_i q; exact q h) | skip)
  ·rfl
 ·have e1:reE l k nm fr cl f a b c bs=rgV l:=if_pos h0
  have e2:setE l k nm fr cl f a b c bs=rgV l:=if_pos h0
  refine ⟨e1.trans e2.symm,?_⟩
  unfold reO setO
  rw [e1,e2,if_neg h0,if_neg h0]
end Go.Proofs.YtldiagnbagpliaaGreatDoor
namespace Go.Proofs.YtldiagnbagpliaaGreatDoor
open Go
set_option linter.unusedVariables false
set_option linter.unusedSimpArgs false
structure GoodR (r:List AV):Prop where
 g1:p1R r=false
 g2:p2R r=false
 g3:p3R r=false
 g4:p4R r=false
 g5:p5R r=false
theorem rgV_iff {l:LLR}:rgV l=0↔l.length≤60∧(∀ r ∈ l,GoodR r)∧SnP l:=by
 have an:∀ (p:List AV→Bool),l.any p=false↔∀ r ∈ l,p r=false:=fun p=>by rw [List.any_eq_false]; simp
 constructor
 ·intro h
  have h60:=(rg_len h).1
  unfold rgV at h
  by_cases q1:60 < (l.length:Int)∨l.any p1R=true
  ·rw [if_pos q1] at h; cases h
  rw [if_neg q1] at h
  by_cases q2:l.any p2R=true
  ·rw [if_pos q2] at h; cases h
  rw [if_neg q2] at h
  by_cases q3:l.any p3R=true
  ·rw [if_pos q3] at h; cases h
  rw [if_neg q3] at h
  by_cases q4:l.any p4R=true
  ·rw [if_pos q4] at h; cases h
  rw [if_neg q4] at h
  by_cases q5:l.any p5R=true
  ·rw [if_pos q5] at h; cases h
  rw [if_neg q5] at h
  by_cases q6:snO l=true
  ·have q1':¬ l.any p1R=true:=fun z=>q1 (.inr z)
   exact ⟨h60,fun r hr=>⟨(an p1R).1 (by simpa using q1') r hr,(an p2R).1 (by simpa using q2) r hr,(an p3R).1 (by simpa using q3) r hr,(an p4R).1 (by simpa using q4) r hr,(an p5R).1 (by simpa using q5) r hr⟩,sn_pw.1 q6⟩
  ·rw [if_neg q6] at h; cases h
 ·rintro ⟨h60,hg,hs⟩
  have a1:=(an p1R).2 fun r hr=>(hg r hr).g1
  have a2:=(an p2R).2 fun r hr=>(hg r hr).g2
  have a3:=(an p3R).2 fun r hr=>(hg r hr).g3
  have a4:=(an p4R).2 fun r hr=>(hg r hr).g4
  have a5:=(an p5R).2 fun r hr=>(hg r hr).g5
  unfold rgV
  rw [a1,a2,a3,a4,a5,sn_pw.2 hs,if_neg (by simp; omega)]
  rfl
theorem insQ_mem {q:List AV→Int} {l:LLR} {s r:List AV} (h:r ∈ insQ q l s):r=s∨r ∈ l:=by
 unfold insQ at h
 rcases List.mem_append.1 h with h | h
 ·exact .inr (List.mem_of_mem_take h)
 ·rcases List.mem_append.1 h with h | h
  ·exact .inl (List.mem_singleton.1 h)
  ·exact .inr (List.mem_of_mem_drop h)
theorem ins_pw {R:List AV→List AV→Prop} {q:List AV→Int} {l:LLR} {s:List AV} (hR:l.Pairwise R) (hs:SrtQ q l) (h1:∀ x,q x < 0→R x s) (h2:∀ x,0 < q x→R s x) (tr:∀ x y,q x < 0→0 < q y→R x y):(insQ q l s).Pairwise R:=by
 obtain ⟨p1,p2,_⟩:=fp_parts hs
 unfold insQ
 rw [List.pairwise_append,List.pairwise_append]
 refine ⟨hR.sublist (List.take_sublist _ _),⟨List.pairwise_singleton _ _,hR.sublist (List.drop_sublist _ _),fun a ha b hb=>?_⟩,fun a ha b hb=>?_⟩
 ·rw [List.mem_singleton.1 ha]; exact h2 b (p2 b hb)
 ·rcases List.mem_append.1 hb with hb | hb
  ·rw [List.mem_singleton.1 hb]; exact h1 a (p1 a ha)
  ·exact tr a b (p1 a ha) (p2 b hb)
theorem ins_sn {l:LLR} (h:SnP l) {nm:ByteArray} {s:List AV} (hs:sNm s=nm):SnP (insQ (qS nm) l s):=by
 refine ins_pw h (sn_srt h nm) (fun x hx=>?_) (fun x hx=>?_) (fun x y hx hy=>?_)
 ·show cmpS (sNm x) (sNm s) < 0
  rw [hs]; exact hx
 ·show cmpS (sNm s) (sNm x) < 0
  rw [hs,cmpS_an]
  have:0 < cmpS (sNm x) nm:=hx
  omega
 ·have h2:0 < cmpS (sNm y) nm:=hy
  exact cmpS_tr (show cmpS (sNm x) nm < 0 from hx) (by rw [cmpS_an]; omega)
theorem qP_lt {t:Int} {x:List AV}:qP t x < 0↔rE x < t:=cmpI_lt
theorem qP_gt {t:Int} {x:List AV}:0 < qP t x↔t < rE x:=by
 have h1:=@cmpI_lt (rE x) t
 have h2:=@cmpI_z (rE x) t
 show 0 < cmpI (rE x) t↔_
 constructor
 ·intro h
  rcases Int.lt_or_le t (rE x) with z | z
  ·exact z
  ·rcases Int.lt_or_le (rE x) t with w | w
   ·have:=h1.2 w; omega
   ·have:=h2.2 (by omega); omega
 ·intro h
  rcases Int.lt_or_le 0 (cmpI (rE x) t) with z | z
  ·exact z
  ·by_cases e:cmpI (rE x) t=0
   ·have:=h2.1 e; omega
   ·have:=h1.1 (by omega); omega
theorem qP_z {t:Int} {x:List AV}:qP t x=0↔rE x=t:=cmpI_z
theorem ins_asc {ps:LLR} (h:AscP ps) {fr:Int} {p:List AV} (hp:rE p=fr):AscP (insQ (qP fr) ps p):=by
 refine ins_pw h (asc_srt h fr) (fun x hx=>?_) (fun x hx=>?_) (fun x y hx hy=>?_)
 ·show rE x < rE p; rw [hp]; exact qP_lt.1 hx
 ·show rE p < rE x; rw [hp]; exact qP_gt.1 hx
 ·show rE x < rE y
  have:=qP_lt.1 hx
  have:=qP_gt.1 hy
  omega
theorem mem_gD {l:LLR} {r:List AV} (h:r ∈ l):∃ i,i < l.length∧l.getD i []=r:=by
 obtain ⟨i,hi,e⟩:=List.mem_iff_getElem.1 h
 exact ⟨i,hi,by rw [gD_lt hi]; exact e⟩
theorem gD_mem {l:LLR} {i:Nat} (h:i < l.length):l.getD i [] ∈ l:=by rw [gD_lt h]; exact List.getElem_mem h
def newP (l:LLR) (nm:ByteArray) (fr:Int) (p:List AV):LLR:=if stH l nm=true then putP (seD l nm) fr p else [p]
theorem pds_mem {ps:LLR} (h:∀ r ∈ ps,∃ (fr:Int) (cl:Bool) (f a b c:Int) (bs:LLR),r=pdA fr cl f a b c bs∧RdsP bs∧bs.length≤1000) (hl:ps.length≤1000000):PdsP ps :=
 ⟨fun i hi=>h _ (gD_mem hi),hl⟩
theorem sts_mem {l:LLR} (h:∀ r ∈ l,∃ (k:Int) (nm:ByteArray) (ps:LLR),r=stA k nm ps∧PdsP ps) (hl:l.length≤1000000):StsP l :=
 ⟨fun i hi=>h _ (gD_mem hi),hl⟩
theorem mem_pds {ps:LLR} (h:PdsP ps) {r:List AV} (hr:r ∈ ps):∃ (fr:Int) (cl:Bool) (f a b c:Int) (bs:LLR),r=pdA fr cl f a b c bs∧RdsP bs∧bs.length≤1000:=by
 obtain ⟨i,hi,e⟩:=mem_gD hr
 rw [← e]; exact h.fr i hi
theorem mem_sts {l:LLR} (h:StsP l) {r:List AV} (hr:r ∈ l):∃ (k:Int) (nm:ByteArray) (ps:LLR),r=stA k nm ps∧PdsP ps:=by
 obtain ⟨i,hi,e⟩:=mem_gD hr
 rw [← e]; exact h.fr i hi
structure SetOk (l:LLR) (k:Int) (nm:ByteArray) (fr:Int) (cl:Bool) (f a b c:Int) (bs:LLR):Prop where
 h0:rgV l=0
 hk:exK k=true
 hn:nmOk nm=true
 hp:pdV k fr cl f a b c bs=true
 hs:stH l nm=true→rE (l.getD (stN l nm) [])=k∧(pdH (seD l nm) fr=true∨(seD l nm).length < 8)
 hf:stH l nm=false→l.length < 60
theorem set_ok {l:LLR} {k:Int} {nm:ByteArray} {fr:Int} {cl:Bool} {f a b c:Int} {bs:LLR} (he:setE l k nm fr cl f a b c bs=0):SetOk l k nm fr cl f a b c bs:=by
 unfold setE at he
 by_cases q1:rgV l≠0
 ·rw [if_pos q1] at he; exact absurd he q1
 rw [if_neg q1] at he
 by_cases q2:exK k=false
 ·rw [if_pos q2] at he; cases he
 rw [if_neg q2] at he
 by_cases q3:nmOk nm=false
 ·rw [if_pos q3] at he; cases he
 rw [if_neg q3] at he
 by_cases q4:pdV k fr cl f a b c bs=false
 ·rw [if_pos q4] at he; cases he
 rw [if_neg q4] at he
 refine ⟨Decidable.not_not.1 q1,by simpa using q2,by simpa using q3,by simpa using q4,fun h=>?_,fun h=>?_⟩
 ·rw [if_pos h] at he
  by_cases q5:rE (l.getD (stN l nm) [])≠k
  ·rw [if_pos q5] at he; cases he
  rw [if_neg q5] at he
  refine ⟨Decidable.not_not.1 q5,?_⟩
  by_cases q6:pdH (seD l nm) fr=true
  ·exact .inl q6
  ·rw [if_neg q6] at he
   by_cases q7:8≤((seD l nm).length:Int)
   ·rw [if_pos q7] at he; cases he
   ·exact .inr (by omega)
 ·rw [if_neg (by rw [h]; decide)] at he
  by_cases q5:60≤(l.length:Int)
  ·rw [if_pos q5] at he; cases he
  ·omega
structure SetR (l q:LLR) (k:Int) (nm:ByteArray) (fr:Int) (p:List AV):Prop where
 fp:StsP q
 f0:rgV q=0
 fe:q=insQ (qS nm) l (stA k nm (newP l nm fr p))
 fn:newP l nm fr p=(if stH l nm=true then insQ (qP fr) (seD l nm) p else [p])
 fa:AscP (newP l nm fr p)
 fd:PdsP (newP l nm fr p)
theorem set_valid {l:LLR} (hl:StsP l) {k:Int} {nm:ByteArray} {fr:Int} {cl:Bool} {f a b c:Int} {bs:LLR} (hb:RdsP bs) (hbl:bs.length≤1000) (he:setE l k nm fr cl f a b c bs=0) :
  SetR l (setO l k nm fr cl f a b c bs) k nm fr (pdA fr cl f a b c bs):=by
 have ok:=set_ok he
 obtain ⟨l60,hg,hs⟩:=rgV_iff.1 ok.h0
 have hz:=rg_zero hl ok.h0
 have hD:stH l nm=true→PdsP (seD l nm)∧AscP (seD l nm)∧(seD l nm).length≤8∧stA k nm (seD l nm) ∈ l:=fun h=>by
  obtain ⟨k2,hr,hlt⟩:=seD_at hl h
  obtain ⟨k3,n3,ps3,hr3,hp3⟩:=hl.fr _ hlt
  have e:seD l nm=ps3:=by unfold seD hoP; rw [hr3]; rfl
  have ha:=hz.fa _ hlt
  rw [hr3] at ha
  have hk2:k2=k:=by rw [← (ok.hs h).1,hr]; rfl
  exact ⟨e ▸ hp3,e ▸ asc_pw.1 ha,(rg_len ok.h0).2 _ hlt,by rw [← hk2,← hr]; exact gD_mem hlt⟩
 have eN:newP l nm fr (pdA fr cl f a b c bs)=if stH l nm=true then insQ (qP fr) (seD l nm) (pdA fr cl f a b c bs) else [pdA fr cl f a b c bs]:=by
  unfold newP
  split
  ·rename_i h; exact putP_ins (hD h).1 _ _ _ _ _ _ _
  ·rfl
 have fa:AscP (newP l nm fr (pdA fr cl f a b c bs)):=by
  rw [eN]
  split
  ·rename_i h; exact ins_asc (hD h).2.1 rfl
  ·exact List.pairwise_singleton _ _
 have mm:∀ r ∈ newP l nm fr (pdA fr cl f a b c bs),r=pdA fr cl f a b c bs∨(stH l nm=true∧r ∈ seD l nm):=by
  rw [eN]
  intro r hr
  split at hr
  ·rename_i h
   rcases insQ_mem hr with e | e
   ·exact .inl e
   ·exact .inr ⟨h,e⟩
  ·exact .inl (List.mem_singleton.1 hr)
 have ln:(newP l nm fr (pdA fr cl f a b c bs)).length≤8∧(newP l nm fr (pdA fr cl f a b c bs)).length≠0:=by
  rw [eN]
  split
  ·rename_i h
   refine ⟨?_,fun z=>insQ_ne _ _ _ (List.eq_nil_of_length_eq_zero z)⟩
   rw [insQ_len]
   have:=(hD h).2.2.1
   rcases (ok.hs h).2 with z | z
   ·have z:fpB (qP fr) (seD l nm)=true:=z
    rw [z]; simp only [cond_true]; omega
   ·omega
  ·simp
 have fd:PdsP (newP l nm fr (pdA fr cl f a b c bs)):=by
  refine pds_mem (fun r hr=>?_) (by omega)
  rcases mm r hr with e | ⟨h,e⟩
  ·exact ⟨_,_,_,_,_,_,_,e,hb,hbl⟩
  ·exact mem_pds (hD h).1 e
 have fe:setO l k nm fr cl f a b c bs=insQ (qS nm) l (stA k nm (newP l nm fr (pdA fr cl f a b c bs))):=by
  unfold setO
  rw [if_pos he]
  exact setL_ins hl fun h=>(ok.hs h).1
 have good:GoodR (stA k nm (newP l nm fr (pdA fr cl f a b c bs))):=by
  refine ⟨?_,?_,?_,?_,?_⟩
  ·show s1B (newP l nm fr (pdA fr cl f a b c bs))=false
   unfold s1B
   rw [decide_eq_false ln.2,decide_eq_false (by omega)]; rfl
  ·show (!(exK k))=false
   rw [ok.hk]; rfl
  ·show (!(nmOk nm))=false
   rw [ok.hn]; rfl
  ·show (newP l nm fr (pdA fr cl f a b c bs)).any (bdP k)=false
   rw [List.any_eq_false]
   intro r hr z
   rcases mm r hr with e | ⟨h,e⟩
   ·subst e
    have:bdP k (pdA fr cl f a b c bs)=!(pdV k fr cl f a b c bs):=rfl
    rw [this,ok.hp] at z; cases z
   ·have hb4:=(hg _ (hD h).2.2.2).g4
    have hb4:(seD l nm).any (bdP k)=false:=hb4
    exact absurd z (by rw [List.any_eq_false] at hb4; exact hb4 r e)
  ·show (!(ascB (newP l nm fr (pdA fr cl f a b c bs))))=false
   rw [asc_pw.2 fa]; rfl
 have hlen:(setO l k nm fr cl f a b c bs).length≤60:=by
  rw [fe,insQ_len]
  cases h:stH l nm with
  | true =>
   have h':fpB (qS nm) l=true:=h
   rw [h']; simp only [cond_true]; omega
  | false=>have:=ok.hf h; omega
 refine ⟨?_,?_,fe,eN,fa,fd⟩
 ·refine sts_mem (fun r hr=>?_) (by omega)
  rw [fe] at hr
  rcases insQ_mem hr with e | e
  ·exact ⟨_,_,_,e,fd⟩
  ·exact mem_sts hl e
 ·refine rgV_iff.2 ⟨hlen,fun r hr=>?_,?_⟩
  ·rw [fe] at hr
   rcases insQ_mem hr with e | e
   ·rw [e]; exact good
   ·exact hg r e
  ·rw [fe]; exact ins_sn hs rfl
end Go.Proofs.YtldiagnbagpliaaGreatDoor
namespace Go.Proofs.YtldiagnbagpliaaGreatDoor
open Go
set_option linter.unusedVariables false
set_option linter.unusedSimpArgs false
def begT (t:Int) (r:List AV):Bool:=decide (rE r≤t)
def lst (ps:LLR) (t:Int):Option (List AV):=(ps.filter (begT t)).getLast?
theorem fil_all {p:List AV→Bool} {l:LLR} (h:∀ x ∈ l,p x=true):l.filter p=l:=List.filter_eq_self.2 h
theorem fil_no {p:List AV→Bool} {l:LLR} (h:∀ x ∈ l,p x=false):l.filter p=[]:=by
 rw [List.filter_eq_nil_iff]
 intro x hx z
 rw [h x hx] at z; cases z
theorem parts_eq (q:List AV→Int) (l:LLR) (hb:fpB q l=true) (hi:fpI q l < l.length):l=l.take (fpI q l)++([l.getD (fpI q l) []]++l.drop (fpI q l+1)):=by
 conv=>lhs; rw [← List.take_append_drop (fpI q l) l]
 rw [List.drop_eq_getElem_cons hi,gD_lt hi]
 rfl
theorem fil_ps {ps:LLR} (h:AscP ps) (t:Int):ps.filter (begT t)=ps.take (fpI (qP t) ps+cond (fpB (qP t) ps) 1 0):=by
 obtain ⟨p1,p2,p3⟩:=fp_parts (asc_srt h t)
 have f1:(ps.take (fpI (qP t) ps)).filter (begT t)=ps.take (fpI (qP t) ps):=fil_all fun x hx=>decide_eq_true (by have:=qP_lt.1 (p1 x hx); omega)
 have f2:(ps.drop (fpI (qP t) ps+cond (fpB (qP t) ps) 1 0)).filter (begT t)=[]:=fil_no fun x hx=>decide_eq_false (by have:=qP_gt.1 (p2 x hx); omega)
 cases hb:fpB (qP t) ps with
 | false =>
  rw [hb] at f2
  conv=>lhs; rw [← List.take_append_drop (fpI (qP t) ps) ps]
  rw [List.filter_append,f1]
  have e:fpI (qP t) ps+cond false 1 0=fpI (qP t) ps:=rfl
  rw [e] at f2 ⊢
  rw [f2,List.append_nil]
 | true =>
  rw [hb] at f2
  obtain ⟨h1,h2⟩:=p3 hb
  have e:fpI (qP t) ps+cond true 1 0=fpI (qP t) ps+1:=rfl
  rw [e] at f2 ⊢
  have hx:begT t (ps.getD (fpI (qP t) ps) [])=true:=decide_eq_true (by have:=qP_z.1 h2; omega)
  conv=>lhs; rw [parts_eq _ ps hb h1]
  rw [List.filter_append,List.filter_append,f1,f2,List.append_nil,List.filter_cons_of_pos hx,List.filter_nil,List.take_add_one,List.getElem?_eq_getElem h1,gD_lt h1]
  rfl
theorem at_lst {ps:LLR} (h:AscP ps) (t:Int):atB ps t=(lst ps t).isSome∧atR ps t=(lst ps t).getD pzR:=by
 have hle:=fp_le (qP t) ps
 have p3:=(fp_parts (asc_srt h t)).2.2
 have hK:atK ps t=((fpI (qP t) ps+cond (fpB (qP t) ps) 1 0:Nat):Int) - 1:=by
  unfold atK pdH pdN
  cases fpB (qP t) ps with
  | true=>simp
  | false=>simp
 have hm:fpI (qP t) ps+cond (fpB (qP t) ps) 1 0≤ps.length:=by
  cases hb:fpB (qP t) ps with
  | true=>have:=(p3 hb).1; show fpI (qP t) ps+1≤ps.length; omega
  | false=>exact hle
 have hL:lst ps t=(ps.take (fpI (qP t) ps+cond (fpB (qP t) ps) 1 0)).getLast?:=by unfold lst; rw [fil_ps h]
 generalize fpI (qP t) ps+cond (fpB (qP t) ps) 1 0=M at *
 have hB:atB ps t=decide (1≤M):=by unfold atB; rw [hK,decide_eq_decide]; omega
 by_cases hM:1≤M
 ·have e:lst ps t=some (ps.getD (M - 1) []):=by
   rw [hL,List.getLast?_eq_getElem?,List.length_take,Nat.min_eq_left hm,List.getElem?_take,if_pos (by omega),gD_lt (by omega),List.getElem?_eq_getElem]
  refine ⟨by rw [hB,e,decide_eq_true hM]; rfl,?_⟩
  unfold atR
  rw [hB,if_pos (decide_eq_true hM),e,hK,show ((M:Nat):Int) - 1=((M - 1:Nat):Int) by omega,Int.toNat_natCast]
  rfl
 ·have e:lst ps t=none:=by
   rw [hL,show M=0 by omega]; rfl
  refine ⟨by rw [hB,e,decide_eq_false hM]; rfl,?_⟩
  unfold atR
  rw [hB,if_neg (by rw [decide_eq_false hM]; decide),e]
  rfl
theorem lst_ins {ps:LLR} (h:AscP ps) {fr:Int} {p:List AV} (hp:rE p=fr) (t:Int):(t < fr→lst (insQ (qP fr) ps p) t=lst ps t)∧(t=fr→lst (insQ (qP fr) ps p) t=some p):=by
 obtain ⟨p1,p2,p3⟩:=fp_parts (asc_srt h fr)
 have fM:t≤fr→(ps.drop (fpI (qP fr) ps+cond (fpB (qP fr) ps) 1 0)).filter (begT t)=[]:=fun ht=>fil_no fun x hx=>decide_eq_false (by have:=qP_gt.1 (p2 x hx); omega)
 constructor
 ·intro ht
  have hs:begT t p=false:=decide_eq_false (by omega)
  unfold lst insQ
  rw [List.filter_append,List.filter_append,fM (by omega),List.filter_cons_of_neg (by rw [hs]; decide),List.filter_nil,List.append_nil,List.append_nil]
  congr 1
  cases hb:fpB (qP fr) ps with
  | false =>
   have f2:=fM (by omega)
   rw [hb] at f2
   conv=>rhs; rw [← List.take_append_drop (fpI (qP fr) ps) ps]
   have e:fpI (qP fr) ps+cond false 1 0=fpI (qP fr) ps:=rfl
   rw [e] at f2
   rw [List.filter_append,f2,List.append_nil]
  | true =>
   have f2:=fM (by omega)
   rw [hb] at f2
   obtain ⟨h1,h2⟩:=p3 hb
   have e:fpI (qP fr) ps+cond true 1 0=fpI (qP fr) ps+1:=rfl
   rw [e] at f2
   have hx:begT t (ps.getD (fpI (qP fr) ps) [])=false:=decide_eq_false (by have:=qP_z.1 h2; omega)
   conv=>rhs; rw [parts_eq _ ps hb h1]
   rw [List.filter_append,List.filter_append,f2,List.filter_cons_of_neg (by rw [hx]; decide),List.filter_nil,List.append_nil,List.append_nil]
 ·intro ht
  have hs:begT t p=true:=decide_eq_true (by omega)
  unfold lst insQ
  rw [List.filter_append,List.filter_append,fM (by omega),List.filter_cons_of_pos hs,List.filter_nil,List.append_nil,List.getLast?_append]
  rfl
theorem st_mem {q:LLR} (h:SnP q) {r:List AV} (hr:r ∈ q):stH q (sNm r)=true∧q.getD (stN q (sNm r)) []=r:=by
 obtain ⟨i,hi,e⟩:=mem_gD hr
 have hz:qS (sNm r) (q.getD i [])=0:=by rw [e]; exact cmpS_z.2 rfl
 have hp:=h
 rw [SnP,List.pairwise_iff_getElem] at hp
 have hN:stN q (sNm r)=i:=fp_uniq (q:=qS (sNm r)) (Nat.le_of_lt hi) (fun j hj=>by
  have:=hp j i (by omega) hi hj
  rw [gD_lt (by omega)]
  show cmpS (sNm q[j]) (sNm r) < 0
  rw [← e,gD_lt hi]; exact this) (fun _=>by rw [hz]; decide)
 refine ⟨?_,by rw [hN]; exact e⟩
 unfold stH fpB
 rw [show fpI (qS (sNm r)) q=i from hN,decide_eq_true hi,decide_eq_true hz]; rfl
theorem ap_row {q:LLR} (h:SnP q) {k:Int} {n:ByteArray} {ps:LLR} (hr:stA k n ps ∈ q) (t:Int):apI q n t=atB ps t∧apP q n t=atR ps t∧stH q n=true∧q.getD (stN q n) []=stA k n ps:=by
 obtain ⟨h1,h2⟩:=st_mem h hr
 have h1:stH q n=true:=h1
 have h2:q.getD (stN q n) []=stA k n ps:=h2
 refine ⟨?_,?_,h1,h2⟩
 ·unfold apI; rw [h1,h2]; rfl
 ·unfold apP; rw [if_pos h1,h2]; rfl
theorem ap_none {q:LLR} {n:ByteArray} (h:stH q n=false) (t:Int):apI q n t=false∧apP q n t=pzR :=
 ⟨by unfold apI; rw [h]; rfl,by unfold apP; rw [if_neg (by rw [h]; decide)]⟩
theorem self_insQ (q:List AV→Int) (l:LLR) (s:List AV):s ∈ insQ q l s:=by
 unfold insQ; simp
theorem SetR.same {l q:LLR} {k:Int} {nm:ByteArray} {fr:Int} {p:List AV} (h:SetR l q k nm fr p) (t:Int):apI q nm t=atB (newP l nm fr p) t∧apP q nm t=atR (newP l nm fr p) t∧stH q nm=true∧q.getD (stN q nm) []=stA k nm (newP l nm fr p) :=
 ap_row (rgV_iff.1 h.f0).2.2 (by rw [h.fe]; exact self_insQ _ _ _) t
theorem SetR.at {l q:LLR} {k:Int} {nm:ByteArray} {fr:Int} {p:List AV} (h:SetR l q k nm fr p) (hl:StsP l) (h0:rgV l=0) (hp:rE p=fr) (t:Int):(t < fr→apI q nm t=apI l nm t∧apP q nm t=apP l nm t)∧(t=fr→apI q nm t=true∧apP q nm t=p):=by
 obtain ⟨s1,s2,_⟩:=h.same t
 have hs:=(rgV_iff.1 h0).2.2
 obtain ⟨n1,n2⟩:=at_lst h.fa t
 rw [s1,s2,n1,n2,h.fn]
 cases e:stH l nm with
 | true =>
  obtain ⟨k2,hr,hlt⟩:=seD_at hl e
  have ha:=(rg_zero hl h0).fa _ hlt
  rw [hr] at ha
  have ha:AscP (seD l nm):=asc_pw.1 ha
  obtain ⟨a1,a2,_⟩:=ap_row hs (show stA k2 nm (seD l nm) ∈ l by rw [← hr]; exact gD_mem hlt) t
  obtain ⟨m1,m2⟩:=at_lst ha t
  obtain ⟨l1,l2⟩:=lst_ins ha hp t
  rw [if_pos rfl,a1,a2,m1,m2]
  exact ⟨fun ht=>by rw [l1 ht]; exact ⟨rfl,rfl⟩,fun ht=>by rw [l2 ht]; exact ⟨rfl,rfl⟩⟩
 | false =>
  obtain ⟨a1,a2⟩:=ap_none e t
  rw [if_neg (by decide),a1,a2]
  constructor
  ·intro ht
   have:lst [p] t=none:=by
    unfold lst
    rw [List.filter_cons_of_neg (by unfold begT; rw [decide_eq_false (by omega)]; decide)]; rfl
   rw [this]; exact ⟨rfl,rfl⟩
  ·intro ht
   have:lst [p] t=some p:=by
    unfold lst
    rw [List.filter_cons_of_pos (by unfold begT; rw [decide_eq_true (by omega)])]; rfl
   rw [this]; exact ⟨rfl,rfl⟩
end Go.Proofs.YtldiagnbagpliaaGreatDoor
namespace Go.Proofs.YtldiagnbagpliaaGreatDoor
open Go
set_option linter.unusedVariables false
set_option linter.unusedSimpArgs false
structure BisP (bs:LLR) (n:Int):Prop where
 fr:∀ i,i < bs.length→∃ e v:Int,bs.getD i []=[.int .i64 e,.int .i64 v]∧(1≤e∧e < n)∧-1000≤v∧v≤1000
 fa:∀ i j:Nat,i < j→j < bs.length→rE (bs.getD i []) < rE (bs.getD j [])
 fl:(bs.length:Int) < n
theorem bis_nil {n:Int} (h:0 < n):BisP [] n:=⟨fun i h=>by simp at h,fun i j _ h=>by simp at h,by simpa using h⟩
theorem bis_up {bs:LLR} {n:Int} (h:BisP bs n):BisP bs (n+1):=⟨fun i hi=>by obtain ⟨e,v,h1,h2,h3⟩:=h.fr i hi; exact ⟨e,v,h1,by omega,h3⟩,h.fa,by have:=h.fl; omega⟩
theorem bis_add {bs:LLR} {n v:Int} (h:BisP bs n) (hn:1≤n) (hv:-1000≤v∧v≤1000):BisP (bs++[[.int .i64 n,.int .i64 v]]) (n+1):=by
 refine ⟨fun i hi=>?_,fun i j hij hj=>?_,by have:=h.fl; simp; omega⟩
 ·rw [List.length_append,List.length_singleton] at hi
  rw [gD_app]
  by_cases q:i < bs.length
  ·rw [if_pos q]; obtain ⟨e,w,h1,h2,h3⟩:=h.fr i q; exact ⟨e,w,h1,by omega,h3⟩
  ·rw [if_neg q,show i - bs.length=0 by omega]; exact ⟨n,v,rfl,by omega,hv⟩
 ·rw [List.length_append,List.length_singleton] at hj
  rw [gD_app,gD_app,if_pos (show i < bs.length by omega)]
  by_cases q:j < bs.length
  ·rw [if_pos q]; exact h.fa i j hij q
  ·rw [if_neg q,show j - bs.length=0 by omega]
   obtain ⟨e,w,h1,h2,_⟩:=h.fr i (by omega)
   rw [h1]; exact h2.2
theorem BisP.p {bs:LLR} {n:Int} (h:BisP bs n) (hn:n≤12):RdsP bs∧bs.length≤11∧bsOk bs=true:=by
 have hl:=h.fl
 refine ⟨⟨fun i hi=>?_,by omega⟩,by omega,decide_eq_true fun i hi=>?_⟩
 ·obtain ⟨e,v,h1,h2,h3⟩:=h.fr i hi
  refine ⟨e,v,h1,?_,?_⟩ <;> (show _∧_; omega)
 ·obtain ⟨e,v,h1,h2,h3⟩:=h.fr i hi
  unfold bsX
  have e1:rE (bs.getD i [])=e:=by rw [h1]; rfl
  have e2:rV (bs.getD i [])=v:=by rw [h1]; rfl
  rw [e1,e2,decide_eq_false (show ¬ 1000 < v by omega),decide_eq_false (show ¬ v < -1000 by omega)]
  have hok:okC e=true:=by unfold okC; exact decide_eq_true (by omega)
  rw [hok]
  by_cases hz:0 < i
  ·have:=h.fa (i - 1) i (by omega) hi
   rw [e1] at this
   rw [decide_eq_false (show ¬ e≤rE (bs.getD (i - 1) []) by omega)]; simp
  ·rw [decide_eq_false hz]; rfl
structure PrvQ (k fr:Int) (cl:Bool) (f a b c:Int) (bs:LLR) (j:Int):Prop where
 fv:pdV k fr cl f a b c bs=true
 fr:RdsP bs
 fl:bs.length≤11
 fj:0≤j
def plOk (k f a b c:Int):Bool:=if k=1 then isN f a b c else nonP f a b c
structure PrvP (k:Int) (x:Int × Int × Int × Int × Int × Int × Int × LLR):Prop where
 fc:1≤x.2.2.2.2.2.1∧x.2.2.2.2.2.1≤12
 fj:0≤x.2.2.2.2.2.2.1
 fb:BisP x.2.2.2.2.2.2.2 x.2.2.2.2.2.1
 ft:0≤x.1∧x.1≤52595999
 fp:plOk k x.2.1 x.2.2.1 x.2.2.2.1 x.2.2.2.2.1=true
def prvI (xs:List (List AV)) (k:Int):LInv:=⟨Int × Int × Int × Int × Int × Int × Int × LLR,fun x=>⟨[(0,.ptr 0 0),(6,.ptr 1006 0),(7,.ptr 1007 0),(8,.int .i64 x.2.2.2.2.2.1)],[(0,.cells [.sl 1 false xs,.int .i64 x.2.2.2.2.2.2.1]),(1006,.cells [.int .i64 0,.bool false,.int .i64 0,.int .i64 0,.int .i64 0,.int .i64 0,.nils]),(1007,.cells [.int .i64 x.1,.bool false,.int .i64 x.2.1,.int .i64 x.2.2.1,.int .i64 x.2.2.2.1,.int .i64 x.2.2.2.2.1,.rw 1501 2 x.2.2.2.2.2.2.2.length]),(1501,.row 76 2 x.2.2.2.2.2.2.2)]⟩,PrvP k,fun x=>(12 - x.2.2.2.2.2.1).toNat,none⟩
theorem pick_bnd {v j:Int} (h:PickQ [[.int .i64 0],[.int .i64 3],[.int .i64 (-5)],[.int .i64 20],[.int .i64 1000],[.int .i64 (-1000)]] (.int .i64 v) j):-1000≤v∧v≤1000:=by
 have:=pick_of [0,3,-5,20,1000,-1000] h
 simp only [List.mem_cons,List.not_mem_nil,or_false] at this
 omega
theorem pdV_cl {k fr:Int} (h:0≤fr∧fr≤52595999):pdV k fr true 0 0 0 0 []=true:=by
 unfold pdV; rw [if_neg (by omega),if_pos rfl]; rfl
theorem pdV_op {k fr f a b c:Int} {bs:LLR} (h:0≤fr∧fr≤52595999) (hb:bsOk bs=true) (hp:plOk k f a b c=true):pdV k fr false f a b c bs=true:=by
 unfold pdV; rw [if_neg (by omega),if_neg (by decide),hb,if_pos rfl]; exact hp
def qperiodV_s:SpQ
 | [.ptr 0 0,.int .i64 k,.int .i64 near],[.cells [.sl 1 false xs,.int .i64 i]]=>some (fun K=>(SrcQ xs i∧0≤near∧near≤52595999)∧(∀ (fr:Int) (cl:Bool) (f a b c:Int) (bs:List (List AV)) (j:Int),(PrvQ k fr cl f a b c bs j)→K (.agg [.int .i64 fr,.bool cl,.int .i64 f,.int .i64 a,.int .i64 b,.int .i64 c,.sl 2 false bs]) [.cells [.sl 1 false xs,.int .i64 j]]))
 | _,_=>none
def qperiodV_T:Prop :=
  ∀ (gl:Glob) (xs:List (List AV)) (i k near:Int),SrcQ xs i∧0≤near∧near≤(52595999:Int)→(SrcQ xs i∧(-200:Int)≤(200:Int)∧(-1000000000:Int)≤(-200:Int)∧(200:Int)≤(1000000000:Int))∧∀ (v j:Int),((-200:Int)≤v∧v≤(200:Int))∧0≤j→bif decide (rng .i64 ((0:Int) - near)) then (SrcQ xs j∧((4:Nat)=[[AV.int .i64 (-100000:Int)],[AV.int .i64 (-1000:Int)],[AV.int .i64 v],[AV.int .i64
 ((0:Int) - near)]].length∧(1:Nat)≤(4:Nat)∧(4:Nat)≤(1000:Nat))∧IntsB [[AV.int .i64 (-100000:Int)],[AV.int .i64 (-1000:Int)],[AV.int .i64 v],[AV.int .i64 ((0:Int) - near)]])∧∀ (v_1 j:Int),PickQ [[AV.int .i64 (-100000:Int)],[AV.int .i64 (-1000:Int)],[AV.int .i64 v],[AV.int .i64 ((0:Int) - near)]] (AV.int .i64 v_1) j→bif decide (rng .i64 (near+v_1)) then SrcQ xs j∧∀ (v j:Int),NumQ (7:Int) v j→bif
 decide (v=(6:Int)) then ∃ fr cl f a b c bs j_1,PrvQ k fr cl f a b c bs j_1∧(max (0:Int) (min (52595999:Int) (near+v_1))=fr∧true=cl∧(0:Int)=f∧(0:Int)=a∧(0:Int)=b∧(0:Int)=c∧bs=[]∧True)∧((True∧xs=xs)∧j=j_1∧True)∧True else bif decide (k=(1:Int)) then SrcQ xs j∧∀ (f a b c j:Int),PlaQ f a b c j→(∃ x,PrvP k
 x∧((0:Nat)=0∧(0:Nat)=0∧(0:Nat)=0∧(1:Int)=x.snd.snd.snd.snd.snd.fst∧True)∧((True∧xs=xs)∧j=x.snd.snd.snd.snd.snd.snd.fst∧True)∧((0:Int)=0∧false=false∧(0:Int)=0∧(0:Int)=0∧(0:Int)=0∧(0:Int)=0∧True∧True)∧(max (0:Int) (min (52595999:Int) (near+v_1))=x.fst∧false=false∧f=x.snd.fst∧a=x.snd.snd.fst∧b=x.snd.snd.snd.fst∧c=x.snd.snd.snd.snd.fst∧(0:Nat)=List.length
 x.snd.snd.snd.snd.snd.snd.snd∧True)∧[]=x.snd.snd.snd.snd.snd.snd.snd∧True)∧∀ (x:Int × Int × Int × Int × Int × Int × Int × LLR),PrvP k x→bif decide (x.snd.snd.snd.snd.snd.fst≤(11:Int)) then SrcQ xs x.snd.snd.snd.snd.snd.snd.fst∧∀ (v j:Int),NumQ (7:Int) v j→bif decide (v=(6:Int)) then (SrcQ xs j∧((6:Nat)=6∧(1:Nat)≤(6:Nat)∧(6:Nat)≤(1000:Nat))∧IntsB [[AV.int .i64 (0:Int)],[AV.int .i64
 (3:Int)],[AV.int .i64 (-5:Int)],[AV.int .i64 (20:Int)],[AV.int .i64 (1000:Int)],[AV.int .i64 (-1000:Int)]])∧∀ (v j:Int),PickQ [[AV.int .i64 (0:Int)],[AV.int .i64 (3:Int)],[AV.int .i64 (-5:Int)],[AV.int .i64 (20:Int)],[AV.int .i64 (1000:Int)],[AV.int .i64 (-1000:Int)]] (AV.int .i64 v) j→bif decide (List.length x.snd.snd.snd.snd.snd.snd.snd=List.length x.snd.snd.snd.snd.snd.snd.snd∧List.length
 x.snd.snd.snd.snd.snd.snd.snd+[[AV.int .i64 x.snd.snd.snd.snd.snd.fst,.int .i64 v]].length≤(9223372036854775807:Nat)∧(List.length x.snd.snd.snd.snd.snd.snd.snd+[[AV.int .i64 x.snd.snd.snd.snd.snd.fst,.int .i64 v]].length)*(16:Nat)≤(140737488355328:Nat)) then bif decide (rng .i64 (x.snd.snd.snd.snd.snd.fst+(1:Int))) then ∃ y,PrvP k y∧(prvI xs k).m y < (prvI xs k).m
 x∧((0:Nat)=0∧(0:Nat)=0∧(0:Nat)=0∧x.snd.snd.snd.snd.snd.fst +
 (1:Int)=y.snd.snd.snd.snd.snd.fst∧True)∧((True∧xs=xs)∧j=y.snd.snd.snd.snd.snd.snd.fst∧True)∧((0:Int)=0∧false=false∧(0:Int)=0∧(0:Int)=0∧(0:Int)=0∧(0:Int)=0∧True∧True)∧(x.fst=y.fst∧false=false∧x.snd.fst=y.snd.fst∧x.snd.snd.fst=y.snd.snd.fst∧x.snd.snd.snd.fst=y.snd.snd.snd.fst∧x.snd.snd.snd.snd.fst=y.snd.snd.snd.snd.fst∧(x.snd.snd.snd.snd.snd.snd.snd++[[AV.int .i64 x.snd.snd.snd.snd.snd.fst,.int
 .i64 v]]).length=List.length y.snd.snd.snd.snd.snd.snd.snd∧True)∧x.snd.snd.snd.snd.snd.snd.snd++[[AV.int .i64 x.snd.snd.snd.snd.snd.fst,.int .i64 v]]=y.snd.snd.snd.snd.snd.snd.snd∧True else False else False else bif decide (rng .i64 (x.snd.snd.snd.snd.snd.fst+(1:Int))) then ∃ y,PrvP k y∧(prvI xs k).m y < (prvI xs k).m x∧((0:Nat)=0∧(0:Nat)=0∧(0:Nat)=0∧x.snd.snd.snd.snd.snd.fst +
 (1:Int)=y.snd.snd.snd.snd.snd.fst∧True)∧((True∧xs=xs)∧j=y.snd.snd.snd.snd.snd.snd.fst∧True)∧((0:Int)=0∧false=false∧(0:Int)=0∧(0:Int)=0∧(0:Int)=0∧(0:Int)=0∧True∧True)∧(x.fst=y.fst∧false=false∧x.snd.fst=y.snd.fst∧x.snd.snd.fst=y.snd.snd.fst∧x.snd.snd.snd.fst=y.snd.snd.snd.fst∧x.snd.snd.snd.snd.fst=y.snd.snd.snd.snd.fst∧List.length x.snd.snd.snd.snd.snd.snd.snd=List.length
 y.snd.snd.snd.snd.snd.snd.snd∧True)∧x.snd.snd.snd.snd.snd.snd.snd=y.snd.snd.snd.snd.snd.snd.snd∧True else False else bif decide (List.length x.snd.snd.snd.snd.snd.snd.snd=List.length x.snd.snd.snd.snd.snd.snd.snd) then ∃ fr cl f a b c bs j,PrvQ k fr cl f a b c bs
 j∧(x.fst=fr∧false=cl∧x.snd.fst=f∧x.snd.snd.fst=a∧x.snd.snd.snd.fst=b∧x.snd.snd.snd.snd.fst=c∧(True∧x.snd.snd.snd.snd.snd.snd.snd=bs)∧True)∧((True∧xs=xs)∧x.snd.snd.snd.snd.snd.snd.fst=j∧True)∧True else False else (∃ x,PrvP k
 x∧((0:Nat)=0∧(0:Nat)=0∧(0:Nat)=0∧(1:Int)=x.snd.snd.snd.snd.snd.fst∧True)∧((True∧xs=xs)∧j=x.snd.snd.snd.snd.snd.snd.fst∧True)∧((0:Int)=0∧false=false∧(0:Int)=0∧(0:Int)=0∧(0:Int)=0∧(0:Int)=0∧True∧True)∧(max (0:Int) (min (52595999:Int) (near+v_1))=x.fst∧false=false∧(0:Int)=x.snd.fst∧(0:Int)=x.snd.snd.fst∧(0:Int)=x.snd.snd.snd.fst∧(0:Int)=x.snd.snd.snd.snd.fst∧(0:Nat)=List.length
 x.snd.snd.snd.snd.snd.snd.snd∧True)∧[]=x.snd.snd.snd.snd.snd.snd.snd∧True)∧∀ (x:Int × Int × Int × Int × Int × Int × Int × LLR),PrvP k x→bif decide (x.snd.snd.snd.snd.snd.fst≤(11:Int)) then SrcQ xs x.snd.snd.snd.snd.snd.snd.fst∧∀ (v j:Int),NumQ (7:Int) v j→bif decide (v=(6:Int)) then (SrcQ xs j∧((6:Nat)=6∧(1:Nat)≤(6:Nat)∧(6:Nat)≤(1000:Nat))∧IntsB [[AV.int .i64 (0:Int)],[AV.int .i64
 (3:Int)],[AV.int .i64 (-5:Int)],[AV.int .i64 (20:Int)],[AV.int .i64 (1000:Int)],[AV.int .i64 (-1000:Int)]])∧∀ (v j:Int),PickQ [[AV.int .i64 (0:Int)],[AV.int .i64 (3:Int)],[AV.int .i64 (-5:Int)],[AV.int .i64 (20:Int)],[AV.int .i64 (1000:Int)],[AV.int .i64 (-1000:Int)]] (AV.int .i64 v) j→bif decide (List.length x.snd.snd.snd.snd.snd.snd.snd=List.length x.snd.snd.snd.snd.snd.snd.snd∧List.length
 x.snd.snd.snd.snd.snd.snd.snd+[[AV.int .i64 x.snd.snd.snd.snd.snd.fst,.int .i64 v]].length≤(9223372036854775807:Nat)∧(List.length x.snd.snd.snd.snd.snd.snd.snd+[[AV.int .i64 x.snd.snd.snd.snd.snd.fst,.int .i64 v]].length)*(16:Nat)≤(140737488355328:Nat)) then bif decide (rng .i64 (x.snd.snd.snd.snd.snd.fst+(1:Int))) then ∃ y,PrvP k y∧(prvI xs k).m y < (prvI xs k).m
 x∧((0:Nat)=0∧(0:Nat)=0∧(0:Nat)=0∧x.snd.snd.snd.snd.snd.fst +
 (1:Int)=y.snd.snd.snd.snd.snd.fst∧True)∧((True∧xs=xs)∧j=y.snd.snd.snd.snd.snd.snd.fst∧True)∧((0:Int)=0∧false=false∧(0:Int)=0∧(0:Int)=0∧(0:Int)=0∧(0:Int)=0∧True∧True)∧(x.fst=y.fst∧false=false∧x.snd.fst=y.snd.fst∧x.snd.snd.fst=y.snd.snd.fst∧x.snd.snd.snd.fst=y.snd.snd.snd.fst∧x.snd.snd.snd.snd.fst=y.snd.snd.snd.snd.fst∧(x.snd.snd.snd.snd.snd.snd.snd++[[AV.int .i64 x.snd.snd.snd.snd.snd.fst,.int
 .i64 v]]).length=List.length y.snd.snd.snd.snd.snd.snd.snd∧True)∧x.snd.snd.snd.snd.snd.snd.snd++[[AV.int .i64 x.snd.snd.snd.snd.snd.fst,.int .i64 v]]=y.snd.snd.snd.snd.snd.snd.snd∧True else False else False else bif decide (rng .i64 (x.snd.snd.snd.snd.snd.fst+(1:Int))) then ∃ y,PrvP k y∧(prvI xs k).m y < (prvI xs k).m x∧((0:Nat)=0∧(0:Nat)=0∧(0:Nat)=0∧x.snd.snd.snd.snd.snd.fst +
 (1:Int)=y.snd.snd.snd.snd.snd.fst∧True)∧((True∧xs=xs)∧j=y.snd.snd.snd.snd.snd.snd.fst∧True)∧((0:Int)=0∧false=false∧(0:Int)=0∧(0:Int)=0∧(0:Int)=0∧(0:Int)=0∧True∧True)∧(x.fst=y.fst∧false=false∧x.snd.fst=y.snd.fst∧x.snd.snd.fst=y.snd.snd.fst∧x.snd.snd.snd.fst=y.snd.snd.snd.fst∧x.snd.snd.snd.snd.fst=y.snd.snd.snd.snd.fst∧List.length x.snd.snd.snd.snd.snd.snd.snd=List.length
 y.snd.snd.snd.snd.snd.snd.snd∧True)∧x.snd.snd.snd.snd.snd.snd.snd=y.snd.snd.snd.snd.snd.snd.snd∧True else False else bif decide (List.length x.snd.snd.snd.snd.snd.snd.snd=List.length x.snd.snd.snd.snd.snd.snd.snd) then ∃ fr cl f a b c bs j,PrvQ k fr cl f a b c bs
 j∧(x.fst=fr∧false=cl∧x.snd.fst=f∧x.snd.snd.fst=a∧x.snd.snd.snd.fst=b∧x.snd.snd.snd.snd.fst=c∧(True∧x.snd.snd.snd.snd.snd.snd.snd=bs)∧True)∧((True∧xs=xs)∧x.snd.snd.snd.snd.snd.snd.fst=j∧True)∧True else False else False else False
theorem qperiodV_P:qperiodV_T:=by
 unfold qperiodV_T
 intro gl xs i k near ⟨hs,h1,h2⟩
 have s:=hs.s
 refine ⟨⟨hs,by decide,by decide,by decide⟩,fun v j q1=>cdI (by omega) ⟨⟨⟨s,q1.2⟩,⟨rfl,by decide,by decide⟩,ints_of [-100000,-1000,v,0 - near] ?_⟩,fun w j q2=>?_⟩⟩
 ·intro n hn
  simp only [List.mem_cons,List.not_mem_nil,or_false] at hn
  show _∧_
  omega
 have hw:=pick_of [-100000,-1000,v,0 - near] q2
 simp only [List.mem_cons,List.not_mem_nil,or_false] at hw
 have ht:0≤max 0 (min 52595999 (near+w))∧max 0 (min 52595999 (near+w))≤52595999:=by omega
 refine cdI (by omega) ⟨⟨s,q2.fj⟩,fun v j q3=>csx (fun _=>⟨_,_,_,_,_,_,_,_,⟨pdV_cl ht,rdsP_nil,by simp,q3.fj⟩,⟨rfl,rfl,rfl,rfl,rfl,rfl,rfl,trivial⟩,⟨⟨trivial,rfl⟩,rfl,trivial⟩,trivial⟩) (fun _=>csx (fun hk=>⟨⟨s,q3.fj⟩,fun f a b c j q4=>⟨⟨(max 0 (min 52595999 (near+w)),f,a,b,c,1,j,[]),⟨by simp,q4.fj,bis_nil (by simp),ht,by simp only [plOk]; rw [if_pos hk]; exact q4.fn⟩,by (repeat' (first | exact trivial | exact rfl | assumption | apply And.intro))⟩,?_⟩⟩) (fun hk=>⟨⟨(max 0 (min 52595999 (near+w)),0,0,0,0,1,j,[]),⟨by simp,q3.fj,bis_nil (by simp),ht,by simp only [plOk]; rw [if_neg hk]; rfl⟩,by (repeat' (first | exact trivial | exact rfl | assumption | apply And.intro))⟩,?_⟩))⟩
 all_goals
  rintro ⟨fr,f,a,b,c,n,j,bs⟩ ⟨hc,hj,hb,hft,hfp⟩
  have hl:=hb.fl
  simp only at hc hj hb hl hft hfp
  dsimp only
  refine csx (fun h=>⟨⟨s,hj⟩,fun v j q5=>csx (fun _=>⟨⟨⟨s,q5.fj⟩,⟨rfl,by decide,by decide⟩,ints_of [0,3,-5,20,1000,-1000] ?_⟩,fun v j q6=>cd1 ⟨rfl,by simp; omega,by simp; omega⟩ (cdI (by omega) ⟨(fr,f,a,b,c,n+1,j,bs++[[.int .i64 n,.int .i64 v]]),⟨by simp only; omega,q6.fj,bis_add hb hc.1 (pick_bnd q6),hft,hfp⟩,by simp only [prvI]; omega,by (repeat' (first | exact trivial | exact rfl | assumption | apply And.intro))⟩)⟩) (fun _=>cdI (by omega) ⟨(fr,f,a,b,c,n+1,j,bs),⟨by simp only; omega,q5.fj,bis_up hb,hft,hfp⟩,by simp only [prvI]; omega,by (repeat' (first | exact trivial | exact rfl | assumption | apply And.intro))⟩)⟩) (fun h=>cd1 rfl ?_)
  ·intro n hn
   simp only [List.mem_cons,List.not_mem_nil,or_false] at hn
   show _∧_
   omega
  ·obtain ⟨b1,b2,b3⟩:=hb.p hc.2
   exact ⟨fr,false,f,a,b,c,bs,j,⟨pdV_op hft b3 hfp,b1,b2,hj⟩,by (repeat' (first | exact trivial | exact rfl | assumption | apply And.intro))⟩
def qperiodV_S:Prop:=∀ (gl:Glob) (xs:List (List AV)) (i k near:Int),SrcQ xs i∧0≤near∧near≤52595999→fnQ Tryz.prog { glob:=gl,spec:=lk [],specH:=lk [],specQ:=lk [(37,qn_s),(24,qrange_s),(40,qpick_s),(43,qplace_s)],nowf:=true } { nt:=49,drop:=drp [(1,2096640),(2,6291456),(3,16777216),(4,33554432),(5,67108864),(6,1879048192),(8,2147483648),(9,25769803776),(10,103079215104),(11,281200098803712),(12,281474976710656)],fr:=1000,kp:=[0],emp:=fun id=>cond (Nat.beq id 7) [(1100706,1501,76,2)] [] } (invs [(8,prvI xs k)]) 6 Tryz.f25 [.ptr 0 0,.int .i64 k,.int .i64 near] [.cells [.sl 1 false xs,.int .i64 i]] (fun r2 bs2=>∃ (fr:Int) (cl:Bool) (f a b c:Int) (bs:List (List AV)) (j:Int),(PrvQ k fr cl f a b c bs j)∧le r2 (.agg [.int .i64 fr,.bool cl,.int .i64 f,.int .i64 a,.int .i64 b,.int .i64 c,.sl 2 false bs])∧leBs bs2 [.cells [.sl 1 false xs,.int .i64 j]])
theorem qperiodV_e:qperiodV_T=qperiodV_S:=by kernel_rfl
theorem qperiodV_v:qperiodV_S:=Eq.mp (qperiodV_e ..) (qperiodV_P)
theorem qperiodV_ok (gl:Glob):QOK Tryz.prog gl 25 qperiodV_s:=by
 refine ⟨fok Tryz.func25 (by kernel_rfl) (by kernel_rfl),?_⟩
 intro xs bs T h K hT
 unfold qperiodV_s at h
 split at h
 ·simp only [Option.some.injEq] at h
  subst h
  obtain ⟨hp,hK⟩:=hT
  obtain ⟨r,bs2,⟨o0,o1,o2,o3,o4,o5,o6,o7,hq,hl,hb⟩,hC⟩:=fnQ_sound tyNil (by exact specOK rfl rfl trivial trivial (d:=qsOf rfl ⟨(qn_ok gl),(qrange_ok gl),(qpick_ok gl),(qplace_ok gl),trivial⟩)) (by kernel_rfl) Tryz.func25 (qperiodV_v gl _ _ _ _ hp)
  exact ⟨_,_,hK o0 o1 o2 o3 o4 o5 o6 o7 hq,hC.le hl hb⟩
 ·cases h
structure RegV (l:LLR):Prop where
 fp:StsP l
 f0:rgV l=0
 fn:∀ r ∈ l,sNm r ∈ nam6
structure RegvQ (l:LLR) (j:Int):Prop where
 fr:RegV l
 fj:0≤j
structure RegvI (x:Int × Int × LLR):Prop where
 fn:x.1≤12
 fj:0≤x.2.1
 fr:RegV x.2.2
def rgv3 (xs:List (List AV)) (near:Int):LInv:=⟨Int × Int × LLR,fun x=>⟨[(0,.ptr 0 0),(1,.int .i64 near),(4,.ptr 1004 0),(5,.ptr 1005 0),(6,.int .i64 x.1)],[(0,.cells [.sl 1 false xs,.int .i64 x.2.1]),(1004,.cells [.nils]),(1005,.cells [.sl 3 false x.2.2])]⟩,RegvI,fun x=>(x.1).toNat,none⟩
theorem regv_nil:RegV []:=⟨sts_nil,by kernel_rfl,fun r h=>by simp at h⟩
theorem regv_set {l:LLR} (h:RegV l) {k:Int} {nm:ByteArray} (hn:nm ∈ nam6) {fr:Int} {cl:Bool} {f a b c:Int} {bs:LLR} (hb:RdsP bs) (hbl:bs.length≤1000) (he:reE l k nm fr cl f a b c bs=0):RegV (reO l k nm fr cl f a b c bs):=by
 obtain ⟨e1,e2⟩:=re_eq h.fp k nm fr cl f a b c bs
 rw [e1] at he
 rw [e2]
 have hs:=set_valid h.fp hb hbl he
 refine ⟨hs.fp,hs.f0,fun r hr=>?_⟩
 rw [hs.fe] at hr
 rcases insQ_mem hr with z | z
 ·rw [z]; exact hn
 ·exact h.fn r z
def qregistryV_s:SpQ
 | [.ptr 0 0,.int .i64 near],[.cells [.sl 1 false xs,.int .i64 i]]=>some (fun K=>(SrcQ xs i∧0≤near∧near≤52595999)∧(∀ (l:List (List AV)) (j:Int),(RegvQ l j)→K (.agg [.sl 3 false l]) [.cells [.sl 1 false xs,.int .i64 j]]))
 | _,_=>none
def qregistryV_T (pdV:Int→Int→Bool→Int→Int→Int→Int→LLR→Bool) (nmOk:ByteArray→Bool) (rgV:LLR→Int) (reE:LLR→Int→ByteArray→Int→Bool→Int→Int→Int→Int→LLR→Int) (reO:LLR→Int→ByteArray→Int→Bool→Int→Int→Int→Int→LLR→LLR) (wiL:LLR→Int→ByteArray→LLR→LLR) (fiK:LLR→ByteArray→Int) (fiN:LLR→ByteArray→ByteArray) (fiP:LLR→ByteArray→LLR) (fiB:LLR→ByteArray→Bool):Prop :=
  ∀ (gl:Glob) (xs:List (List AV)) (i near:Int),SrcQ xs i∧0≤near∧near≤(52595999:Int)→SrcQ xs i∧∀ (v j:Int),NumQ (12:Int) v j→(∃ x,RegvI x∧((0:Nat)=0∧near=near∧(0:Nat)=0∧(0:Nat)=0∧v=x.fst∧True)∧((True∧xs=xs)∧j=x.snd.fst∧True)∧(True∧True)∧(x.snd.snd=[]∧True)∧True)∧∀ (x:Int × Int × LLR),RegvI x→bif decide (0 < x.fst) then SrcQ xs x.snd.fst∧∀ (s:ByteArray) (j:Int),NamQ s
 j→List.Mem s nam6∧SrcQ xs j∧∀ (v j:Int),NumQ (6:Int) v j→bif decide (v=(0:Int)) then (SrcQ xs j∧(1:Int)≤(3:Int)∧(-1000000000:Int)≤(1:Int)∧(3:Int)≤(1000000000:Int))∧∀ (v j:Int),(1≤v∧v≤(3:Int))∧0≤j→(SrcQ xs j∧0≤near∧near≤(52595999:Int))∧∀ (fr:Int) (cl:Bool) (f a b c:Int) (bs:List (List AV)) (j:Int),PrvQ v fr cl f a b c bs j→(StsP x.snd.snd∧RdsP bs)∧bif decide
 (reE x.snd.snd v s fr cl f a b c bs=(0:Int)) then bif decide (rng .i64 (x.fst - (1:Int))) then ∃ y,RegvI y∧(rgv3 xs near).m y < (rgv3 xs near).m x∧((0:Nat)=0∧near=near∧(0:Nat)=0∧(0:Nat)=0∧x.fst - (1:Int)=y.fst∧True)∧((True∧xs=xs)∧j=y.snd.fst∧True)∧(True∧True)∧((True∧reO x.snd.snd v s fr cl f a b c bs=y.snd.snd)∧True)∧True else False else bif decide (rng .i64 (x.fst - (1:Int))) then ∃ y,RegvI
 y∧(rgv3 xs near).m y < (rgv3 xs near).m x∧((0:Nat)=0∧near=near∧(0:Nat)=0∧(0:Nat)=0∧x.fst - (1:Int)=y.fst∧True)∧((True∧xs=xs)∧j=y.snd.fst∧True)∧(True∧True)∧((True∧x.snd.snd=y.snd.snd)∧True)∧True else False else (SrcQ xs j∧0≤near∧near≤(52595999:Int))∧∀ (fr:Int) (cl:Bool) (f a b c:Int) (bs:List (List AV)) (j:Int),PrvQ (byteI s (0:Nat) % (3:Int)+(1:Int)) fr cl f a b c bs j→(StsP
 x.snd.snd∧RdsP bs)∧bif decide (reE x.snd.snd (byteI s (0:Nat) % (3:Int)+(1:Int)) s fr cl f a b c bs=(0:Int)) then bif decide (rng .i64 (x.fst - (1:Int))) then ∃ y,RegvI y∧(rgv3 xs near).m y < (rgv3 xs near).m x∧((0:Nat)=0∧near=near∧(0:Nat)=0∧(0:Nat)=0∧x.fst - (1:Int)=y.fst∧True)∧((True∧xs=xs)∧j=y.snd.fst∧True)∧(True∧True)∧((True∧reO x.snd.snd (byteI s (0:Nat) % (3:Int)+(1:Int)) s fr cl f a b c
 bs=y.snd.snd)∧True)∧True else False else bif decide (rng .i64 (x.fst - (1:Int))) then ∃ y,RegvI y∧(rgv3 xs near).m y < (rgv3 xs near).m x∧((0:Nat)=0∧near=near∧(0:Nat)=0∧(0:Nat)=0∧x.fst - (1:Int)=y.fst∧True)∧((True∧xs=xs)∧j=y.snd.fst∧True)∧(True∧True)∧((True∧x.snd.snd=y.snd.snd)∧True)∧True else False else ∃ l j,RegvQ l j∧((True∧x.snd.snd=l)∧True)∧((True∧xs=xs)∧x.snd.fst=j∧True)∧True
theorem qregistryV_P:qregistryV_T pdV nmOk rgV reE reO wiL fiK fiN fiP fiB:=by
 unfold qregistryV_T
 intro gl xs i near ⟨hs,h1,h2⟩
 have s:=hs.s
 refine ⟨hs,fun v j q1=>⟨⟨(v,j,[]),⟨Int.le_of_lt (q1.fv (by decide)).2,q1.fj,regv_nil⟩,by (repeat' (first | exact trivial | exact rfl | assumption | apply And.intro))⟩,?_⟩⟩
 rintro ⟨n,j,l⟩ ⟨n1,j0,hl⟩
 simp only at n1 j0 hl
 dsimp only
 refine csx (fun hn=>⟨⟨s,j0⟩,fun nm j q2=>⟨q2.fs,⟨s,q2.fj⟩,fun v j q3=>csx (fun _=>⟨⟨⟨s,q3.fj⟩,by decide,by decide,by decide⟩,fun w j q4=>⟨⟨⟨s,q4.2⟩,h1,h2⟩,fun fr cl f a b c bs j q5=>⟨⟨hl.fp,q5.fr⟩,?_⟩⟩⟩) (fun _=>⟨⟨⟨s,q3.fj⟩,h1,h2⟩,fun fr cl f a b c bs j q5=>⟨⟨hl.fp,q5.fr⟩,?_⟩⟩)⟩⟩) (fun hn=>⟨l,j,⟨hl,j0⟩,by (repeat' (first | exact trivial | exact rfl | assumption | apply And.intro))⟩)
 all_goals exact csx (fun he=>cdI (by omega) ⟨(n - 1,_,reO l _ nm fr cl f a b c bs),⟨by simp only; omega,q5.fj,regv_set hl q2.fs q5.fr (Nat.le_trans q5.fl (by decide)) he⟩,by simp only [rgv3]; omega,by (repeat' (first | exact trivial | exact rfl | assumption | apply And.intro))⟩) (fun _=>cdI (by omega) ⟨(n - 1,_,l),⟨by simp only; omega,q5.fj,hl⟩,by simp only [rgv3]; omega,by (repeat' (first | exact trivial | exact rfl | assumption | apply And.intro))⟩)
def qregistryV_S (pdV:Int→Int→Bool→Int→Int→Int→Int→LLR→Bool) (nmOk:ByteArray→Bool) (rgV:LLR→Int) (reE:LLR→Int→ByteArray→Int→Bool→Int→Int→Int→Int→LLR→Int) (reO:LLR→Int→ByteArray→Int→Bool→Int→Int→Int→Int→LLR→LLR) (wiL:LLR→Int→ByteArray→LLR→LLR) (fiK:LLR→ByteArray→Int) (fiN:LLR→ByteArray→ByteArray) (fiP:LLR→ByteArray→LLR) (fiB:LLR→ByteArray→Bool):Prop:=∀ (gl:Glob) (xs:List (List AV)) (i near:Int),SrcQ xs i∧0≤near∧near≤52595999→fnQ Tryz.prog { glob:=gl,spec:=lk [(41,qkinds_s),(34,(rsetF_s pdV nmOk rgV reE reO wiL fiK fiN fiP fiB))],specH:=lk [],specQ:=lk [(37,qn_s),(24,qrange_s),(22,qname_s),(25,qperiodV_s)],nowf:=true } { nt:=41,drop:=drp [(2,6144),(3,8192),(4,98304),(5,393216),(6,1572864),(7,6291456),(8,50331648),(9,137371844608),(10,137438953472),(11,549755813888),(12,1099511627776)],fr:=1000,kp:=[0] } (invs [(3,rgv3 xs near)]) 6 Tryz.f12 [.ptr 0 0,.int .i64 near] [.cells [.sl 1 false xs,.int .i64 i]] (fun r2 bs2=>∃ (l:List (List AV)) (j:Int),(RegvQ l j)∧le r2 (.agg [.sl 3 false l])∧leBs bs2 [.cells [.sl 1 false xs,.int .i64 j]])
theorem qregistryV_e (pdV:Int→Int→Bool→Int→Int→Int→Int→LLR→Bool) (nmOk:ByteArray→Bool) (rgV:LLR→Int) (reE:LLR→Int→ByteArray→Int→Bool→Int→Int→Int→Int→LLR→Int) (reO:LLR→Int→ByteArray→Int→Bool→Int→Int→Int→Int→LLR→LLR) (wiL:LLR→Int→ByteArray→LLR→LLR) (fiK:LLR→ByteArray→Int) (fiN:LLR→ByteArray→ByteArray) (fiP:LLR→ByteArray→LLR) (fiB:LLR→ByteArray→Bool):qregistryV_T pdV nmOk rgV reE reO wiL fiK fiN fiP fiB=qregistryV_S pdV nmOk rgV reE reO wiL fiK fiN fiP fiB:=by kernel_rfl
theorem qregistryV_v:qregistryV_S pdV nmOk rgV reE reO wiL fiK fiN fiP fiB:=Eq.mp (qregistryV_e ..) (qregistryV_P)
theorem qregistryV_ok (gl:Glob):QOK Tryz.prog gl 12 qregistryV_s:=by
 refine ⟨fok Tryz.func12 (by kernel_rfl) (by kernel_rfl),?_⟩
 intro xs bs T h K hT
 unfold qregistryV_s at h
 split at h
 ·simp only [Option.some.injEq] at h
  subst h
  obtain ⟨hp,hK⟩:=hT
  obtain ⟨r,bs2,⟨o0,o1,hq,hl,hb⟩,hC⟩:=fnQ_sound tyNil (by exact specOK rfl rfl ⟨(qkinds_ok gl),(rsetF_ok gl),trivial⟩ trivial (d:=qsOf rfl ⟨(qn_ok gl),(qrange_ok gl),(qname_ok gl),(qperiodV_ok gl),trivial⟩)) (by kernel_rfl) Tryz.func12 (qregistryV_v gl _ _ _ hp)
  exact ⟨_,_,hK o0 o1 hq,hC.le hl hb⟩
 ·cases h
end Go.Proofs.YtldiagnbagpliaaGreatDoor
