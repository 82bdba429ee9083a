import Derived.Test.YtldiagnbagpliaaGreatDoorRQg
import Derived.Test.YtldiagnbagpliaaGreatDoorRQf
import Derived.Deep.RegionLaw
import Derived.Lib.SliceRun
import Derived.Deep.MidRow
import Derived.Test.YtldiagnbagpliaaGreatDoorRQc
import Derived.ProofKit
import Derived.OpenShut
import Derived.ShutString
import Derived.ChangeOld
import Derived.Carry
import Derived.Deep.Slices
import Derived.WideShapes
import Derived.LaidMore
import Derived.SizedLaws
set_option maxRecDepth 100000
namespace Go.Proofs.YtldiagnbagpliaaGreatDoor
open Go
set_option linter.unusedVariables false
set_option linter.unusedSimpArgs false
def btL (l:LLR) (i:Nat) (x:Int):LLR:=(hpl l i x 1501).take x.toNat
structure BntR (l:LLR) (j:Int):Prop where
 fr:StsP l
 fj:0≤j
structure BnoP (l:LLR):Prop where
 fr:StsP l
 fn:∀ i,i < l.length→hoP l i≠[]∧(hoP l i).length≤8
def bt3 (xs l:LLR) (g:Bool) (j:Int) (i:Nat):LInv:=⟨Int,fun x=>⟨[(0,.ptr 0 0),(3,.ptr 1003 0),(4,.ptr 1004 0),(5,.ptr 1005 0),(11,.sl 3 g l),(12,.int .i64 l.length),(13,.int .i64 x)],[(0,.cells [.sl 1 false xs,.int .i64 j]),(1003,.cells [.sl 3 g l]),(1004,.cells [.nils]),(1005,.cells [.rw 1500 3 x.toNat]),(1500,.nrow 59 3 [1501] (btL l i x)),(1501,.row 49 7 (hpP l i x))]⟩,CoI l,fun x=>(l.length - x).toNat,none⟩
def btC (id:Nat) (st:St) (i:Nat):Option (Prop × List Xa × List Xa):=cond (Nat.beq id 7) (match st.get 13 with
 | .int _ n=>some (n=i,[.kil 1501,.ren 1017 1501],[.frz 1017])
 | _=>none) (cond (Nat.beq id 29) (match lk st.heap 1501 with
  | some (.nrow _ _ _ _)=>some (True,[.frz 1114,.cls 1501,.frz 1501,.nlz 1500 7,.cls 1500],[])
  | _=>some (True,[.frz 1501,.nlz 1500 7,.cls 1500],[])) none)
theorem mapLL_take (f:AV→AV) (xs:LLR) (n:Nat):mapLL f (xs.take n)=(mapLL f xs).take n:=by unfold mapLL; rw [List.map_take]
theorem mapLL_app (f:AV→AV) (xs ys:LLR):mapLL f (xs++ys)=mapLL f xs++mapLL f ys:=by unfold mapLL; rw [List.map_append]
theorem btL_len {l:LLR} {i:Nat} {x:Int} (h0:0≤x) (h1:x≤l.length):(btL l i x).length=x.toNat:=by
 unfold btL; rw [List.length_take,hpl_len]; omega
theorem take_snoc {l:LLR} {n:Nat} (h:n < l.length):l.take (n+1)=l.take n++[l.getD n []]:=by
 rw [List.take_add_one,List.getElem?_eq_getElem h,gD_lt h]; rfl
theorem btL_here {l:LLR} (hl:StsP l) {i:Nat} (hi:i < l.length) {k:Int} {nm:ByteArray} {ps:LLR} (hr:l.getD i []=stA k nm ps) :
  mapLL (renA 1017 1501) (mapLL (killA 1501) (btL l i i++[[.int .i64 k,.str nm,.rw 1017 7 ps.length]]))=btL l i (i+1)∧ps=hpP l i (i+1):=by
 have hP:hoP l i=ps:=by unfold hoP; rw [hr]; rfl
 have e1:hpl l i i 1501=l:=if_neg (by omega)
 have e2:hpl l i (i+1) 1501=hol l i 1501:=if_pos (by omega)
 refine ⟨?_,by unfold hpP; rw [if_pos (by omega),hP]⟩
 unfold btL
 rw [e1,e2,show ((i:Int)).toNat=i by omega,show ((i:Int)+1).toNat=i+1 by omega,take_snoc (by rw [hol_len]; exact hi)]
 have t:(hol l i 1501).take i=l.take i:=List.take_set_of_le (Nat.le_refl _)
 have g:(hol l i 1501).getD i []=[.int .i64 k,.str nm,.rw 1501 7 ps.length]:=by unfold hol; rw [setEl_at hi hr,hP]
 rw [t,g,mapLL_app,mapLL_app,mapLL_take,mapLL_take,(flat_kill 1501).st hl,(flat_ren 1017 1501).st hl]
 rfl
theorem btL_else {l:LLR} (hl:StsP l) {i:Nat} {x:Int} (h0:0≤x) (hx:x < l.length) (hn:¬ x=i) {k:Int} {nm:ByteArray} {ps:LLR} (hr:l.getD x.toNat []=stA k nm ps) :
  mapLL (frsA 1017 7 ps) (btL l i x++[[.int .i64 k,.str nm,.rw 1017 7 ps.length]])=btL l i (x+1)∧hpP l i x=hpP l i (x+1):=by
 have e1:hpl l i (x+1) 1501=hpl l i x 1501:=by
  unfold hpl
  by_cases q:(i:Int) < x
  ·rw [if_pos q,if_pos (by omega)]
  ·rw [if_neg q,if_neg (by omega)]
 refine ⟨?_,?_⟩
 ·unfold btL
  rw [e1,show (x+1).toNat=x.toNat+1 by omega,take_snoc (by rw [hpl_len]; omega),hpl_at (by omega),hr,mapLL_app,mapLL_take,(flat_frs _ _ _).hpl hl rfl]
  have e2:frsA 1017 7 ps (.rw 1017 7 ps.length)=.sl 7 false ps:=by simp only [frsA,if_true,true_and]
  congr 1
  show [[AV.int .i64 k,AV.str nm,frsA 1017 7 ps (.rw 1017 7 ps.length)]]=_
  rw [e2]; rfl
 ·unfold hpP
  by_cases q:(i:Int) < x
  ·rw [if_pos q,if_pos (by omega)]
  ·rw [if_neg q,if_neg (by omega)]
structure HolF (l H:LLR) (i:Nat) (k:Int) (nm:ByteArray) (ps:LLR):Prop where
 hl:StsP l
 hn:H.length=l.length
 hi:i < l.length
 ha:H.getD i []=[.int .i64 k,.str nm,.rw 1501 7 ps.length]
 ho:∀ q,q≠i→H.getD q []=l.getD q []
 hp:PdsP ps
theorem holF {l:LLR} (hl:StsP l) {i:Nat} (hi:i < l.length):∃ (k:Int) (nm:ByteArray) (ps:LLR),btL l i l.length=btL l i l.length∧hpP l i l.length=ps∧hoP l i=ps∧HolF l (btL l i l.length) i k nm ps:=by
 obtain ⟨k,nm,ps,hr,hp⟩:=hl.fr i hi
 have hP:hoP l i=ps:=by unfold hoP; rw [hr]; rfl
 have e2:hpl l i l.length 1501=hol l i 1501:=if_pos (by omega)
 have e3:btL l i l.length=hol l i 1501:=by
  unfold btL; rw [e2,show ((l.length:Int)).toNat=l.length by omega,List.take_of_length_le (by rw [hol_len]; exact Nat.le_refl _)]
 refine ⟨k,nm,ps,rfl,by unfold hpP; rw [if_pos (by omega),hP],hP,?_⟩
 rw [e3]
 exact ⟨hl,hol_len _ _ _,hi,by unfold hol; rw [setEl_at hi hr,hP],fun q hq=>by unfold hol; rw [setEl_get,if_neg (fun z=>hq z.1)],hp⟩
theorem bt_sts {l M:LLR} {i:Nat} {k':Int} {nm':ByteArray} {X:AV} {Z:LLR} (hl:StsP l) (hZ:PdsP Z) (e1:M.length=l.length) (e2:∀ q,q≠i→M.getD q []=l.getD q []) (e3:M.getD i []=[.int .i64 k',.str nm',X]) (hX:X=.rw 1501 7 Z.length∨X=.nils) :
  StsP (mapLL (nlA 7) (mapLL (frsA 1501 7 Z) M))∧l.length=(mapLL (nlA 7) (mapLL (frsA 1501 7 Z) M)).length:=by
 refine ⟨⟨fun q hq=>?_,by rw [mapLL_len,mapLL_len,e1]; exact hl.fs⟩,by rw [mapLL_len,mapLL_len,e1]⟩
 rw [mapLL_len,mapLL_len,e1] at hq
 rw [mapLL_get,mapLL_get]
 by_cases e:q=i
 ·subst e
  rw [e3]
  rcases hX with rfl | rfl
  ·refine ⟨k',nm',Z,?_,hZ⟩
   have e4:frsA 1501 7 Z (.rw 1501 7 Z.length)=.sl 7 false Z:=by simp only [frsA,if_true,true_and]
   show [AV.int .i64 k',AV.str nm',nlA 7 (frsA 1501 7 Z (.rw 1501 7 Z.length))]=_
   rw [e4]; rfl
  ·exact ⟨k',nm',[],rfl,⟨fun j hj=>by simp at hj,by simp⟩⟩
 ·obtain ⟨k,nm,ps,hr,hp⟩:=hl.fr q hq
  rw [e2 q e,hr]
  exact ⟨k,nm,ps,rfl,hp⟩
theorem HolF.cell {l H:LLR} {i:Nat} {k:Int} {nm:ByteArray} {ps:LLR} (h:HolF l H i k nm ps) {fo:Nat} {ys:List AV} {k':Int} {nm':ByteArray} {X:AV} {Z:LLR} (hZ:PdsP Z) (hs:spl [.int .i64 k,.str nm,.rw 1501 7 ps.length] fo ys=[.int .i64 k',.str nm',X]) (hX:X=.rw 1501 7 Z.length∨X=.nils) :
  StsP (mapLL (nlA 7) (mapLL (frsA 1501 7 Z) (setEl H i fo ys)))∧l.length=(mapLL (nlA 7) (mapLL (frsA 1501 7 Z) (setEl H i fo ys))).length :=
 bt_sts h.hl hZ (by rw [setEl_len,h.hn]) (fun q hq=>by rw [setEl_get,if_neg (fun z=>hq z.1),h.ho q hq]) (by rw [setEl_get,if_pos ⟨rfl,by rw [h.hn]; exact h.hi⟩,h.ha,hs]) hX
theorem HolF.keep {l H:LLR} {i:Nat} {k:Int} {nm:ByteArray} {ps:LLR} (h:HolF l H i k nm ps) {Z:LLR} (hZ:PdsP Z) (hz:ps.length=Z.length):StsP (mapLL (nlA 7) (mapLL (frsA 1501 7 Z) H))∧l.length=(mapLL (nlA 7) (mapLL (frsA 1501 7 Z) H)).length :=
 bt_sts h.hl hZ h.hn h.ho h.ha (.inl (by rw [hz]))
theorem pds_cell {ps:LLR} (hp:PdsP ps) {p fo:Nat} {ys:List AV} (hs:p < ps.length→∀ (fr:Int) (cl:Bool) (f a b c:Int) (bs:LLR),RdsP bs∧bs.length≤1000→∃ (fr':Int) (cl':Bool) (f' a' b' c':Int) (bs':LLR),spl (pdA fr cl f a b c bs) fo ys=pdA fr' cl' f' a' b' c' bs'∧RdsP bs'∧bs'.length≤1000):PdsP (setEl ps p fo ys)∧ps.length=(setEl ps p fo ys).length:=by
 refine ⟨⟨fun q hq=>?_,by rw [setEl_len]; exact hp.fs⟩,(setEl_len _ _ _ _).symm⟩
 rw [setEl_len] at hq
 obtain ⟨fr,cl,f,a,b,c,bs,hr,hb⟩:=hp.fr q hq
 rw [setEl_get]
 split
 ·rename_i z
  obtain ⟨rfl,hz⟩:=z
  rw [hr]; exact hs hz _ _ _ _ _ _ _ hb
 ·exact ⟨fr,cl,f,a,b,c,bs,hr,hb⟩
theorem pd_nm {ps:LLR} (hp:PdsP ps):NmIn [] ps:=by
 intro j i x y hx hy k hk
 have hj:j < ps.length:=(List.getElem?_eq_some_iff.1 hx).1
 obtain ⟨fr,cl,f,a,b,c,bs,hr,_⟩:=hp.fr j hj
 have e:x=pdA fr cl f a b c bs:=by rw [← hr,List.getD_eq_getElem?_getD,hx]; rfl
 subst e
 have hi:i < 7:=by have:=(List.getElem?_eq_some_iff.1 hy).1; simpa [pdA] using this
 have hall:∀ z ∈ pdA fr cl f a b c bs,nn k z=true:=by
  intro z hz
  simp only [pdA,List.mem_cons,List.not_mem_nil,or_false] at hz
  rcases hz with rfl | rfl | rfl | rfl | rfl | rfl | rfl <;> rfl
 rw [hall y (List.mem_iff_getElem?.2 ⟨i,hy⟩)] at hk
 cases hk
theorem pds_bias {ps:LLR} (hp:PdsP ps) {p:Nat} {B:LLR} (hB:RdsP B∧B.length≤1000) (h1:B.length=1):PdsP (mapLL (frsA 1114 2 B) (setEl ps p 6 [.rw 1114 2 1]))∧ps.length=(mapLL (frsA 1114 2 B) (setEl ps p 6 [.rw 1114 2 1])).length:=by
 refine ⟨⟨fun q hq=>?_,by rw [mapLL_len,setEl_len]; exact hp.fs⟩,by rw [mapLL_len,setEl_len]⟩
 rw [mapLL_len,setEl_len] at hq
 obtain ⟨fr,cl,f,a,b,c,bs,hr,hb⟩:=hp.fr q hq
 rw [mapLL_get,setEl_get]
 split
 ·rename_i z
  obtain ⟨rfl,hz⟩:=z
  rw [hr]
  refine ⟨fr,cl,f,a,b,c,B,?_,hB⟩
  have e4:frsA 1114 2 B (.rw 1114 2 1)=.sl 2 false B:=by simp only [frsA,if_true,h1,true_and]
  show [AV.int .i64 fr,AV.bool cl,AV.int .i64 f,AV.int .i64 a,AV.int .i64 b,AV.int .i64 c,frsA 1114 2 B (.rw 1114 2 1)]=_
  rw [e4]; rfl
 ·rw [hr]
  exact ⟨fr,cl,f,a,b,c,bs,rfl,hb⟩
theorem bt_done {xs E:LLR} {X:Nat} {j:Int} {R:Prop} (hl:X=E.length) (hE:StsP E) (hj:0≤j):(True→bif decide (X=E.length) then ∃ q j2,BntR q j2∧((True∧E=q)∧True)∧((True∧xs=xs)∧j=j2∧True)∧True else False)∧(¬ True→R) :=
 ⟨fun _=>cd1 hl ⟨E,j,⟨hE,hj⟩,⟨⟨trivial,rfl⟩,trivial⟩,⟨⟨trivial,rfl⟩,rfl,trivial⟩,trivial⟩,fun z=>absurd trivial z⟩
def rbent_s:SpQ
 | [.ptr 0 0,.agg [.sl 3 g l]],[.cells [.sl 1 false xs,.int .i64 j]]=>some (fun K=>(SrcQ xs j∧BnoP l)∧(∀ (q:List (List AV)) (j2:Int),(BntR q j2)→K (.agg [.sl 3 false q]) [.cells [.sl 1 false xs,.int .i64 j2]]))
 | _,_=>none
def rbent_T:Prop :=
  ∀ (gl:Glob) (xs:List (List AV)) (j:Int) (g:Bool) (l:List (List AV)),SrcQ xs j∧BnoP l→(∀ (j i:Nat) (x:List AV) (y:AV),[][j]?=some x→x[i]?=some y→∀ (k:Nat),nn k y=false→inL k []=true)∧(∃ x,CoI l x∧((0:Nat)=0∧(0:Nat)=0∧(0:Nat)=0∧(0:Nat)=0∧((bif g then g=true else True)∧l=l)∧(↑l.length:Int)=(↑l.length:Int)∧(0:Int)=x∧True)∧((True∧xs=xs)∧j=j∧True)∧(((bif g then g=true else
 True)∧l=l)∧True)∧(True∧True)∧((0:Nat)=Int.toNat x∧True)∧[]=btL l (srcN xs j (↑l.length:Int)).toNat x∧[]=hpP l (srcN xs j (↑l.length:Int)).toNat x∧True)∧∀ (x:Int),CoI l x→bif decide (x < (↑l.length:Int)) then bif decide (0≤x∧x < (↑l.length:Int)) then ∃ n s xs_1,List.take [AV.int .i64 n,.str s,.sl (7:Nat) false xs_1].length (l.getD x.toNat [])=[AV.int .i64 n,.str s,.sl (7:Nat) false xs_1]∧bif
 decide ((0:Nat)=0∧(0:Nat)+xs_1.length≤(9223372036854775807:Nat)∧((0:Nat)+xs_1.length)*(72:Nat)≤(140737488355328:Nat)) then bif decide (x.toNat=List.length (btL l (srcN xs j (↑l.length:Int)).toNat x)∧List.length (btL l (srcN xs j (↑l.length:Int)).toNat x)+[[AV.int .i64 n,.str s,.rw (1017:Nat) (7:Nat) ([]++xs_1).length]].length≤(9223372036854775807:Nat)∧(List.length (btL l (srcN xs j
 (↑l.length:Int)).toNat x)+[[AV.int .i64 n,.str s,.rw (1017:Nat) (7:Nat) ([]++xs_1).length]].length)*(48:Nat)≤(140737488355328:Nat)) then (x=(↑(srcN xs j (↑l.length:Int)).toNat:Int)→bif decide (rng .i64 (x+(1:Int))) then ∃ y,CoI l y∧(bt3 xs l g j (srcN xs j (↑l.length:Int)).toNat).m y < (bt3 xs l g j (srcN xs j (↑l.length:Int)).toNat).m x∧((0:Nat)=0∧(0:Nat)=0∧(0:Nat)=0∧(0:Nat)=0∧((bif g
 then g=true else True)∧l=l)∧(↑l.length:Int)=(↑l.length:Int)∧x+(1:Int)=y∧True)∧((True∧xs=xs)∧j=j∧True)∧(((bif g then g=true else True)∧l=l)∧True)∧(True∧True)∧((btL l (srcN xs j (↑l.length:Int)).toNat x++[[AV.int .i64 n,.str s,.rw (1017:Nat) (7:Nat) ([]++xs_1).length]]).length=Int.toNat y∧True)∧mapLL (renA (1017:Nat) (1501:Nat)) (mapLL (killA (1501:Nat)) (btL l (srcN xs j (↑l.length:Int)).toNat
 x++[[AV.int .i64 n,.str s,.rw (1017:Nat) (7:Nat) ([]++xs_1).length]]))=btL l (srcN xs j (↑l.length:Int)).toNat y∧[]++xs_1=hpP l (srcN xs j (↑l.length:Int)).toNat y∧True else False)∧(¬x=(↑(srcN xs j (↑l.length:Int)).toNat:Int)→bif decide (rng .i64 (x+(1:Int))) then ∃ y,CoI l y∧(bt3 xs l g j (srcN xs j (↑l.length:Int)).toNat).m y < (bt3 xs l g j (srcN xs j (↑l.length:Int)).toNat).m
 x∧((0:Nat)=0∧(0:Nat)=0∧(0:Nat)=0∧(0:Nat)=0∧((bif g then g=true else True)∧l=l)∧(↑l.length:Int)=(↑l.length:Int)∧x+(1:Int)=y∧True)∧((True∧xs=xs)∧j=j∧True)∧(((bif g then g=true else True)∧l=l)∧True)∧(True∧True)∧((btL l (srcN xs j (↑l.length:Int)).toNat x++[[AV.int .i64 n,.str s,.rw (1017:Nat) (7:Nat) ([]++xs_1).length]]).length=Int.toNat y∧True)∧mapLL (frsA (1017:Nat) (7:Nat) ([]++xs_1)) (btL
 l (srcN xs j (↑l.length:Int)).toNat x++[[AV.int .i64 n,.str s,.rw (1017:Nat) (7:Nat) ([]++xs_1).length]])=btL l (srcN xs j (↑l.length:Int)).toNat y∧hpP l (srcN xs j (↑l.length:Int)).toNat x=hpP l (srcN xs j (↑l.length:Int)).toNat y∧True else False) else False else False else False else bif decide ((↑x.toNat:Int)=(0:Int)) then bif decide (x.toNat=(mapLL (killA (1501:Nat)) (btL l (srcN xs j
 (↑l.length:Int)).toNat x)).length∧(mapLL (killA (1501:Nat)) (btL l (srcN xs j (↑l.length:Int)).toNat x)).length+(1:Nat)≤(9223372036854775807:Nat)∧((mapLL (killA (1501:Nat)) (btL l (srcN xs j (↑l.length:Int)).toNat x)).length+(1:Nat))*(48:Nat)≤(140737488355328:Nat)) then bif decide ((mapLL (killA (1501:Nat)) (btL l (srcN xs j (↑l.length:Int)).toNat x)++[[AV.int .i64 (1:Int),.str { data
:=#[(65:UInt8),(76:UInt8),(80:UInt8),(72:UInt8),(65:UInt8)] },.sl (7:Nat) false []]]).length=(mapLL (killA (1501:Nat)) (btL l (srcN xs j (↑l.length:Int)).toNat x)++[[AV.int .i64 (1:Int),.str { data:=#[(65:UInt8),(76:UInt8),(80:UInt8),(72:UInt8),(65:UInt8)] },.sl (7:Nat) false []]]).length) then ∃ q j2,BntR q j2∧((True∧mapLL (killA (1501:Nat)) (btL l (srcN xs j
 (↑l.length:Int)).toNat x)++[[AV.int .i64 (1:Int),.str { data:=#[(65:UInt8),(76:UInt8),(80:UInt8),(72:UInt8),(65:UInt8)] },.sl (7:Nat) false []]]=q)∧True)∧((True∧xs=xs)∧j=j2∧True)∧True else False else False else (SrcI xs∧0≤j)∧bif decide (0≤srcN xs j (↑x.toNat:Int)∧srcN xs j (↑x.toNat:Int) < (↑x.toNat:Int)) then bif decide (x.toNat=List.length (btL l (srcN xs j
 (↑l.length:Int)).toNat x)∧(srcN xs j (↑x.toNat:Int)).toNat < List.length (btL l (srcN xs j (↑l.length:Int)).toNat x)) then ∃ n,List.take [AV.rw (1501:Nat) (7:Nat) n].length (List.drop (2:Nat) (List.getD (btL l (srcN xs j (↑l.length:Int)).toNat x) (srcN xs j (↑x.toNat:Int)).toNat []))=[AV.rw (1501:Nat) (7:Nat) n]∧bif decide (x.toNat=List.length (btL l (srcN xs j (↑l.length:Int)).toNat x)∧(srcN xs j
 (↑x.toNat:Int)).toNat < List.length (btL l (srcN xs j (↑l.length:Int)).toNat x)) then ∃ n_1,List.take [AV.rw (1501:Nat) (7:Nat) n_1].length (List.drop (2:Nat) (List.getD (btL l (srcN xs j (↑l.length:Int)).toNat x) (srcN xs j (↑x.toNat:Int)).toNat []))=[AV.rw (1501:Nat) (7:Nat) n_1]∧(SrcI xs∧0≤rawA xs j)∧bif decide (0≤srcN xs (rawA xs j) (↑n_1:Int)∧srcN xs (rawA xs j) (↑n_1:Int) <
 (↑n:Int)) then (SrcI xs∧0≤rawA xs (rawA xs j))∧bif decide (srcN xs (rawA xs (rawA xs j)) (8:Int)=0) then (SrcQ xs (rawA xs (rawA xs (rawA xs j)))∧(-1:Int)≤(4:Int)∧(-1000000000:Int)≤(-1:Int)∧(4:Int)≤(1000000000:Int))∧∀ (v j_1:Int),((-1:Int)≤v∧v≤(4:Int))∧0≤j_1→bif decide (x.toNat=List.length (btL l (srcN xs j (↑l.length:Int)).toNat x)∧(srcN xs j (↑x.toNat:Int)).toNat <
 List.length (btL l (srcN xs j (↑l.length:Int)).toNat x)) then (True→bif decide (x.toNat=(mapLL (nlA (7:Nat)) (mapLL (frsA (1501:Nat) (7:Nat) (hpP l (srcN xs j (↑l.length:Int)).toNat x)) (setEl (btL l (srcN xs j (↑l.length:Int)).toNat x) (srcN xs j (↑x.toNat:Int)).toNat (0:Nat) [AV.int .i64 v]))).length) then ∃ q j2,BntR q j2∧((True∧mapLL (nlA (7:Nat)) (mapLL (frsA (1501:Nat) (7:Nat) (hpP l (srcN xs
 j (↑l.length:Int)).toNat x)) (setEl (btL l (srcN xs j (↑l.length:Int)).toNat x) (srcN xs j (↑x.toNat:Int)).toNat (0:Nat) [AV.int .i64 v]))=q)∧True)∧((True∧xs=xs)∧j_1=j2∧True)∧True else False)∧(¬True→∃ q j2,BntR q j2∧(False∧True)∧((True∧xs=xs)∧j_1=j2∧True)∧False) else False else bif decide (srcN xs (rawA xs (rawA xs j)) (8:Int)=1) then (SrcQ xs (rawA xs (rawA xs (rawA xs j)))∧((4:Nat)=4∧(1:Nat) ≤
 (4:Nat)∧(4:Nat)≤(1000:Nat))∧StrsA [[AV.str { data:=#[] }],[AV.str { data:=#[(90:UInt8),(90:UInt8),(90:UInt8),(90:UInt8),(90:UInt8)] }],[AV.str { data:=#[(65:UInt8),(65:UInt8),(65:UInt8),(65:UInt8),(65:UInt8)] }],[AV.str { data:=#[(97:UInt8),(108:UInt8),(112:UInt8),(104:UInt8),(97:UInt8)] }]])∧∀ (v:ByteArray) (j_1:Int),PickQ [[AV.str (⟨#[]⟩ :
 ByteArray)],[AV.str { data:=#[(90:UInt8),(90:UInt8),(90:UInt8),(90:UInt8),(90:UInt8)] }],[AV.str { data:=#[(65:UInt8),(65:UInt8),(65:UInt8),(65:UInt8),(65:UInt8)] }],[AV.str { data:=#[(97:UInt8),(108:UInt8),(112:UInt8),(104:UInt8),(97:UInt8)] }]] (AV.str v) j_1→bif decide (x.toNat=List.length (btL l (srcN xs j (↑l.length:Int)).toNat x)∧(srcN xs j
 (↑x.toNat:Int)).toNat < List.length (btL l (srcN xs j (↑l.length:Int)).toNat x)) then (True→bif decide (x.toNat=(mapLL (nlA (7:Nat)) (mapLL (frsA (1501:Nat) (7:Nat) (hpP l (srcN xs j (↑l.length:Int)).toNat x)) (setEl (btL l (srcN xs j (↑l.length:Int)).toNat x) (srcN xs j (↑x.toNat:Int)).toNat (1:Nat) [AV.str v]))).length) then ∃ q j2,BntR q j2∧((True∧mapLL (nlA (7:Nat)) (mapLL (frsA (1501:Nat)
 (7:Nat) (hpP l (srcN xs j (↑l.length:Int)).toNat x)) (setEl (btL l (srcN xs j (↑l.length:Int)).toNat x) (srcN xs j (↑x.toNat:Int)).toNat (1:Nat) [AV.str v]))=q)∧True)∧((True∧xs=xs)∧j_1=j2∧True)∧True else False)∧(¬True→∃ q j2,BntR q j2∧(False∧True)∧((True∧xs=xs)∧j_1=j2∧True)∧False) else False else bif decide (srcN xs (rawA xs (rawA xs j)) (8:Int)=2) then (SrcQ xs (rawA xs (rawA xs (rawA xs
 j)))∧((4:Nat)=4∧(1:Nat)≤(4:Nat)∧(4:Nat)≤(1000:Nat))∧IntsB [[AV.int .i64 (-1:Int)],[AV.int .i64 (0:Int)],[AV.int .i64 (52595999:Int)],[AV.int .i64 (52596000:Int)]])∧∀ (v j_1:Int),PickQ [[AV.int .i64 (-1:Int)],[AV.int .i64 (0:Int)],[AV.int .i64 (52595999:Int)],[AV.int .i64 (52596000:Int)]] (AV.int .i64 v) j_1→bif decide (n=List.length (hpP l (srcN xs j (↑l.length:Int)).toNat x)∧(srcN xs (rawA xs
 j) (↑n_1:Int)).toNat < List.length (hpP l (srcN xs j (↑l.length:Int)).toNat x)) then (True→bif decide (x.toNat=(mapLL (nlA (7:Nat)) (mapLL (frsA (1501:Nat) (7:Nat) (setEl (hpP l (srcN xs j (↑l.length:Int)).toNat x) (srcN xs (rawA xs j) (↑n_1:Int)).toNat (0:Nat) [AV.int .i64 v])) (btL l (srcN xs j (↑l.length:Int)).toNat x))).length) then ∃ q j2,BntR q j2∧((True∧mapLL (nlA (7:Nat)) (mapLL (frsA
 (1501:Nat) (7:Nat) (setEl (hpP l (srcN xs j (↑l.length:Int)).toNat x) (srcN xs (rawA xs j) (↑n_1:Int)).toNat (0:Nat) [AV.int .i64 v])) (btL l (srcN xs j (↑l.length:Int)).toNat x))=q)∧True)∧((True∧xs=xs)∧j_1=j2∧True)∧True else False)∧(¬True→∃ q j2,BntR q j2∧(False∧True)∧((True∧xs=xs)∧j_1=j2∧True)∧False) else False else bif decide (srcN xs (rawA xs (rawA xs j)) (8:Int)=3) then bif decide
 (n=List.length (hpP l (srcN xs j (↑l.length:Int)).toNat x)∧(srcN xs (rawA xs j) (↑n_1:Int)).toNat < List.length (hpP l (srcN xs j (↑l.length:Int)).toNat x)) then ∃ b,List.take [AV.bool b].length (List.drop (1:Nat) (List.getD (hpP l (srcN xs j (↑l.length:Int)).toNat x) (srcN xs (rawA xs j) (↑n_1:Int)).toNat []))=[AV.bool b]∧bif decide (n=List.length (hpP l (srcN xs j (↑l.length:Int)).toNat x)∧(srcN
 xs (rawA xs j) (↑n_1:Int)).toNat < List.length (hpP l (srcN xs j (↑l.length:Int)).toNat x)) then (True→bif decide (x.toNat=(mapLL (nlA (7:Nat)) (mapLL (frsA (1501:Nat) (7:Nat) (setEl (hpP l (srcN xs j (↑l.length:Int)).toNat x) (srcN xs (rawA xs j) (↑n_1:Int)).toNat (1:Nat) [AV.bool !b])) (btL l (srcN xs j (↑l.length:Int)).toNat x))).length) then ∃ q j2,BntR q j2∧((True∧mapLL (nlA (7:Nat)) (mapLL
 (frsA (1501:Nat) (7:Nat) (setEl (hpP l (srcN xs j (↑l.length:Int)).toNat x) (srcN xs (rawA xs j) (↑n_1:Int)).toNat (1:Nat) [AV.bool !b])) (btL l (srcN xs j (↑l.length:Int)).toNat x))=q)∧True)∧((True∧xs=xs)∧rawA xs (rawA xs (rawA xs j))=j2∧True)∧True else False)∧(¬True→∃ q j2,BntR q j2∧(False∧True)∧((True∧xs=xs)∧rawA xs (rawA xs (rawA xs j))=j2∧True)∧False) else False else False else bif decide
 (srcN xs (rawA xs (rawA xs j)) (8:Int)=4) then SrcQ xs (rawA xs (rawA xs (rawA xs j)))∧∀ (f a b c j_1:Int),PlaQ f a b c j_1→bif decide (n=List.length (hpP l (srcN xs j (↑l.length:Int)).toNat x)∧(srcN xs (rawA xs j) (↑n_1:Int)).toNat < List.length (hpP l (srcN xs j (↑l.length:Int)).toNat x)) then (True→bif decide (x.toNat=(mapLL (nlA (7:Nat)) (mapLL (frsA (1501:Nat) (7:Nat) (setEl (hpP l (srcN xs j
 (↑l.length:Int)).toNat x) (srcN xs (rawA xs j) (↑n_1:Int)).toNat (2:Nat) [AV.int .i64 f,.int .i64 a,.int .i64 b,.int .i64 c])) (btL l (srcN xs j (↑l.length:Int)).toNat x))).length) then ∃ q j2,BntR q j2∧((True∧mapLL (nlA (7:Nat)) (mapLL (frsA (1501:Nat) (7:Nat) (setEl (hpP l (srcN xs j (↑l.length:Int)).toNat x) (srcN xs (rawA xs j) (↑n_1:Int)).toNat (2:Nat) [AV.int .i64 f,.int .i64 a,.int .i64
 b,.int .i64 c])) (btL l (srcN xs j (↑l.length:Int)).toNat x))=q)∧True)∧((True∧xs=xs)∧j_1=j2∧True)∧True else False)∧(¬True→∃ q j2,BntR q j2∧(False∧True)∧((True∧xs=xs)∧j_1=j2∧True)∧False) else False else bif decide (srcN xs (rawA xs (rawA xs j)) (8:Int)=5) then (∀ (j_1 i:Nat) (x_1:List AV) (y:AV),(hpP l (srcN xs j (↑l.length:Int)).toNat x)[j_1]?=some x_1→x_1[i]?=some y→∀ (k:Nat),nn k y=false→inL
 k []=true)∧(SrcQ xs (rawA xs (rawA xs (rawA xs j)))∧(0:Int)≤(12:Int)∧(-1000000000:Int)≤(0:Int)∧(12:Int)≤(1000000000:Int))∧∀ (v j_1:Int),(0≤v∧v≤(12:Int))∧0≤j_1→(SrcQ xs j_1∧((3:Nat)=3∧(1:Nat)≤(3:Nat)∧(3:Nat)≤(1000:Nat))∧IntsB [[AV.int .i64 (-1001:Int)],[AV.int .i64 (0:Int)],[AV.int .i64 (1001:Int)]])∧∀ (v_1 j_2:Int),PickQ [[AV.int .i64 (-1001:Int)],[AV.int .i64
 (0:Int)],[AV.int .i64 (1001:Int)]] (AV.int .i64 v_1) j_2→bif decide (n=List.length (hpP l (srcN xs j (↑l.length:Int)).toNat x)∧(srcN xs (rawA xs j) (↑n_1:Int)).toNat < List.length (hpP l (srcN xs j (↑l.length:Int)).toNat x)) then (True→bif decide (x.toNat=(mapLL (nlA (7:Nat)) (mapLL (frsA (1501:Nat) (7:Nat) (mapLL (frsA (1114:Nat) (2:Nat) [[AV.int .i64 v,.int .i64 v_1]]) (setEl (hpP l (srcN xs j
 (↑l.length:Int)).toNat x) (srcN xs (rawA xs j) (↑n_1:Int)).toNat (6:Nat) [AV.rw (1114:Nat) (2:Nat) (1:Nat)]))) (btL l (srcN xs j (↑l.length:Int)).toNat x))).length) then ∃ q j2,BntR q j2∧((True∧mapLL (nlA (7:Nat)) (mapLL (frsA (1501:Nat) (7:Nat) (mapLL (frsA (1114:Nat) (2:Nat) [[AV.int .i64 v,.int .i64 v_1]]) (setEl (hpP l (srcN xs j (↑l.length:Int)).toNat x) (srcN xs (rawA xs j) (↑n_1:Int)).toNat
 (6:Nat) [AV.rw (1114:Nat) (2:Nat) (1:Nat)]))) (btL l (srcN xs j (↑l.length:Int)).toNat x))=q)∧True)∧((True∧xs=xs)∧j_2=j2∧True)∧True else False)∧(¬True→∃ q j2,BntR q j2∧(False∧True)∧((True∧xs=xs)∧j_2=j2∧True)∧False) else False else bif decide (srcN xs (rawA xs (rawA xs j)) (8:Int)=6) then bif decide (x.toNat=List.length (btL l (srcN xs j (↑l.length:Int)).toNat x)∧(srcN xs j (↑x.toNat:Int)).toNat <
 List.length (btL l (srcN xs j (↑l.length:Int)).toNat x)) then ∃ n,List.take [AV.rw (1501:Nat) (7:Nat) n].length (List.drop (2:Nat) (List.getD (btL l (srcN xs j (↑l.length:Int)).toNat x) (srcN xs j (↑x.toNat:Int)).toNat []))=[AV.rw (1501:Nat) (7:Nat) n]∧bif decide (x.toNat=List.length (btL l (srcN xs j (↑l.length:Int)).toNat x)∧(srcN xs j (↑x.toNat:Int)).toNat < List.length (btL l (srcN xs j
 (↑l.length:Int)).toNat x)) then ∃ n_2,List.take [AV.rw (1501:Nat) (7:Nat) n_2].length (List.drop (2:Nat) (List.getD (btL l (srcN xs j (↑l.length:Int)).toNat x) (srcN xs j (↑x.toNat:Int)).toNat []))=[AV.rw (1501:Nat) (7:Nat) n_2]∧bif decide ((0:Int)≤(0:Int)∧(0:Int) < (↑n_2:Int)) then bif decide (n_2=List.length (hpP l (srcN xs j (↑l.length:Int)).toNat x)∧0 < List.length (hpP l (srcN xs j
 (↑l.length:Int)).toNat x)) then ∃ n_3 b n_4 n_5 n_6 n_7 xs_1,List.take [AV.int .i64 n_3,.bool b,.int .i64 n_4,.int .i64 n_5,.int .i64 n_6,.int .i64 n_7,.sl (2:Nat) false xs_1].length (List.drop (0:Nat) (List.getD (hpP l (srcN xs j (↑l.length:Int)).toNat x) (0:Nat) []))=[AV.int .i64 n_3,.bool b,.int .i64 n_4,.int .i64 n_5,.int .i64 n_6,.int .i64 n_7,.sl (2:Nat) false xs_1]∧bif decide (n=List.length
 (hpP l (srcN xs j (↑l.length:Int)).toNat x)∧List.length (hpP l (srcN xs j (↑l.length:Int)).toNat x)+[[AV.int .i64 n_3,.bool b,.int .i64 n_4,.int .i64 n_5,.int .i64 n_6,.int .i64 n_7,.sl (2:Nat) false xs_1]].length≤(9223372036854775807:Nat)∧(List.length (hpP l (srcN xs j (↑l.length:Int)).toNat x)+[[AV.int .i64 n_3,.bool b,.int .i64 n_4,.int .i64 n_5,.int .i64 n_6,.int .i64 n_7,.sl (2:Nat)
 false xs_1]].length)*(72:Nat)≤(140737488355328:Nat)) then bif decide (x.toNat=List.length (btL l (srcN xs j (↑l.length:Int)).toNat x)∧(srcN xs j (↑x.toNat:Int)).toNat < List.length (btL l (srcN xs j (↑l.length:Int)).toNat x)) then (True→bif decide (x.toNat=(mapLL (nlA (7:Nat)) (mapLL (frsA (1501:Nat) (7:Nat) (hpP l (srcN xs j (↑l.length:Int)).toNat x++[[AV.int .i64 n_3,.bool b,.int .i64
 n_4,.int .i64 n_5,.int .i64 n_6,.int .i64 n_7,.sl (2:Nat) false xs_1]])) (setEl (btL l (srcN xs j (↑l.length:Int)).toNat x) (srcN xs j (↑x.toNat:Int)).toNat (2:Nat) [AV.rw (1501:Nat) (7:Nat) (hpP l (srcN xs j (↑l.length:Int)).toNat x++[[AV.int .i64 n_3,.bool b,.int .i64 n_4,.int .i64 n_5,.int .i64 n_6,.int .i64 n_7,.sl (2:Nat) false xs_1]]).length]))).length) then ∃ q j2,BntR q j2∧((True∧mapLL
 (nlA (7:Nat)) (mapLL (frsA (1501:Nat) (7:Nat) (hpP l (srcN xs j (↑l.length:Int)).toNat x++[[AV.int .i64 n_3,.bool b,.int .i64 n_4,.int .i64 n_5,.int .i64 n_6,.int .i64 n_7,.sl (2:Nat) false xs_1]])) (setEl (btL l (srcN xs j (↑l.length:Int)).toNat x) (srcN xs j (↑x.toNat:Int)).toNat (2:Nat) [AV.rw (1501:Nat) (7:Nat) (hpP l (srcN xs j (↑l.length:Int)).toNat x++[[AV.int .i64 n_3,.bool b,.int .i64
 n_4,.int .i64 n_5,.int .i64 n_6,.int .i64 n_7,.sl (2:Nat) false xs_1]]).length]))=q)∧True)∧((True∧xs=xs)∧rawA xs (rawA xs (rawA xs j))=j2∧True)∧True else False)∧(¬True→∃ q j2,BntR q j2∧(False∧True)∧((True∧xs=xs)∧rawA xs (rawA xs (rawA xs j))=j2∧True)∧False) else False else False else False else False else False else False else bif decide (x.toNat=List.length (btL l (srcN xs j (↑l.length:Int)).toNat
 x)∧(srcN xs j (↑x.toNat:Int)).toNat < List.length (btL l (srcN xs j (↑l.length:Int)).toNat x)) then (True→bif decide (x.toNat=(mapLL (nlA (7:Nat)) (mapLL (frsA (1501:Nat) (7:Nat) (hpP l (srcN xs j (↑l.length:Int)).toNat x)) (setEl (btL l (srcN xs j (↑l.length:Int)).toNat x) (srcN xs j (↑x.toNat:Int)).toNat (2:Nat) [AV.nils]))).length) then ∃ q j2,BntR q j2∧((True∧mapLL (nlA (7:Nat)) (mapLL (frsA
 (1501:Nat) (7:Nat) (hpP l (srcN xs j (↑l.length:Int)).toNat x)) (setEl (btL l (srcN xs j (↑l.length:Int)).toNat x) (srcN xs j (↑x.toNat:Int)).toNat (2:Nat) [AV.nils]))=q)∧True)∧((True∧xs=xs)∧rawA xs (rawA xs (rawA xs j))=j2∧True)∧True else False)∧(¬True→∃ q j2,BntR q j2∧(False∧True)∧((True∧xs=xs)∧rawA xs (rawA xs (rawA xs j))=j2∧True)∧False) else False else False else False else False else False
theorem rbent_P:rbent_T:=by
 unfold rbent_T
 intro gl xs j g l ⟨hs,hl,hne⟩
 have bg:cond g (g=true) True:=by cases g <;> trivial
 have s:=hs.s
 have fs:=hl.fs
 obtain ⟨i,hi⟩:∃ i,i=(srcN xs j l.length).toNat:=⟨_,rfl⟩
 rw [← hi]
 refine ⟨fun j i x y h=>by simp at h,⟨0,⟨by decide,by omega⟩,by (repeat' (first | exact trivial | exact rfl | assumption | apply And.intro)),by (repeat' (first | exact trivial | exact rfl | assumption | apply And.intro)),by (repeat' (first | exact trivial | exact rfl | assumption | apply And.intro)),by (repeat' (first | exact trivial | exact rfl | assumption | apply And.intro)),by (repeat' (first | exact trivial | exact rfl | assumption | apply And.intro)),rfl,(if_neg (by omega)).symm,trivial⟩,?_⟩
 rintro x ⟨x0,x1⟩
 refine csx (fun hx=>?_) (fun hx=>?_)
 ·obtain ⟨k,nm,ps,hr,hp⟩:=hl.fr x.toNat (by omega)
  have ps6:=hp.fs
  have hB:=btL_len (i:=i) x0 x1
  refine cd1 (by omega) ⟨k,nm,ps,by rw [hr]; rfl,cd1 ⟨rfl,by omega,by omega⟩ (cd1 ⟨hB.symm,by rw [hB,List.length_singleton]; omega,by rw [hB,List.length_singleton]; omega⟩ ⟨fun e=>?_,fun e=>?_⟩)⟩
  ·subst e
   obtain ⟨h1,h2⟩:=btL_here hl (by omega) hr
   refine cdI (by omega) ⟨(i:Int)+1,⟨by omega,by omega⟩,by simp only [bt3]; omega,by (repeat' (first | exact trivial | exact rfl | assumption | apply And.intro)),by (repeat' (first | exact trivial | exact rfl | assumption | apply And.intro)),by (repeat' (first | exact trivial | exact rfl | assumption | apply And.intro)),by (repeat' (first | exact trivial | exact rfl | assumption | apply And.intro)),⟨by rw [List.length_append,hB,List.length_singleton]; omega,trivial⟩,h1,h2,trivial⟩
  ·obtain ⟨h1,h2⟩:=btL_else (i:=i) hl x0 hx e hr
   refine cdI (by omega) ⟨x+1,⟨by omega,by omega⟩,by simp only [bt3]; omega,by (repeat' (first | exact trivial | exact rfl | assumption | apply And.intro)),by (repeat' (first | exact trivial | exact rfl | assumption | apply And.intro)),by (repeat' (first | exact trivial | exact rfl | assumption | apply And.intro)),by (repeat' (first | exact trivial | exact rfl | assumption | apply And.intro)),⟨by rw [List.length_append,hB,List.length_singleton]; omega,trivial⟩,h1,h2,trivial⟩
 have hx:x=l.length:=by omega
 subst hx
 rw [Int.toNat_natCast]
 refine csx (fun h0=>?_) (fun h0=>?_)
 ·have l0:l=[]:=List.eq_nil_of_length_eq_zero (by omega)
  subst l0
  have eb:mapLL (killA 1501) (btL [] i (([]:LLR).length:Nat))=[]:=rfl
  rw [eb]
  refine cd1 ⟨rfl,by decide,by decide⟩ (cd1 rfl ⟨_,_,⟨⟨fun q hq=>?_,by simp⟩,hs.lo⟩,⟨⟨trivial,rfl⟩,trivial⟩,by (repeat' (first | exact trivial | exact rfl | assumption | apply And.intro))⟩)
  have hq:q=0:=by simpa using hq
  subst hq
  exact ⟨_,_,[],rfl,⟨fun j hj=>by simp at hj,by simp⟩⟩
 have hI:=srcN_lt (xs:=xs) (i:=j) (n:=l.length) (by omega)
 have hil:i < l.length:=by omega
 obtain ⟨k,nm,ps,_,hps,hoe,F⟩:=holF hl hil
 rw [hps,← hi]
 have pne:ps.length≠0:=fun z=>(hne i hil).1 (by rw [hoe]; exact List.eq_nil_of_length_eq_zero z)
 have p8:ps.length≤8:=by have:=(hne i hil).2; rw [hoe] at this; exact this
 generalize btL l i l.length=H at F ⊢
 have hp:=F.hp
 have pfs:=hp.fs
 have hc:l.length=H.length∧i < H.length:=⟨F.hn.symm,by rw [F.hn]; exact hil⟩
 have r1:0≤rawA xs j:=rawA_le hs.lo
 have r2:0≤rawA xs (rawA xs j):=rawA_le r1
 have r3:0≤rawA xs (rawA xs (rawA xs j)):=rawA_le r2
 have hJ:=srcN_lt (xs:=xs) (i:=rawA xs j) (n:=ps.length) (by omega)
 have gH:∃ n,List.take [AV.rw 1501 7 n].length (List.drop 2 (H.getD i []))=[AV.rw 1501 7 n]:=⟨ps.length,by rw [F.ha]; rfl⟩
 have hpJ:(srcN xs (rawA xs j) ps.length).toNat < ps.length:=by omega
 refine ⟨⟨s,hs.lo⟩,cd1 (by omega) (cd1 hc ⟨ps.length,by rw [F.ha]; rfl,cd1 hc ⟨ps.length,by rw [F.ha]; rfl,⟨s,r1⟩,cd1 (by omega) ⟨⟨s,r2⟩,?_⟩⟩⟩)⟩
 refine csx (fun _=>⟨⟨⟨s,r3⟩,by decide,by decide,by decide⟩,fun v j' p=>cd1 hc ?_⟩) (fun _=>?_)
 ·obtain ⟨a1,a2⟩:=F.cell (fo:=0) (ys:=[.int .i64 v]) hp rfl (.inl rfl)
  exact bt_done a2 a1 p.2
 refine csx (fun _=>⟨⟨⟨s,r3⟩,⟨rfl,by decide,by decide⟩,⟨fun x hx=>?_⟩⟩,fun v j' p=>cd1 hc ?_⟩) (fun _=>?_)
 ·simp only [List.mem_cons,List.not_mem_nil,or_false] at hx
  rcases hx with rfl | rfl | rfl | rfl <;> exact ⟨_,rfl⟩
 ·obtain ⟨a1,a2⟩:=F.cell (fo:=1) (ys:=[.str v]) hp rfl (.inl rfl)
  exact bt_done a2 a1 p.fj
 refine csx (fun _=>⟨⟨⟨s,r3⟩,⟨rfl,by decide,by decide⟩,ints_of [-1,0,52595999,52596000] ?_⟩,fun v j' p=>cd1 ⟨rfl,hpJ⟩ ?_⟩) (fun _=>?_)
 ·intro n hn
  simp only [List.mem_cons,List.not_mem_nil,or_false] at hn
  show _∧_
  omega
 ·obtain ⟨b1,b2⟩:=pds_cell hp (p:=(srcN xs (rawA xs j) ps.length).toNat) (fo:=0) (ys:=[.int .i64 v]) (fun _ fr cl f a b c bs hb=>⟨v,cl,f,a,b,c,bs,rfl,hb⟩)
  obtain ⟨a1,a2⟩:=F.keep b1 b2
  exact bt_done a2 a1 p.fj
 refine csx (fun _=>cd1 ⟨rfl,hpJ⟩ ?_) (fun _=>?_)
 ·obtain ⟨fr,cl,f,a,b,c,bs,hr,hb⟩:=hp.fr _ hpJ
  obtain ⟨b1,b2⟩:=pds_cell hp (p:=(srcN xs (rawA xs j) ps.length).toNat) (fo:=1) (ys:=[.bool (!cl)]) (fun _ fr _ f a b c bs hb=>⟨fr,!cl,f,a,b,c,bs,rfl,hb⟩)
  obtain ⟨a1,a2⟩:=F.keep b1 b2
  exact ⟨cl,by rw [hr]; rfl,cd1 ⟨rfl,hpJ⟩ (bt_done a2 a1 r3)⟩
 refine csx (fun _=>⟨⟨s,r3⟩,fun f a b c j' p=>cd1 ⟨rfl,hpJ⟩ ?_⟩) (fun _=>?_)
 ·obtain ⟨b1,b2⟩:=pds_cell hp (p:=(srcN xs (rawA xs j) ps.length).toNat) (fo:=2) (ys:=[.int .i64 f,.int .i64 a,.int .i64 b,.int .i64 c]) (fun _ fr cl _ _ _ _ bs hb=>⟨fr,cl,f,a,b,c,bs,rfl,hb⟩)
  obtain ⟨a1,a2⟩:=F.keep b1 b2
  exact bt_done a2 a1 p.fj
 refine csx (fun _=>⟨pd_nm hp,⟨⟨s,r3⟩,by decide,by decide,by decide⟩,fun v j' p=>⟨⟨⟨s,p.2⟩,⟨rfl,by decide,by decide⟩,ints_of [-1001,0,1001] ?_⟩,fun w j' p2=>cd1 ⟨rfl,hpJ⟩ ?_⟩⟩) (fun _=>?_)
 ·intro n hn
  simp only [List.mem_cons,List.not_mem_nil,or_false] at hn
  show _∧_
  omega
 ·have hw:=pick_of [-1001,0,1001] p2
  simp only [List.mem_cons,List.not_mem_nil,or_false] at hw
  obtain ⟨b1,b2⟩:=pds_bias hp (p:=(srcN xs (rawA xs j) ps.length).toNat) (B:=[[.int .i64 v,.int .i64 w]]) ⟨rds_lit1 (by show _∧_; omega) (by show _∧_; omega),by simp⟩ rfl
  obtain ⟨a1,a2⟩:=F.keep b1 b2
  exact bt_done a2 a1 p2.fj
 refine csx (fun _=>cd1 hc ⟨ps.length,by rw [F.ha]; rfl,cd1 hc ⟨ps.length,by rw [F.ha]; rfl,cd1 (by omega) (cd1 ⟨rfl,by omega⟩ ?_)⟩⟩) (fun _=>cd1 hc ?_)
 ·obtain ⟨fr,cl,f,a,b,c,bs,hr,hb⟩:=hp.fr 0 (by omega)
  refine ⟨fr,cl,f,a,b,c,bs,by rw [hr]; rfl,cd1 ⟨rfl,by rw [List.length_singleton]; omega,by rw [List.length_singleton]; omega⟩ (cd1 hc ?_)⟩
  have hZ:PdsP (ps++[pdA fr cl f a b c bs]):=⟨fun q hq=>by
   rw [List.length_append,List.length_singleton] at hq
   rw [gD_app]
   by_cases z:q < ps.length
   ·rw [if_pos z]; exact hp.fr q z
   ·rw [if_neg z,show q - ps.length=0 by omega]; exact ⟨fr,cl,f,a,b,c,bs,rfl,hb⟩,by rw [List.length_append,List.length_singleton]; omega⟩
  obtain ⟨a1,a2⟩:=F.cell (fo:=2) (ys:=[.rw 1501 7 (ps++[pdA fr cl f a b c bs]).length]) hZ rfl (.inl rfl)
  exact bt_done a2 a1 r3
 ·obtain ⟨a1,a2⟩:=F.cell (fo:=2) (ys:=[.nils]) hp rfl (.inr rfl)
  exact bt_done a2 a1 r3
def rbent_S:Prop:=∀ (gl:Glob) (xs:List (List AV)) (j:Int) (g:Bool) (l:List (List AV)),SrcQ xs j∧BnoP l→fnQ Tryz.prog { glob:=gl,spec:=lk [],specH:=lk [(37,srcn_s)],specQ:=lk [(24,qrange_s),(44,qtext_s),(40,qpick_s),(43,qplace_s)],shape:=[16,51,56,94,123,127,129],slz:=[(16,[7]),(51,[1501007]),(56,[1501007]),(123,[1501007]),(127,[1501007]),(129,[2])],nowf:=true,nls:=[(59,2,7)] } { nt:=135,drop:=drp [(2,1024),(4,98304),(5,4063232),(6,264241152),(7,268435456),(8,3758096384),(9,541165879296),(10,549755813888),(11,280375465082880),(12,1152640029630136320),(13,1152921504606846976),(14,32281802128991715328),(15,73786976294838206464),(16,4574792530279968800768),(17,9444732965739290427392),(18,1190036353683150593851392),(19,2417851639229258349412352),(20,304649306542886552025956352),(21,618970019642690137449562112),(22,315674710017771970099276677120),(23,633825300114114700748351602688),(24,39297168607075111446397799366656),(25,81129638414606681695789005144064),(26,165991240196285270749584304524754944),(27,332306998946228968225951765070086144),(28,21777406868942169203719522972103025360896),(29,21778071482940061661655974875633165533184)],fr:=1000,kp:=[0],emp:=fun id=>cond (Nat.beq id 2) [(1100500,1500,59,3)] [],act:=fun id=>cond (Nat.beq id 500002) [.nop 1500,.mk 1501 49 7] (cond (Nat.beq id 9) [.kil 1501,.cls 1500] (cond (Nat.beq id 26) [.nop 1501] [])),cas:=fun id st=>btC id st (srcN xs j l.length).toNat } (invs [(3,bt3 xs l g j (srcN xs j l.length).toNat)]) 6 Tryz.f15 [.ptr 0 0,.agg [.sl 3 g l]] [.cells [.sl 1 false xs,.int .i64 j]] (fun r2 bs2=>∃ (q:List (List AV)) (j2:Int),(BntR q j2)∧le r2 (.agg [.sl 3 false q])∧leBs bs2 [.cells [.sl 1 false xs,.int .i64 j2]])
theorem rbent_e:rbent_T=rbent_S:=by kernel_rfl
theorem rbent_v:rbent_S:=Eq.mp (rbent_e ..) (rbent_P)
theorem rbent_ok (gl:Glob):QOK Tryz.prog gl 15 rbent_s:=by
 refine ⟨fok Tryz.func15 (by kernel_rfl) (by kernel_rfl),?_⟩
 intro xs bs T h K hT
 unfold rbent_s at h
 split at h
 ·simp only [Option.some.injEq] at h
  subst h
  obtain ⟨hp,hK⟩:=hT
  obtain ⟨r,bs2,⟨o0,o1,hq,hl,hb⟩,hC⟩:=fnQ_sound tyNil (by exact specOK rfl rfl trivial ⟨(srcn_ok gl),trivial⟩ (d:=qsOf rfl ⟨(qrange_ok gl),(qtext_ok gl),(qpick_ok gl),(qplace_ok gl),trivial⟩)) (by kernel_rfl) Tryz.func15 (rbent_v gl _ _ _ _ hp)
  exact ⟨_,_,hK o0 o1 hq,hC.le hl hb⟩
 ·cases h
end Go.Proofs.YtldiagnbagpliaaGreatDoor
namespace Go.Proofs.YtldiagnbagpliaaGreatDoor
open Go Go.Lib Go.RowKit
set_option linter.unusedVariables false
set_option linter.unusedSimpArgs false
end Go.Proofs.YtldiagnbagpliaaGreatDoor
namespace Go.Proofs.YtldiagnbagpliaaGreatDoor
open Go Go.Lib Go.RowKit
set_option linter.unusedVariables false
set_option linter.unusedSimpArgs false
end Go.Proofs.YtldiagnbagpliaaGreatDoor
namespace Go.Proofs.YtldiagnbagpliaaGreatDoor
open Go
set_option linter.unusedVariables false
set_option linter.unusedSimpArgs false
end Go.Proofs.YtldiagnbagpliaaGreatDoor
namespace Go.Proofs.YtldiagnbagpliaaGreatDoor
open Go
set_option linter.unusedVariables false
set_option linter.unusedSimpArgs false
structure EqI (xs ys:LLR) (p:List AV→List AV→Prop) (i:Int):Prop where
 flo:0≤i
 fhi:i≤xs.length
 fl:xs.length=ys.length
 fe:∀ j:Nat,(j:Int) < i→p (xs.getD j []) (ys.getD j [])
theorem EqI.next {xs ys:LLR} {p:List AV→List AV→Prop} {i:Int} (h:EqI xs ys p i) (hi:i < xs.length) (hp:p (xs.getD i.toNat []) (ys.getD i.toNat [])):EqI xs ys p (i+1):=by
 obtain ⟨a,b,c,d⟩:=h
 refine ⟨by omega,by omega,c,fun j hj=>?_⟩
 rcases Nat.lt_or_ge j i.toNat with k | k
 ·exact d j (by omega)
 ·rw [show j=i.toNat by omega]; exact hp
end Go.Proofs.YtldiagnbagpliaaGreatDoor
namespace Go.Proofs.YtldiagnbagpliaaGreatDoor
open Go
set_option linter.unusedVariables false
set_option linter.unusedSimpArgs false
theorem se_asc {l:LLR} {nm:ByteArray} (hl:StsP l) (h0:rgV l=0) (hs:stH l nm=true):AscP (seD l nm):=by
 obtain ⟨k2,hr,hlt⟩:=seD_at hl hs
 have ha:=(rg_zero hl h0).fa _ hlt
 rw [hr] at ha
 exact asc_pw.1 ha
end Go.Proofs.YtldiagnbagpliaaGreatDoor
namespace Go.Proofs.YtldiagnbagpliaaGreatDoor
open Go
set_option linter.unusedVariables false
set_option linter.unusedSimpArgs false
def laO (ps:LLR) (t i:Int):Option (List AV):=lst (ps.take i.toNat) t
def laR (ps:LLR) (t i:Int):List AV:=(laO ps t i).getD pzR
theorem la_step {ps:LLR} {t i:Int} (h0:0≤i) (hi:i < ps.length):laO ps t (i+1)=if rE (ps.getD i.toNat [])≤t then some (ps.getD i.toNat []) else laO ps t i:=by
 unfold laO lst
 rw [show (i+1).toNat=i.toNat+1 by omega,List.take_add_one,List.getElem?_eq_getElem (show i.toNat < ps.length by omega),gD_lt (show i.toNat < ps.length by omega),Option.toList_some,List.filter_append]
 by_cases h:rE ps[i.toNat]≤t
 ·rw [if_pos h,List.filter_cons_of_pos (show begT t ps[i.toNat]=true from decide_eq_true h),List.filter_nil,List.getLast?_append]; rfl
 ·rw [if_neg h,List.filter_cons_of_neg (show ¬ begT t ps[i.toNat]=true from fun q=>h (of_decide_eq_true q)),List.filter_nil,List.append_nil]
theorem la_all {ps:LLR} {t i:Int} (h:¬ i < ps.length):laO ps t i=lst ps t:=by
 unfold laO; rw [List.take_of_length_le (by omega)]
theorem fi_lst {l:LLR} (hl:StsP l) (h0:rgV l=0) (n:ByteArray) (t:Int):atZ l n t=(lst (fiP l n) t).getD pzR∧atE l n t=(if (lst (fiP l n) t).isSome then 0 else 6)∧apI l n t=(lst (fiP l n) t).isSome∧apP l n t=(lst (fiP l n) t).getD pzR:=by
 have key:apI l n t=(lst (fiP l n) t).isSome∧apP l n t=(lst (fiP l n) t).getD pzR:=by
  rw [(fi_all (rgV_iff.1 h0).2.2 n).1]
  by_cases hs:stH l n=true
  ·rw [if_pos hs]
   obtain ⟨k,hr,hlt⟩:=seD_at hl hs
   obtain ⟨m1,m2⟩:=at_lst (se_asc hl h0 hs) t
   unfold apI apP
   rw [if_pos hs,hs,hr]
   exact ⟨m1,m2⟩
  ·rw [if_neg hs]
   obtain ⟨a1,a2⟩:=ap_none (by simpa using hs) t
   exact ⟨a1,a2⟩
 have e:atE l n t=(if (lst (fiP l n) t).isSome then 0 else 6):=by unfold atE; rw [if_neg (fun z=>z h0),key.1]
 refine ⟨?_,e,key.1,key.2⟩
 unfold atZ
 rw [e]
 cases hq:lst (fiP l n) t with
 | none=>rfl
 | some r=>simp [key.2,hq]
theorem fiP_pd2 {l:LLR} (hl:StsP l) (h0:rgV l=0) (s:ByteArray):PdsP (fiP l s):=by
 rw [(fi_all (rgV_iff.1 h0).2.2 s).1]
 split
 ·rename_i hs
  obtain ⟨k3,n3,ps3,hr3,hp3⟩:=hl.fr _ (stH_lt hs)
  have e:seD l s=ps3:=by unfold seD hoP; rw [hr3]; rfl
  rw [e]; exact hp3
 ·exact ⟨fun i h=>by simp at h,by simp⟩
def prC (r:List AV):List AV:=[.int .i64 (pI 0 r),.bool (pC r),.int .i64 (pI 2 r),.int .i64 (pI 3 r),.int .i64 (pI 4 r),.int .i64 (pI 5 r),.sl 2 false (pB r)]
def ra7 (ps:LLR) (t:Int):LInv:=⟨Int,fun i=>⟨[(2,.int .i64 t),(6,.ptr 6 0),(11,.ptr 11 0),(12,.bool (laO ps t i).isSome),(29,.sl 7 false ps),(30,.int .i64 ps.length),(31,.int .i64 i)],[(6,.cells [.int .i64 0,.bool false,.int .i64 0,.int .i64 0,.int .i64 0,.int .i64 0,.nils]),(11,.cells [.int .i64 (pI 0 (laR ps t i)),.bool (pC (laR ps t i)),.int .i64 (pI 2 (laR ps t i)),.int .i64 (pI 3 (laR ps t i)),.int .i64 (pI 4 (laR ps t i)),.int .i64 (pI 5 (laR ps t i)),.sl 2 false (pB (laR ps t i))])]⟩,CoI ps,fun i=>(ps.length - i).toNat,none⟩
def ratF_s (rgV:LLR→Int) (atZ:LLR→ByteArray→Int→List AV) (atE:LLR→ByteArray→Int→Int) (fiK:LLR→ByteArray→Int) (fiN:LLR→ByteArray→ByteArray) (fiP:LLR→ByteArray→LLR) (fiB:LLR→ByteArray→Bool) (laO:LLR→Int→Int→Option (List AV)) (laR:LLR→Int→Int→List AV) (pI:Nat→List AV→Int) (pC:List AV→Bool) (pB:List AV→LLR):Sp
 | [.agg [.sl 3 g l],.str n,.int .i64 t]=>some (StsP l,.tup [.agg [.int .i64 (pI 0 (atZ l n t)),.bool (pC (atZ l n t)),.int .i64 (pI 2 (atZ l n t)),.int .i64 (pI 3 (atZ l n t)),.int .i64 (pI 4 (atZ l n t)),.int .i64 (pI 5 (atZ l n t)),.sl 2 false (pB (atZ l n t))],.int .i64 (atE l n t)])
 | _=>none
def ratF_T (rgV:LLR→Int) (atZ:LLR→ByteArray→Int→List AV) (atE:LLR→ByteArray→Int→Int) (fiK:LLR→ByteArray→Int) (fiN:LLR→ByteArray→ByteArray) (fiP:LLR→ByteArray→LLR) (fiB:LLR→ByteArray→Bool) (laO':LLR→Int→Int→Option (List AV)) (laR':LLR→Int→Int→List AV) (pI':Nat→List AV→Int) (pC':List AV→Bool) (pB':List AV→LLR) (pdV:Int→Int→Bool→Int→Int→Int→Int→LLR→Bool) (nmOk:ByteArray→Bool):Prop :=
  ∀ (gl:Glob) (g:Bool) (l:List (List AV)) (n:ByteArray) (t:Int),StsP l→True∧True→n.size.le (9223372036854775807:Nat)→IR9 t→StsP l∧bif decide ¬rgV l=(0:Int) then ((0:Int)=pI' (0:Nat) (atZ l n t)∧false=pC' (atZ l n t)∧(0:Int)=pI' (2:Nat) (atZ l n t)∧(0:Int)=pI' (3:Nat) (atZ l n t)∧(0:Int)=pI' (4:Nat) (atZ l n t)∧(0:Int)=pI' (5:Nat) (atZ l n
 t)∧(True∧[]=pB' (atZ l n t))∧True)∧rgV l=atE l n t∧True else StsP l∧(∃ x,CoI (fiP l n) x∧(t=t∧(0:Nat)=0∧(0:Nat)=0∧false=(laO (fiP l n) t x).isSome∧(True∧fiP l n=fiP l n)∧(↑(List.length (fiP l n)):Int)=(↑(List.length (fiP l n)):Int)∧(0:Int)=x∧True)∧((0:Int)=0∧false=false∧(0:Int)=0∧(0:Int)=0∧(0:Int)=0∧(0:Int)=0∧True∧True)∧((0:Int)=pI (0:Nat)
 (laR (fiP l n) t x)∧false=pC (laR (fiP l n) t x)∧(0:Int)=pI (2:Nat) (laR (fiP l n) t x)∧(0:Int)=pI (3:Nat) (laR (fiP l n) t x)∧(0:Int)=pI (4:Nat) (laR (fiP l n) t
 x)∧(0:Int)=pI (5:Nat) (laR (fiP l n) t x)∧(True∧[]=pB (laR (fiP l n) t x))∧True)∧True)∧∀ (x:Int),CoI (fiP l n) x→bif decide (x < (↑(List.length (fiP l n)):Int)) then bif decide (0≤x∧x < (↑(List.length (fiP l n)):Int)) then ∃ n_1 b n_2 n_3 n_4 n_5 xs,List.take [AV.int .i64 n_1,.bool b,.int
 .i64 n_2,.int .i64 n_3,.int .i64 n_4,.int .i64 n_5,.sl (2:Nat) false xs].length (List.getD (fiP l n) x.toNat [])=[AV.int .i64 n_1,.bool b,.int .i64 n_2,.int .i64 n_3,.int .i64 n_4,.int .i64 n_5,.sl (2:Nat) false xs]∧bif decide (n_1≤t) then ∃ y,CoI (fiP l n) y∧(ra7 (fiP l n) t).m y < (ra7 (fiP l n) t).m x∧(t=t∧(0:Nat)=0∧(0:Nat)=0∧true=(laO (fiP l n) t y).isSome∧(True∧fiP
 l n=fiP l n)∧(↑(List.length (fiP l n)):Int)=(↑(List.length (fiP l n)):Int)∧IntKind.i64.wrap (x+(1:Int))=y∧True)∧((0:Int)=0∧false=false∧(0:Int)=0∧(0:Int)=0∧(0:Int)=0∧(0:Int)=0∧True∧True)∧(n_1=pI (0:Nat) (laR (fiP l n) t y)∧b=pC (laR (fiP l n) t y)∧n_2=pI (2:Nat)
 (laR (fiP l n) t y)∧n_3=pI (3:Nat) (laR (fiP l n) t y)∧n_4=pI (4:Nat) (laR (fiP l n) t y)∧n_5=pI (5:Nat) (laR (fiP l n) t y)∧(True∧xs=pB (laR (fiP l n) t
 y))∧True)∧True else ∃ y,CoI (fiP l n) y∧(ra7 (fiP l n) t).m y < (ra7 (fiP l n) t).m x∧(t=t∧(0:Nat)=0∧(0:Nat)=0∧(laO (fiP l n) t x).isSome=(laO (fiP l n) t y).isSome∧(True∧fiP l n=fiP l n)∧(↑(List.length (fiP l n)):Int)=(↑(List.length (fiP l n)):Int)∧IntKind.i64.wrap (x +
 (1:Int))=y∧True)∧((0:Int)=0∧false=false∧(0:Int)=0∧(0:Int)=0∧(0:Int)=0∧(0:Int)=0∧True∧True)∧(pI (0:Nat) (laR (fiP l n) t x)=pI (0:Nat) (laR (fiP l n) t y)∧pC (laR (fiP l n) t x)=pC (laR (fiP l
 n) t y)∧pI (2:Nat) (laR (fiP l n) t x)=pI (2:Nat) (laR (fiP l n) t y)∧pI (3:Nat) (laR (fiP l n) t x)=pI (3:Nat) (laR (fiP l n) t y)∧pI (4:Nat)
 (laR (fiP l n) t x)=pI (4:Nat) (laR (fiP l n) t y)∧pI (5:Nat) (laR (fiP l n) t x)=pI (5:Nat) (laR (fiP l n) t y)∧(True∧pB (laR (fiP l n) t
 x)=pB (laR (fiP l n) t y))∧True)∧True else False else bif !(laO (fiP l n) t x).isSome then ((0:Int)=pI' (0:Nat) (atZ l n t)∧false=pC' (atZ l n t)∧(0:Int)=pI' (2:Nat) (atZ l n t)∧(0:Int)=pI' (3:Nat) (atZ l n t)∧(0:Int)=pI' (4:Nat) (atZ l n t)∧(0:Int)=pI' (5:Nat) (atZ l n t)∧(True∧[]=pB' (atZ l n t))∧True)∧(6:Int)=atE l n t∧True
 else (pI (0:Nat) (laR (fiP l n) t x)=pI' (0:Nat) (atZ l n t)∧pC (laR (fiP l n) t x)=pC' (atZ l n t)∧pI (2:Nat) (laR (fiP l n) t x)=pI' (2:Nat) (atZ l n t)∧pI (3:Nat) (laR (fiP l n) t x)=pI' (3:Nat)
 (atZ l n t)∧pI (4:Nat) (laR (fiP l n) t x)=pI' (4:Nat) (atZ l n t)∧pI (5:Nat) (laR (fiP l n) t x)=pI' (5:Nat) (atZ l n t)∧(True∧pB (laR (fiP l n) t x)=pB' (atZ l n t))∧True)∧(0:Int)=atE l n t∧True
theorem ratF_P:ratF_T rgV atZ atE fiK fiN fiP fiB laO laR pI pC pB pdV nmOk:=by
 unfold ratF_T
 intro gl g l n t hl _ _ _
 refine ⟨hl,csx (fun q=>?_) (fun q=>?_)⟩
 ·have hE:atE l n t=rgV l:=by unfold atE; rw [if_pos q]
  have hZ:atZ l n t=pzR:=by unfold atZ; rw [hE,if_neg q]
  rw [hZ,hE]
  exact ⟨⟨rfl,rfl,rfl,rfl,rfl,rfl,⟨trivial,rfl⟩,trivial⟩,rfl,trivial⟩
 have h0:=Decidable.not_not.1 q
 obtain ⟨eZ,eE,_,_⟩:=fi_lst hl h0 n t
 have hP:=fiP_pd2 hl h0 n
 have pfs:=hP.fs
 refine ⟨hl,⟨0,⟨by decide,by omega⟩,by (repeat' (first | exact trivial | exact rfl | assumption | apply And.intro)),by (repeat' (first | exact trivial | exact rfl | assumption | apply And.intro)),by (repeat' (first | exact trivial | exact rfl | assumption | apply And.intro)),trivial⟩,?_⟩
 rintro x ⟨x0,x1⟩
 refine csx (fun hx=>cd1 (by omega) ?_) (fun hx=>?_)
 ·obtain ⟨fr,cl,f,a,b,c,bs,hr,hb⟩:=hP.fr x.toNat (by omega)
  have w:IntKind.i64.wrap (x+1)=x+1:=wrap_eq (by show _∧_; omega)
  have st:=la_step (t:=t) x0 hx
  have hrE:rE ((fiP l n).getD x.toNat [])=fr:=by rw [hr]; rfl
  rw [hrE] at st
  refine ⟨fr,cl,f,a,b,c,bs,by rw [hr]; rfl,csx (fun h=>?_) (fun h=>?_)⟩
  ·rw [if_pos h] at st
   have sr:laR (fiP l n) t (x+1)=pdA fr cl f a b c bs:=by unfold laR; rw [st,hr]; rfl
   exact ⟨x+1,⟨by omega,by omega⟩,by simp only [ra7]; omega,⟨rfl,rfl,rfl,by rw [st]; rfl,⟨trivial,rfl⟩,rfl,w,trivial⟩,by (repeat' (first | exact trivial | exact rfl | assumption | apply And.intro)),by rw [sr]; exact ⟨rfl,rfl,rfl,rfl,rfl,rfl,⟨trivial,rfl⟩,trivial⟩,trivial⟩
  ·rw [if_neg h] at st
   have sr:laR (fiP l n) t (x+1)=laR (fiP l n) t x:=by unfold laR; rw [st]
   exact ⟨x+1,⟨by omega,by omega⟩,by simp only [ra7]; omega,⟨rfl,rfl,rfl,by rw [st],⟨trivial,rfl⟩,rfl,w,trivial⟩,by (repeat' (first | exact trivial | exact rfl | assumption | apply And.intro)),by rw [sr]; exact ⟨rfl,rfl,rfl,rfl,rfl,rfl,⟨trivial,rfl⟩,trivial⟩,trivial⟩
 ·rw [eZ,eE]
  unfold laR
  rw [la_all hx]
  cases hq:lst (fiP l n) t with
  | none=>exact ⟨⟨rfl,rfl,rfl,rfl,rfl,rfl,⟨trivial,rfl⟩,trivial⟩,rfl,trivial⟩
  | some r=>exact ⟨⟨rfl,rfl,rfl,rfl,rfl,rfl,⟨trivial,rfl⟩,trivial⟩,rfl,trivial⟩
def ratF_S (rgV:LLR→Int) (atZ:LLR→ByteArray→Int→List AV) (atE:LLR→ByteArray→Int→Int) (fiK:LLR→ByteArray→Int) (fiN:LLR→ByteArray→ByteArray) (fiP:LLR→ByteArray→LLR) (fiB:LLR→ByteArray→Bool) (laO:LLR→Int→Int→Option (List AV)) (laR:LLR→Int→Int→List AV) (pI:Nat→List AV→Int) (pC:List AV→Bool) (pB:List AV→LLR) (pdV:Int→Int→Bool→Int→Int→Int→Int→LLR→Bool) (nmOk:ByteArray→Bool):Prop:=∀ (gl:Glob) (g:Bool) (l:List (List AV)) (n:ByteArray) (t:Int),StsP l→fnK Tryz.prog { glob:=gl,spec:=lk [(32,(rvalidF_s pdV nmOk rgV)),(23,(rfindF_s fiK fiN fiP fiB))],specH:=lk [],shape:=[34],slz:=[(34,[2])],nowf:=true,wrap:=true,nls:=[(49,6,2)] } { nt:=45,drop:=drp [(1,98304),(2,131072),(3,1572864),(4,132120576),(5,134217728),(6,268435456),(8,25769803776),(9,240518168576),(10,549755813888),(11,1099511627776),(12,2199023255552),(13,8796093022208),(14,17592186044416)] } (invs [(7,ra7 (fiP l n) t)]) 6 Tryz.f35 [.agg [.sl 3 g l],.str n,.int .i64 t] (.tup [.agg [.int .i64 (pI 0 (atZ l n t)),.bool (pC (atZ l n t)),.int .i64 (pI 2 (atZ l n t)),.int .i64 (pI 3 (atZ l n t)),.int .i64 (pI 4 (atZ l n t)),.int .i64 (pI 5 (atZ l n t)),.sl 2 false (pB (atZ l n t))],.int .i64 (atE l n t)])
theorem ratF_e (rgV:LLR→Int) (atZ:LLR→ByteArray→Int→List AV) (atE:LLR→ByteArray→Int→Int) (fiK:LLR→ByteArray→Int) (fiN:LLR→ByteArray→ByteArray) (fiP:LLR→ByteArray→LLR) (fiB:LLR→ByteArray→Bool) (laO:LLR→Int→Int→Option (List AV)) (laR:LLR→Int→Int→List AV) (pI:Nat→List AV→Int) (pC:List AV→Bool) (pB:List AV→LLR) (pdV:Int→Int→Bool→Int→Int→Int→Int→LLR→Bool) (nmOk:ByteArray→Bool):ratF_T rgV atZ atE fiK fiN fiP fiB laO laR pI pC pB pdV nmOk=ratF_S rgV atZ atE fiK fiN fiP fiB laO laR pI pC pB pdV nmOk:=by kernel_rfl
theorem ratF_v:ratF_S rgV atZ atE fiK fiN fiP fiB laO laR pI pC pB pdV nmOk:=Eq.mp (ratF_e ..) (ratF_P)
theorem ratF_ok (gl:Glob):SOK Tryz.prog gl 35 (ratF_s rgV atZ atE fiK fiN fiP fiB laO laR pI pC pB):=by
 refine ⟨fok Tryz.func35 (by kernel_rfl) (by kernel_rfl),?_⟩
 intro xs pre r h hp
 unfold ratF_s at h
 split at h
 ·simp only [Option.some.injEq,Prod.mk.injEq] at h
  obtain ⟨h1,h2⟩:=h
  subst h1 h2
  exact fnK_sound tyNil (by exact specOK rfl rfl ⟨(rvalidF_ok gl),(rfindF_ok gl),trivial⟩ trivial) (by kernel_rfl) Tryz.func35 rfl (ratF_v gl _ _ _ _ hp)
 ·cases h
def rpl21 (rd bs:LLR) (h:Bool) (k:Int) (n:ByteArray) (t f a b c:Int) (p:List AV):LInv:=⟨Int,fun i=>⟨[(3,.ptr 3 0),(4,.ptr 4 0),(10,.ptr 10 0),(12,.ptr 12 0),(107,.sl 2 h rd),(108,.int .i64 rd.length),(109,.int .i64 i)],[(4,.cells [.int .i64 0,.str ⟨#[]⟩,.int .i64 0,.int .i64 0,.int .i64 0,.int .i64 0,.int .i64 0,.nils]),(10,.cells p),(12,.cells [.int .i64 k,.str n,.int .i64 t,.int .i64 f,.int .i64 a,.int .i64 b,.int .i64 c,.rw 1500 2 (unb (rd.take i.toNat) bs).length]),(1500,.row 76 2 (unb (rd.take i.toNat) bs))]⟩,CoI rd,fun i=>(rd.length - i).toNat,none⟩
structure ApOk (l rd:LLR) (k:Int) (n:ByteArray) (t f a b c:Int) (u:Unit):Prop where
 fe:apE l k n t f a b c rd=0
structure ApPl (l:LLR) (k:Int) (n:ByteArray) (t f a b c:Int) (x:Int × Int × Int × Int):Prop where
 f2:x.1=apX 2 l k n t f
 f3:x.2.1=apX 3 l k n t a
 f4:x.2.2.1=apX 4 l k n t b
 f5:x.2.2.2=apX 5 l k n t c
def rpl17 (l rd:LLR) (h:Bool) (k:Int) (n:ByteArray) (t f a b c:Int) (p:List AV):LInv:=⟨Unit,fun _=>⟨[(3,.ptr 3 0),(4,.ptr 4 0),(10,.ptr 10 0)],[(3,.cells [.int .i64 k,.str n,.int .i64 t,.int .i64 f,.int .i64 a,.int .i64 b,.int .i64 c,.sl 2 h rd]),(4,.cells [.int .i64 0,.str ⟨#[]⟩,.int .i64 0,.int .i64 0,.int .i64 0,.int .i64 0,.int .i64 0,.nils]),(10,.cells p)]⟩,ApOk l rd k n t f a b c,fun _=>0,none⟩
def rpl20 (l rd:LLR) (h:Bool) (k:Int) (n:ByteArray) (t f a b c:Int) (p:List AV):LInv:=⟨Int × Int × Int × Int,fun x=>⟨[(3,.ptr 3 0),(4,.ptr 4 0),(10,.ptr 10 0),(12,.ptr 12 0)],[(3,.cells [.int .i64 k,.str n,.int .i64 t,.int .i64 f,.int .i64 a,.int .i64 b,.int .i64 c,.sl 2 h rd]),(4,.cells [.int .i64 0,.str ⟨#[]⟩,.int .i64 0,.int .i64 0,.int .i64 0,.int .i64 0,.int .i64 0,.nils]),(10,.cells p),(12,.cells [.int .i64 k,.str n,.int .i64 t,.int .i64 x.1,.int .i64 x.2.1,.int .i64 x.2.2.1,.int .i64 x.2.2.2,.nils])]⟩,ApPl l k n t f a b c,fun _=>0,none⟩
def rplJ (l rd:LLR) (h:Bool) (k:Int) (n:ByteArray) (t f a b c:Int) (id:Nat) (st:St):Option LInv:=match lk st.heap 10 with
 | some (.cells [p0,p1,p2,p3,p4,p5,.sl s g bs])=>cond (Nat.beq id 100020) (some (rpl20 l rd h k n t f a b c [p0,p1,p2,p3,p4,p5,.sl s g bs])) (cond (Nat.beq id 21) (match lk st.heap 12 with
  | some (.cells [_,_,_,.int _ f,.int _ a,.int _ b,.int _ c,_])=>some (rpl21 rd bs h k n t f a b c [p0,p1,p2,p3,p4,p5,.sl s g bs])
  | _=>none) none)
 | _=>none
def rplK (l rd:LLR) (h:Bool) (k:Int) (n:ByteArray) (t f a b c:Int) (id:Nat) (st:St):Option LInv:=cond (Nat.beq id 100017) (some (rpl17 l rd h k n t f a b c (prC (atZ l n t)))) (rplJ l rd h k n t f a b c id st)
theorem zz_ap {l:LLR} (h0:rgV l=0) (n:ByteArray) (t:Int):atZ l n t=apP l n t:=by
 by_cases h:atE l n t=0
 ·exact if_pos h
 ·rw [(at_err h0 h).2]; exact if_neg h
theorem ck_in {e w:Int} (h:okC e=true):(ck e w=0↔inLo e≤w∧w≤inHi e):=by
 unfold ck
 rw [h,if_pos rfl]
 constructor
 ·intro q
  split at q
  ·cases q
  ·omega
 ·intro q; rw [if_neg (by omega)]
theorem ck_ok {e v:Int} (h:ck e v=0):okC e=true:=by
 cases q:okC e with
 | true=>rfl
 | false=>unfold ck at h; rw [q] at h; cases h
def rapplyF_s (rgV:LLR→Int) (vdE:LLR→Int) (isN:Int→Int→Int→Int→Bool) (unb:LLR→LLR→LLR) (zI:Int→Int→Int) (zN:Int→ByteArray→ByteArray) (zS:Int→LLR→LLR) (apE:LLR→Int→ByteArray→Int→Int→Int→Int→Int→LLR→Int) (apX:Nat→LLR→Int→ByteArray→Int→Int→Int) (apP:LLR→ByteArray→Int→List AV) (atZ:LLR→ByteArray→Int→List AV) (atE:LLR→ByteArray→Int→Int) (fiK:LLR→ByteArray→Int) (fiN:LLR→ByteArray→ByteArray) (fiP:LLR→ByteArray→LLR) (fiB:LLR→ByteArray→Bool) (pI:Nat→List AV→Int) (pC:List AV→Bool) (pB:List AV→LLR) (fdV:LLR→Int→Int) (fdB:LLR→Int→Bool) (iL:Int→ByteArray) (inLo:Int→Int) (inHi:Int→Int) (inD:Int→Int) (inE:Int→Int):Sp
 | [.agg [.sl 3 g l],.agg [.int .i64 k,.str n,.int .i64 t,.int .i64 f,.int .i64 a,.int .i64 b,.int .i64 c,.sl 2 h rd]]=>some (StsP l∧RdsP rd∧rd.length≤1000,.tup [.agg [.int .i64 (zI (apE l k n t f a b c rd) k),.str (zN (apE l k n t f a b c rd) n),.int .i64 (zI (apE l k n t f a b c rd) t),.int .i64 (zI (apE l k n t f a b c rd) (apX 2 l k n t f)),.int .i64 (zI (apE l k n t f a b c rd) (apX 3 l k n t a)),.int .i64 (zI (apE l k n t f a b c rd) (apX 4 l k n t b)),.int .i64 (zI (apE l k n t f a b c rd) (apX 5 l k n t c)),.sl 2 false (zS (apE l k n t f a b c rd) (unb rd (pB (apP l n t))))],.int .i64 (apE l k n t f a b c rd)])
 | _=>none
abbrev prE1 (pI':Nat→List AV→Int) (pC':List AV→Bool) (pB':List AV→LLR) (atZ':LLR→ByteArray→Int→List AV) (l:LLR) (n:ByteArray) (t:Int):Prop:=pI' (0:Nat) (atZ' l n t)=pI (0:Nat) (atZ l n t)∧pC' (atZ' l n t)=pC (atZ l n t)∧pI' (2:Nat) (atZ' l n t)=pI (2:Nat) (atZ l n t)∧pI' (3:Nat) (atZ' l n t)=pI (3:Nat) (atZ l n t)∧pI' (4:Nat) (atZ' l n t)=pI (4:Nat) (atZ l n t)∧pI' (5:Nat) (atZ' l n t)=pI (5:Nat) (atZ l n t)∧(True∧pB' (atZ' l n t)=pB (atZ l n t))∧True
abbrev prE2 (l:LLR) (n:ByteArray) (t:Int):Prop:=pI (0:Nat) (atZ l n t)=pI (0:Nat) (atZ l n t)∧pC (atZ l n t)=pC (atZ l n t)∧pI (2:Nat) (atZ l n t)=pI (2:Nat) (atZ l n t)∧pI (3:Nat) (atZ l n t)=pI (3:Nat) (atZ l n t)∧pI (4:Nat) (atZ l n t)=pI (4:Nat) (atZ l n t)∧pI (5:Nat) (atZ l n t)=pI (5:Nat) (atZ l n t)∧(True∧pB (atZ l n t)=pB (atZ l n t))∧True
def rapplyF_T (rgV:LLR→Int) (vdE:LLR→Int) (isN:Int→Int→Int→Int→Bool) (unb':LLR→LLR→LLR) (zI:Int→Int→Int) (zN:Int→ByteArray→ByteArray) (zS:Int→LLR→LLR) (apE:LLR→Int→ByteArray→Int→Int→Int→Int→Int→LLR→Int) (apX:Nat→LLR→Int→ByteArray→Int→Int→Int) (apP:LLR→ByteArray→Int→List AV) (atZ':LLR→ByteArray→Int→List AV) (atE:LLR→ByteArray→Int→Int) (fiK:LLR→ByteArray→Int) (fiN:LLR→ByteArray→ByteArray) (fiP:LLR→ByteArray→LLR) (fiB:LLR→ByteArray→Bool) (pI':Nat→List AV→Int) (pC':List AV→Bool) (pB':List AV→LLR) (fdV':LLR→Int→Int) (fdB:LLR→Int→Bool) (iL:Int→ByteArray) (inLo:Int→Int) (inHi:Int→Int) (inD:Int→Int) (inE:Int→Int) (pdV:Int→Int→Bool→Int→Int→Int→Int→LLR→Bool) (nmOk:ByteArray→Bool) (laO:LLR→Int→Int→Option (List AV)) (laR:LLR→Int→Int→List AV) (nrm:Int→Int→Int→Int→Int × Int × Int × Int) (vld:Int→Int→Int→Int→Bool):Prop :=
  ∀ (gl:Glob) (g h:Bool) (l rd:List (List AV)) (k t f a b c:Int) (n:ByteArray),StsP l∧RdsP rd∧rd.length≤(1000:Nat)→True∧True→(IR9 k)∧n.size.le (9223372036854775807:Nat)∧(IR9 t)∧(IR9 f)∧((-9223372036854775808:Int)≤a∧a ≤
 (9223372036854775807:Int))∧(IR9 b)∧(IR9 c)∧True∧True→StsP l∧bif decide ¬rgV l=(0:Int) then (apZr zI zN zS apE apX apP unb' pB' l rd k t f a b c n)∧rgV l=apE l k n t f a b c rd∧True else True∧bif !decide (1≤k∧k≤(3:Int)) then (apZr zI zN zS apE apX apP unb' pB' l rd k t f a b c
 n)∧(4:Int)=apE l k n t f a b c rd∧True else RdsP rd∧bif decide ¬vdE rd=(0:Int) then (apZr zI zN zS apE apX apP unb' pB' l rd k t f a b c n)∧vdE rd=apE l k n t f a b c rd∧True else StsP l∧StsP l∧(bif decide ¬atE l n t=(0:Int) then bif decide (k=(1:Int)) then (apZr zI zN zS apE apX apP unb' pB' l rd k t f a b c n)∧(6:Int)=apE l k n t f a b c rd∧True else bif fiB l n then bif decide ¬fiK l n=k then
 (apZr zI zN zS apE apX apP unb' pB' l rd k t f a b c n)∧(7:Int)=apE l k n t f a b c rd∧True else bif decide (atE l n t=(0:Int)) then bif pC' (atZ' l n t) then (apZr zI zN zS apE apX apP unb' pB' l rd k t f a b c n)∧(7:Int)=apE l k n t f a b c rd∧True else bif decide ¬k=(1:Int) then True∧bif !isN f a b c then (apZr zI zN zS apE apX apP unb' pB' l rd k t f a b c n)∧(9:Int)=apE l k n t f a b c rd∧True
 else ∃ x,ApOk l rd k n t f a b c x∧((0:Nat)=0∧(0:Nat)=0∧(0:Nat)=0∧True)∧(k=k∧n=n∧t=t∧f=f∧a=a∧b=b∧c=c∧((bif h then h=true else True)∧rd=rd)∧True)∧((0:Int)=0∧(⟨#[]⟩:ByteArray)=(⟨#[]⟩:ByteArray)∧(0:Int)=0∧(0:Int)=0∧(0:Int)=0∧(0:Int)=0∧(0:Int)=0∧True∧True)∧(prE1 pI' pC' pB' atZ' l n t)∧True else ∃ x,ApOk l rd k n t f a b c x∧((0:Nat)=0∧(0:Nat)=0∧(0:Nat)=0∧True)∧(k=k∧n=n∧t=t∧f=f∧a=a∧b=b∧c=c∧((bif h
 then h=true else True)∧rd=rd)∧True)∧((0:Int)=0∧(⟨#[]⟩:ByteArray)=(⟨#[]⟩:ByteArray)∧(0:Int)=0∧(0:Int)=0∧(0:Int)=0∧(0:Int)=0∧(0:Int)=0∧True∧True)∧(prE1 pI' pC' pB' atZ' l n t)∧True else bif decide ¬k=(1:Int) then True∧bif !isN f a b c then (apZr zI zN zS apE apX apP unb' pB' l rd k t f a b c n)∧(9:Int)=apE l k n t f a b c rd∧True else ∃ x,ApOk l rd k n t f a b c
 x∧((0:Nat)=0∧(0:Nat)=0∧(0:Nat)=0∧True)∧(k=k∧n=n∧t=t∧f=f∧a=a∧b=b∧c=c∧((bif h then h=true else True)∧rd=rd)∧True)∧((0:Int)=0∧(⟨#[]⟩:ByteArray)=(⟨#[]⟩:ByteArray)∧(0:Int)=0∧(0:Int)=0∧(0:Int)=0∧(0:Int)=0∧(0:Int)=0∧True∧True)∧(prE1 pI' pC' pB' atZ' l n t)∧True else ∃ x,ApOk l rd k n t f a b c x∧((0:Nat)=0∧(0:Nat)=0∧(0:Nat)=0∧True)∧(k=k∧n=n∧t=t∧f=f∧a=a∧b=b∧c=c∧((bif h then h=true else
 True)∧rd=rd)∧True)∧((0:Int)=0∧(⟨#[]⟩:ByteArray)=(⟨#[]⟩:ByteArray)∧(0:Int)=0∧(0:Int)=0∧(0:Int)=0∧(0:Int)=0∧(0:Int)=0∧True∧True)∧(prE1 pI' pC' pB' atZ' l n t)∧True else bif decide (atE l n t=(0:Int)) then bif pC' (atZ' l n t) then (apZr zI zN zS apE apX apP unb' pB' l rd k t f a b c n)∧(7:Int)=apE l k n t f a b c rd∧True else bif decide ¬k=(1:Int) then True∧bif !isN f a b c then (apZr zI zN zS
 apE apX apP unb' pB' l rd k t f a b c n)∧(9:Int)=apE l k n t f a b c rd∧True else ∃ x,ApOk l rd k n t f a b c x∧((0:Nat)=0∧(0:Nat)=0∧(0:Nat)=0∧True)∧(k=k∧n=n∧t=t∧f=f∧a=a∧b=b∧c=c∧((bif h then h=true else True)∧rd=rd)∧True)∧((0:Int)=0∧(⟨#[]⟩:ByteArray)=(⟨#[]⟩:ByteArray)∧(0:Int)=0∧(0:Int)=0∧(0:Int)=0∧(0:Int)=0∧(0:Int)=0∧True∧True)∧(prE1 pI' pC' pB' atZ' l n t)∧True else ∃ x,ApOk l rd k n t f a b c
 x∧((0:Nat)=0∧(0:Nat)=0∧(0:Nat)=0∧True)∧(k=k∧n=n∧t=t∧f=f∧a=a∧b=b∧c=c∧((bif h then h=true else True)∧rd=rd)∧True)∧((0:Int)=0∧(⟨#[]⟩:ByteArray)=(⟨#[]⟩:ByteArray)∧(0:Int)=0∧(0:Int)=0∧(0:Int)=0∧(0:Int)=0∧(0:Int)=0∧True∧True)∧(prE1 pI' pC' pB' atZ' l n t)∧True else bif decide ¬k=(1:Int) then True∧bif !isN f a b c then (apZr zI zN zS apE apX apP unb' pB' l rd k t f a b c n)∧(9:Int)=apE l k n t f a b c
 rd∧True else ∃ x,ApOk l rd k n t f a b c x∧((0:Nat)=0∧(0:Nat)=0∧(0:Nat)=0∧True)∧(k=k∧n=n∧t=t∧f=f∧a=a∧b=b∧c=c∧((bif h then h=true else True)∧rd=rd)∧True)∧((0:Int)=0∧(⟨#[]⟩:ByteArray)=(⟨#[]⟩:ByteArray)∧(0:Int)=0∧(0:Int)=0∧(0:Int)=0∧(0:Int)=0∧(0:Int)=0∧True∧True)∧(prE1 pI' pC' pB' atZ' l n t)∧True else ∃ x,ApOk l rd k n t f a b c
 x∧((0:Nat)=0∧(0:Nat)=0∧(0:Nat)=0∧True)∧(k=k∧n=n∧t=t∧f=f∧a=a∧b=b∧c=c∧((bif h then h=true else True)∧rd=rd)∧True)∧((0:Int)=0∧(⟨#[]⟩:ByteArray)={ data:=#[] }∧(0:Int)=0∧(0:Int)=0∧(0:Int)=0∧(0:Int)=0∧(0:Int)=0∧True∧True)∧(prE1 pI' pC' pB' atZ' l n t)∧True else bif fiB l n then bif decide ¬fiK l n=k then (apZr zI zN zS apE apX apP unb' pB' l rd k t f a b c n)∧(7:Int)=apE l k n t f a b c rd∧True else
 bif decide (atE l n t=(0:Int)) then bif pC' (atZ' l n t) then (apZr zI zN zS apE apX apP unb' pB' l rd k t f a b c n)∧(7:Int)=apE l k n t f a b c rd∧True else bif decide ¬k=(1:Int) then True∧bif !isN f a b c then (apZr zI zN zS apE apX apP unb' pB' l rd k t f a b c n)∧(9:Int)=apE l k n t f a b c rd∧True else ∃ x,ApOk l rd k n t f a b c
 x∧((0:Nat)=0∧(0:Nat)=0∧(0:Nat)=0∧True)∧(k=k∧n=n∧t=t∧f=f∧a=a∧b=b∧c=c∧((bif h then h=true else True)∧rd=rd)∧True)∧((0:Int)=0∧(⟨#[]⟩:ByteArray)=(⟨#[]⟩:ByteArray)∧(0:Int)=0∧(0:Int)=0∧(0:Int)=0∧(0:Int)=0∧(0:Int)=0∧True∧True)∧(prE1 pI' pC' pB' atZ' l n t)∧True else ∃ x,ApOk l rd k n t f a b c x∧((0:Nat)=0∧(0:Nat)=0∧(0:Nat)=0∧True)∧(k=k∧n=n∧t=t∧f=f∧a=a∧b=b∧c=c∧((bif h then h=true else
 True)∧rd=rd)∧True)∧((0:Int)=0∧(⟨#[]⟩:ByteArray)=(⟨#[]⟩:ByteArray)∧(0:Int)=0∧(0:Int)=0∧(0:Int)=0∧(0:Int)=0∧(0:Int)=0∧True∧True)∧(prE1 pI' pC' pB' atZ' l n t)∧True else bif decide ¬k=(1:Int) then True∧bif !isN f a b c then (apZr zI zN zS apE apX apP unb' pB' l rd k t f a b c n)∧(9:Int)=apE l k n t f a b c rd∧True else ∃ x,ApOk l rd k n t f a b c
 x∧((0:Nat)=0∧(0:Nat)=0∧(0:Nat)=0∧True)∧(k=k∧n=n∧t=t∧f=f∧a=a∧b=b∧c=c∧((bif h then h=true else True)∧rd=rd)∧True)∧((0:Int)=0∧(⟨#[]⟩:ByteArray)=(⟨#[]⟩:ByteArray)∧(0:Int)=0∧(0:Int)=0∧(0:Int)=0∧(0:Int)=0∧(0:Int)=0∧True∧True)∧(prE1 pI' pC' pB' atZ' l n t)∧True else ∃ x,ApOk l rd k n t f a b c x∧((0:Nat)=0∧(0:Nat)=0∧(0:Nat)=0∧True)∧(k=k∧n=n∧t=t∧f=f∧a=a∧b=b∧c=c∧((bif h then h=true else
 True)∧rd=rd)∧True)∧((0:Int)=0∧(⟨#[]⟩:ByteArray)=(⟨#[]⟩:ByteArray)∧(0:Int)=0∧(0:Int)=0∧(0:Int)=0∧(0:Int)=0∧(0:Int)=0∧True∧True)∧(prE1 pI' pC' pB' atZ' l n t)∧True else bif decide (atE l n t=(0:Int)) then bif pC' (atZ' l n t) then (apZr zI zN zS apE apX apP unb' pB' l rd k t f a b c n)∧(7:Int)=apE l k n t f a b c rd∧True else bif decide ¬k=(1:Int) then True∧bif !isN f a b c then (apZr zI zN zS
 apE apX apP unb' pB' l rd k t f a b c n)∧(9:Int)=apE l k n t f a b c rd∧True else ∃ x,ApOk l rd k n t f a b c x∧((0:Nat)=0∧(0:Nat)=0∧(0:Nat)=0∧True)∧(k=k∧n=n∧t=t∧f=f∧a=a∧b=b∧c=c∧((bif h then h=true else True)∧rd=rd)∧True)∧((0:Int)=0∧(⟨#[]⟩:ByteArray)=(⟨#[]⟩:ByteArray)∧(0:Int)=0∧(0:Int)=0∧(0:Int)=0∧(0:Int)=0∧(0:Int)=0∧True∧True)∧(prE1 pI' pC' pB' atZ' l n t)∧True else ∃ x,ApOk l rd k n t f a b c
 x∧((0:Nat)=0∧(0:Nat)=0∧(0:Nat)=0∧True)∧(k=k∧n=n∧t=t∧f=f∧a=a∧b=b∧c=c∧((bif h then h=true else True)∧rd=rd)∧True)∧((0:Int)=0∧(⟨#[]⟩:ByteArray)={ data:=#[] }∧(0:Int)=0∧(0:Int)=0∧(0:Int)=0∧(0:Int)=0∧(0:Int)=0∧True∧True)∧(prE1 pI' pC' pB' atZ' l n t)∧True else bif decide ¬k=(1:Int) then True∧bif !isN f a b c then (apZr zI zN zS apE apX apP unb' pB' l rd k t f a b c n)∧(9:Int)=apE l k n t f a b c
 rd∧True else ∃ x,ApOk l rd k n t f a b c x∧((0:Nat)=0∧(0:Nat)=0∧(0:Nat)=0∧True)∧(k=k∧n=n∧t=t∧f=f∧a=a∧b=b∧c=c∧((bif h then h=true else True)∧rd=rd)∧True)∧((0:Int)=0∧(⟨#[]⟩:ByteArray)=(⟨#[]⟩:ByteArray)∧(0:Int)=0∧(0:Int)=0∧(0:Int)=0∧(0:Int)=0∧(0:Int)=0∧True∧True)∧(prE1 pI' pC' pB' atZ' l n t)∧True else ∃ x,ApOk l rd k n t f a b c
 x∧((0:Nat)=0∧(0:Nat)=0∧(0:Nat)=0∧True)∧(k=k∧n=n∧t=t∧f=f∧a=a∧b=b∧c=c∧((bif h then h=true else True)∧rd=rd)∧True)∧((0:Int)=0∧(⟨#[]⟩:ByteArray)=(⟨#[]⟩:ByteArray)∧(0:Int)=0∧(0:Int)=0∧(0:Int)=0∧(0:Int)=0∧(0:Int)=0∧True∧True)∧(prE1 pI' pC' pB' atZ' l n t)∧True)∧∀ (x:PUnit),ApOk l rd k n t f a b c x→(bif decide (k=(1:Int)) then ∃ x,ApPl l k n t f a b c
 x∧((0:Nat)=0∧(0:Nat)=0∧(0:Nat)=0∧(0:Nat)=0∧True)∧(k=k∧n=n∧t=t∧f=f∧a=a∧b=b∧c=c∧((bif h then h=true else True)∧rd=rd)∧True)∧((0:Int)=0∧(⟨#[]⟩:ByteArray)=(⟨#[]⟩:ByteArray)∧(0:Int)=0∧(0:Int)=0∧(0:Int)=0∧(0:Int)=0∧(0:Int)=0∧True∧True)∧(prE2 l n t)∧(k=k∧n=n∧t=t∧pI (2:Nat) (atZ l n t)=x.fst∧pI (3:Nat) (atZ l n t)=x.snd.fst∧pI (4:Nat) (atZ l n t)=x.snd.snd.fst∧pI (5:Nat) (atZ l n
 t)=x.snd.snd.snd∧True∧True)∧True else ∃ x,ApPl l k n t f a b c x∧((0:Nat)=0∧(0:Nat)=0∧(0:Nat)=0∧(0:Nat)=0∧True)∧(k=k∧n=n∧t=t∧f=f∧a=a∧b=b∧c=c∧((bif h then h=true else True)∧rd=rd)∧True)∧((0:Int)=0∧(⟨#[]⟩:ByteArray)=(⟨#[]⟩:ByteArray)∧(0:Int)=0∧(0:Int)=0∧(0:Int)=0∧(0:Int)=0∧(0:Int)=0∧True∧True)∧(prE2 l n t)∧(k=k∧n=n∧t=t∧f=x.fst∧a=x.snd.fst∧b=x.snd.snd.fst∧c=x.snd.snd.snd∧True∧True)∧True)∧∀ (x :
 Int × Int × Int × Int),ApPl l k n t f a b c x→(∃ x_1,CoI rd x_1∧((0:Nat)=0∧(0:Nat)=0∧(0:Nat)=0∧(0:Nat)=0∧((bif h then h=true else True)∧rd=rd)∧(↑rd.length:Int)=(↑rd.length:Int)∧(0:Int)=x_1∧True)∧((0:Int)=0∧(⟨#[]⟩:ByteArray)={ data:=#[] }∧(0:Int)=0∧(0:Int)=0∧(0:Int)=0∧(0:Int)=0∧(0:Int)=0∧True∧True)∧(prE2 l n
 t)∧(k=k∧n=n∧t=t∧x.fst=x.fst∧x.snd.fst=x.snd.fst∧x.snd.snd.fst=x.snd.snd.fst∧x.snd.snd.snd=x.snd.snd.snd∧(0:Nat)=List.length (unb (List.take (Int.toNat x_1) rd) (pB (atZ l n t)))∧True)∧[]=unb (List.take (Int.toNat x_1) rd) (pB (atZ l n t))∧True)∧∀ (x_1:Int),CoI rd x_1→bif decide (x_1 < (↑rd.length:Int)) then bif decide (0≤x_1∧x_1 < (↑rd.length:Int)) then ∃ n_1 n_2,List.take [AV.int .i64
 n_1,.int .i64 n_2].length (rd.getD x_1.toNat [])=[AV.int .i64 n_1,.int .i64 n_2]∧RdsP (pB (atZ l n t))∧True∧bif decide (inLo n_1≤IntKind.i64.wrap (n_2 - fdV (pB (atZ l n t)) n_1)) then bif decide (IntKind.i64.wrap (n_2 - fdV (pB (atZ l n t)) n_1)≤inHi n_1) then bif decide (List.length (unb (List.take x_1.toNat rd) (pB (atZ l n t)))=List.length (unb (List.take x_1.toNat rd) (pB (atZ l n
 t)))∧List.length (unb (List.take x_1.toNat rd) (pB (atZ l n t)))+[[AV.int .i64 n_1,.int .i64 (IntKind.i64.wrap (n_2 - fdV (pB (atZ l n t)) n_1))]].length≤(9223372036854775807:Nat)∧(List.length (unb (List.take x_1.toNat rd) (pB (atZ l n t)))+[[AV.int .i64 n_1,.int .i64 (IntKind.i64.wrap (n_2 - fdV (pB (atZ l n t)) n_1))]].length)*(16:Nat)≤(140737488355328:Nat)) then ∃ y,CoI rd y∧(rpl21 rd
 (pB (atZ l n t)) h k n t x.fst x.snd.fst x.snd.snd.fst x.snd.snd.snd [AV.int .i64 (pI (0:Nat) (atZ l n t)),.bool (pC (atZ l n t)),.int .i64 (pI (2:Nat) (atZ l n t)),.int .i64 (pI (3:Nat) (atZ l n t)),.int .i64 (pI (4:Nat) (atZ l n t)),.int .i64 (pI (5:Nat) (atZ l n t)),.sl (2:Nat) false (pB (atZ l n t))]).m y < (rpl21 rd (pB (atZ l n t)) h k n t x.fst x.snd.fst x.snd.snd.fst x.snd.snd.snd [AV.int
 .i64 (pI (0:Nat) (atZ l n t)),.bool (pC (atZ l n t)),.int .i64 (pI (2:Nat) (atZ l n t)),.int .i64 (pI (3:Nat) (atZ l n t)),.int .i64 (pI (4:Nat) (atZ l n t)),.int .i64 (pI (5:Nat) (atZ l n t)),.sl (2:Nat) false (pB (atZ l n t))]).m x_1∧((0:Nat)=0∧(0:Nat)=0∧(0:Nat)=0∧(0:Nat)=0∧((bif h then h=true else True)∧rd=rd)∧(↑rd.length:Int)=(↑rd.length:Int)∧IntKind.i64.wrap (x_1 +
 (1:Int))=y∧True)∧((0:Int)=0∧(⟨#[]⟩:ByteArray)=(⟨#[]⟩:ByteArray)∧(0:Int)=0∧(0:Int)=0∧(0:Int)=0∧(0:Int)=0∧(0:Int)=0∧True∧True)∧(prE2 l n t)∧(k=k∧n=n∧t=t∧x.fst=x.fst∧x.snd.fst=x.snd.fst∧x.snd.snd.fst=x.snd.snd.fst∧x.snd.snd.snd=x.snd.snd.snd∧(unb (List.take x_1.toNat rd) (pB (atZ l n t))++[[AV.int .i64 n_1,.int .i64 (IntKind.i64.wrap (n_2 - fdV (pB (atZ l n t)) n_1))]]).length=List.length (unb
 (List.take (Int.toNat y) rd) (pB (atZ l n t)))∧True)∧unb (List.take x_1.toNat rd) (pB (atZ l n t))++[[AV.int .i64 n_1,.int .i64 (IntKind.i64.wrap (n_2 - fdV (pB (atZ l n t)) n_1))]]=unb (List.take (Int.toNat y) rd) (pB (atZ l n t))∧True else False else ∃ y,CoI rd y∧(rpl21 rd (pB (atZ l n t)) h k n t x.fst x.snd.fst x.snd.snd.fst x.snd.snd.snd [AV.int .i64 (pI (0:Nat) (atZ l n t)),.bool (pC (atZ l
 n t)),.int .i64 (pI (2:Nat) (atZ l n t)),.int .i64 (pI (3:Nat) (atZ l n t)),.int .i64 (pI (4:Nat) (atZ l n t)),.int .i64 (pI (5:Nat) (atZ l n t)),.sl (2:Nat) false (pB (atZ l n t))]).m y < (rpl21 rd (pB (atZ l n t)) h k n t x.fst x.snd.fst x.snd.snd.fst x.snd.snd.snd [AV.int .i64 (pI (0:Nat) (atZ l n t)),.bool (pC (atZ l n t)),.int .i64 (pI (2:Nat) (atZ l n t)),.int .i64 (pI (3:Nat) (atZ l n
 t)),.int .i64 (pI (4:Nat) (atZ l n t)),.int .i64 (pI (5:Nat) (atZ l n t)),.sl (2:Nat) false (pB (atZ l n t))]).m x_1∧((0:Nat)=0∧(0:Nat)=0∧(0:Nat)=0∧(0:Nat)=0∧((bif h then h=true else True)∧rd=rd)∧(↑rd.length:Int)=(↑rd.length:Int)∧IntKind.i64.wrap (x_1+(1:Int))=y∧True)∧((0:Int)=0∧(⟨#[]⟩:ByteArray)=(⟨#[]⟩:ByteArray)∧(0:Int)=0∧(0:Int)=0∧(0:Int)=0∧(0:Int)=0∧(0:Int)=0∧True∧True)∧(prE2 l n
 t)∧(k=k∧n=n∧t=t∧x.fst=x.fst∧x.snd.fst=x.snd.fst∧x.snd.snd.fst=x.snd.snd.fst∧x.snd.snd.snd=x.snd.snd.snd∧List.length (unb (List.take x_1.toNat rd) (pB (atZ l n t)))=List.length (unb (List.take (Int.toNat y) rd) (pB (atZ l n t)))∧True)∧unb (List.take x_1.toNat rd) (pB (atZ l n t))=unb (List.take (Int.toNat y) rd) (pB (atZ l n t))∧True else ∃ y,CoI rd y∧(rpl21 rd (pB (atZ l n t)) h k n t x.fst
 x.snd.fst x.snd.snd.fst x.snd.snd.snd [AV.int .i64 (pI (0:Nat) (atZ l n t)),.bool (pC (atZ l n t)),.int .i64 (pI (2:Nat) (atZ l n t)),.int .i64 (pI (3:Nat) (atZ l n t)),.int .i64 (pI (4:Nat) (atZ l n t)),.int .i64 (pI (5:Nat) (atZ l n t)),.sl (2:Nat) false (pB (atZ l n t))]).m y < (rpl21 rd (pB (atZ l n t)) h k n t x.fst x.snd.fst x.snd.snd.fst x.snd.snd.snd [AV.int .i64 (pI (0:Nat) (atZ l n
 t)),.bool (pC (atZ l n t)),.int .i64 (pI (2:Nat) (atZ l n t)),.int .i64 (pI (3:Nat) (atZ l n t)),.int .i64 (pI (4:Nat) (atZ l n t)),.int .i64 (pI (5:Nat) (atZ l n t)),.sl (2:Nat) false (pB (atZ l n t))]).m x_1∧((0:Nat)=0∧(0:Nat)=0∧(0:Nat)=0∧(0:Nat)=0∧((bif h then h=true else True)∧rd=rd)∧(↑rd.length:Int)=(↑rd.length:Int)∧IntKind.i64.wrap (x_1+(1:Int))=y∧True)∧((0:Int)=0∧(⟨#[]⟩:ByteArray)=(⟨#[]⟩
:ByteArray)∧(0:Int)=0∧(0:Int)=0∧(0:Int)=0∧(0:Int)=0∧(0:Int)=0∧True∧True)∧(prE2 l n t)∧(k=k∧n=n∧t=t∧x.fst=x.fst∧x.snd.fst=x.snd.fst∧x.snd.snd.fst=x.snd.snd.fst∧x.snd.snd.snd=x.snd.snd.snd∧List.length (unb (List.take x_1.toNat rd) (pB (atZ l n t)))=List.length (unb (List.take (Int.toNat y) rd) (pB (atZ l n t)))∧True)∧unb (List.take x_1.toNat rd) (pB (atZ l n t))=unb (List.take (Int.toNat y) rd) (pB
 (atZ l n t))∧True else False else bif decide (List.length (unb (List.take x_1.toNat rd) (pB (atZ l n t)))=List.length (unb (List.take x_1.toNat rd) (pB (atZ l n t)))) then (apYr zI zN zS apE apX apP unb' pB' l rd k t f a b c n (x.fst) (x.snd.fst) (x.snd.snd.fst) (x.snd.snd.snd) (unb (List.take x_1.toNat rd) (pB (atZ l n t))))∧(0:Int)=apE l k n t f a b c rd∧True else False
theorem rapplyF_P:rapplyF_T rgV vdE isN unb zI zN zS apE apX apP atZ atE fiK fiN fiP fiB pI pC pB fdV fdB iL inLo inHi inD inE pdV nmOk laO laR nrm vld:=by
 unfold rapplyF_T
 intro gl g h l rd k t f a b c n ⟨hl,hr,hrl⟩ _ _
 unfold apZr apYr prE1 prE2
 have bh:cond h (h=true) True:=by cases h <;> trivial
 obtain ⟨E,hE⟩:∃ E,E=apE l k n t f a b c rd:=⟨_,rfl⟩
 rw [← hE]
 have hE2:=hE
 unfold apE at hE
 refine ⟨hl,csx (fun q=>ap_err (hE.trans (if_pos q)) q) (fun q=>?_)⟩
 rw [if_neg q] at hE
 have h0:=Decidable.not_not.1 q
 refine ⟨trivial,csplit (fun q2=>ap_err (hE.trans (if_pos (by unfold exK; revert q2; cases decide (1≤k∧k≤3) <;> simp))) (by decide)) (fun q2=>?_)⟩
 have q2:exK k=true:=by unfold exK; simpa using q2
 rw [if_neg (by rw [q2]; decide)] at hE
 refine ⟨hr,csx (fun q3=>ap_err (hE.trans (if_pos q3)) q3) (fun q3=>?_)⟩
 rw [if_neg q3] at hE
 have v0:=Decidable.not_not.1 q3
 have hn:=(rgV_iff.1 h0).2.2
 have hB:=(fi_st hn n).1
 have hK:=(fi_all hn n).2
 have hZ:=zz_ap h0 n t
 have hA:atE l n t=if apI l n t then 0 else 6:=by unfold atE; rw [if_neg q]
 rw [hB,hZ]
 have okx:E=0→ApOk l rd k n t f a b c ():=fun e=>⟨hE2 ▸ e⟩
 have P6:(k=1∧apI l n t=false)→E=6:=fun z=>hE.trans (if_pos z)
 have P7:¬ (k=1∧apI l n t=false)→((stH l n=true∧rE (l.getD (stN l n) [])≠k)∨(apI l n t=true∧pC (apP l n t)=true))→E=7:=fun z w=>by rw [if_neg z,if_pos w] at hE; exact hE
 have P9:¬ (k=1∧apI l n t=false)→¬ ((stH l n=true∧rE (l.getD (stN l n) [])≠k)∨(apI l n t=true∧pC (apP l n t)=true))→k≠1∧isN f a b c=false→E=9:=fun z w y=>by rw [if_neg z,if_neg w,if_pos y] at hE; exact hE
 have P0:¬ (k=1∧apI l n t=false)→¬ ((stH l n=true∧rE (l.getD (stN l n) [])≠k)∨(apI l n t=true∧pC (apP l n t)=true))→¬ (k≠1∧isN f a b c=false)→E=0:=fun z w y=>by rw [if_neg z,if_neg w,if_neg y] at hE; exact hE
 refine ⟨hl,hl,?_,?_⟩
 ·refine csx (fun ha=>?_) (fun ha=>?_)
  ·have hI:apI l n t=false:=by
    cases z:apI l n t with
    | false=>rfl
    | true=>exact absurd (by rw [hA,z]; rfl) ha
   refine csx (fun k1=>ap_err (P6 ⟨k1,hI⟩) (by decide)) (fun k1=>csplit (fun hb=>csx (fun hk=>ap_err (P7 (fun z=>k1 z.1) (.inl ⟨hb,by rw [← hK hb]; exact hk⟩)) (by decide)) (fun hk=>?_)) (fun hb=>?_))
   all_goals
    refine csx (fun z=>absurd z ha) (fun _=>?_)
    refine csx (fun _=>⟨trivial,csplit (fun zn=>ap_err (P9 (fun z=>k1 z.1) (fun z=>z.elim (fun y=>?_) (fun y=>by rw [hI] at y; cases y.1)) ⟨k1,by simpa using zn⟩) (by decide)) (fun zn=>⟨(),okx (P0 (fun z=>k1 z.1) (fun z=>z.elim (fun y=>?_) (fun y=>by rw [hI] at y; cases y.1)) (fun y=>by rw [y.2] at zn; cases zn)),by (repeat' (first | exact trivial | exact rfl | assumption | apply And.intro))⟩)⟩) (fun z=>absurd k1 z)
    all_goals first | exact hk (by rw [hK y.1]; exact y.2) | (rw [hb] at y; cases y.1)
  ·have ha:=Decidable.not_not.1 ha
   have hI:apI l n t=true:=by
    cases z:apI l n t with
    | true=>rfl
    | false=>rw [hA,z] at ha; cases ha
   have n6:¬ (k=1∧apI l n t=false):=fun z=>by rw [hI] at z; cases z.2
   refine csplit (fun hb=>csx (fun hk=>ap_err (P7 n6 (.inl ⟨hb,by rw [← hK hb]; exact hk⟩)) (by decide)) (fun hk=>?_)) (fun hb=>?_)
   all_goals
    refine csx (fun _=>csplit (fun hc=>ap_err (P7 n6 (.inr ⟨hI,hc⟩)) (by decide)) (fun hc=>?_)) (fun z=>absurd ha z)
    refine csx (fun k1=>⟨trivial,csplit (fun zn=>ap_err (P9 n6 (fun z=>z.elim (fun y=>?_) (fun y=>by rw [hc] at y; cases y.2)) ⟨k1,by simpa using zn⟩) (by decide)) (fun zn=>⟨(),okx (P0 n6 (fun z=>z.elim (fun y=>?_) (fun y=>by rw [hc] at y; cases y.2)) (fun y=>by rw [y.2] at zn; cases zn)),by (repeat' (first | exact trivial | exact rfl | assumption | apply And.intro))⟩)⟩) (fun k1=>⟨(),okx (P0 n6 (fun z=>z.elim (fun y=>?_) (fun y=>by rw [hc] at y; cases y.2)) (fun y=>k1 y.1)),by (repeat' (first | exact trivial | exact rfl | assumption | apply And.intro))⟩)
    all_goals first | exact hk (by rw [hK y.1]; exact y.2) | (rw [hb] at y; cases y.1)
 rintro ⟨⟩ ⟨he⟩
 rw [← hE2] at he
 rw [he]
 have hb:RdsP (pB (apP l n t)):=ap_bias hl n t
 refine ⟨csx (fun k1=>⟨(_,_,_,_),⟨(if_pos k1).symm,(if_pos k1).symm,(if_pos k1).symm,(if_pos k1).symm⟩,by (repeat' (first | exact trivial | exact rfl | assumption | apply And.intro))⟩) (fun k1=>⟨(_,_,_,_),⟨(if_neg k1).symm,(if_neg k1).symm,(if_neg k1).symm,(if_neg k1).symm⟩,by (repeat' (first | exact trivial | exact rfl | assumption | apply And.intro))⟩),?_⟩
 rintro ⟨x2,x3,x4,x5⟩ ⟨f2,f3,f4,f5⟩
 simp only at f2 f3 f4 f5
 dsimp only
 refine ⟨⟨0,⟨by decide,by omega⟩,by (repeat' (first | exact trivial | exact rfl | assumption | apply And.intro))⟩,?_⟩
 rintro x ⟨x0,x1⟩
 refine csx (fun hx=>cd1 (by omega) ?_) (fun hx=>cd1 rfl ?_)
 ·obtain ⟨e,v,he,hre,hrv⟩:=hr.row x.toNat (by omega)
  have w:IntKind.i64.wrap (x+1)=x+1:=wrap_eq (by show _∧_; omega)
  have hck:=(vd_zero.1 v0).1 _ (gD_mem (show x.toNat < rd.length by omega))
  rw [he] at hck
  have hok:okC e=true:=ck_ok hck
  have ut:=unb_take (bs:=pB (apP l n t)) (show x.toNat < rd.length by omega)
  rw [he] at ut
  have ut:unb (rd.take (x.toNat+1)) (pB (apP l n t))=if ck e (IntKind.i64.wrap (v - fdV (pB (apP l n t)) e))=0 then unb (rd.take x.toNat) (pB (apP l n t))++[[.int .i64 e,.int .i64 (IntKind.i64.wrap (v - fdV (pB (apP l n t)) e))]] else unb (rd.take x.toNat) (pB (apP l n t)):=ut
  have ul:=Nat.le_trans (unb_len (rd.take x.toNat) (pB (apP l n t))) (by rw [List.length_take]; exact Nat.min_le_right _ _)
  rw [show x.toNat+1=(x+1).toNat by omega] at ut
  refine ⟨e,v,by rw [he]; rfl,hb,trivial,csx (fun z1=>csx (fun z2=>cd1 ⟨rfl,by rw [List.length_singleton]; omega,by rw [List.length_singleton]; omega⟩ ?_) (fun z2=>?_)) (fun z1=>?_)⟩
  ·rw [if_pos ((ck_in hok).2 ⟨z1,z2⟩)] at ut
   exact ⟨x+1,⟨by omega,by omega⟩,by simp only [rpl21]; omega,by (repeat' (first | exact trivial | exact rfl | assumption | apply And.intro)),by (repeat' (first | exact trivial | exact rfl | assumption | apply And.intro)),by (repeat' (first | exact trivial | exact rfl | assumption | apply And.intro)),⟨rfl,rfl,rfl,rfl,rfl,rfl,rfl,by rw [ut],trivial⟩,ut.symm,trivial⟩
  ·rw [if_neg (fun z=>z2 ((ck_in hok).1 z).2)] at ut
   exact ⟨x+1,⟨by omega,by omega⟩,by simp only [rpl21]; omega,by (repeat' (first | exact trivial | exact rfl | assumption | apply And.intro)),by (repeat' (first | exact trivial | exact rfl | assumption | apply And.intro)),by (repeat' (first | exact trivial | exact rfl | assumption | apply And.intro)),⟨rfl,rfl,rfl,rfl,rfl,rfl,rfl,by rw [ut],trivial⟩,ut.symm,trivial⟩
  ·rw [if_neg (fun z=>z1 ((ck_in hok).1 z).1)] at ut
   exact ⟨x+1,⟨by omega,by omega⟩,by simp only [rpl21]; omega,by (repeat' (first | exact trivial | exact rfl | assumption | apply And.intro)),by (repeat' (first | exact trivial | exact rfl | assumption | apply And.intro)),by (repeat' (first | exact trivial | exact rfl | assumption | apply And.intro)),⟨rfl,rfl,rfl,rfl,rfl,rfl,rfl,by rw [ut],trivial⟩,ut.symm,trivial⟩
 ·rw [List.take_of_length_le (show rd.length≤x.toNat by omega)]
  exact ap_ok rfl f2 f3 f4 f5 rfl
def rapplyF_S (rgV:LLR→Int) (vdE:LLR→Int) (isN:Int→Int→Int→Int→Bool) (unb:LLR→LLR→LLR) (zI:Int→Int→Int) (zN:Int→ByteArray→ByteArray) (zS:Int→LLR→LLR) (apE:LLR→Int→ByteArray→Int→Int→Int→Int→Int→LLR→Int) (apX:Nat→LLR→Int→ByteArray→Int→Int→Int) (apP:LLR→ByteArray→Int→List AV) (atZ:LLR→ByteArray→Int→List AV) (atE:LLR→ByteArray→Int→Int) (fiK:LLR→ByteArray→Int) (fiN:LLR→ByteArray→ByteArray) (fiP:LLR→ByteArray→LLR) (fiB:LLR→ByteArray→Bool) (pI:Nat→List AV→Int) (pC:List AV→Bool) (pB:List AV→LLR) (fdV:LLR→Int→Int) (fdB:LLR→Int→Bool) (iL:Int→ByteArray) (inLo:Int→Int) (inHi:Int→Int) (inD:Int→Int) (inE:Int→Int) (pdV:Int→Int→Bool→Int→Int→Int→Int→LLR→Bool) (nmOk:ByteArray→Bool) (laO:LLR→Int→Int→Option (List AV)) (laR:LLR→Int→Int→List AV) (nrm:Int→Int→Int→Int→Int × Int × Int × Int) (vld:Int→Int→Int→Int→Bool):Prop:=∀ (gl:Glob) (g h:Bool) (l rd:List (List AV)) (k t f a b c:Int) (n:ByteArray),StsP l∧RdsP rd∧rd.length≤1000→fnK Tryz.prog { glob:=gl,spec:=lk [(32,(rvalidF_s pdV nmOk rgV)),(51,rkind_s),(20,(rvalid_s vdE)),(23,(rfindF_s fiK fiN fiP fiB)),(35,(ratF_s rgV atZ atE fiK fiN fiP fiB laO laR pI pC pB)),(52,(rIsN_s nrm vld isN)),(21,rfind_s),(53,(rdesc_s iL inLo inHi inD inE))],specH:=lk [],shape:=[112],nowf:=true,wrap:=true } { nt:=152,drop:=drp [(1,1572864),(2,2097152),(3,25165824),(4,234881024),(5,536870912),(6,7516192768),(7,8589934592),(8,103079215104),(9,17454747090944),(10,8989607068696576),(11,2287828610704211968),(12,2305843009213693952),(13,604453686435277732577280),(14,604462909807314587353088),(15,1235522187646151016549711872),(16,1237940039285380274899124224),(17,1265174720149658640946904956928),(18,3802951800684688204490109616128),(19,70988433612780846483815379501056),(20,81129638414606681695789005144064),(22,7788445287802241442795744493830144),(23,2648071397852762090550553127902248960),(24,82412135738664784120036037737381363712),(25,5359447279004780799548150067050349330432),(26,11144928081394576555352445142605272461606912),(27,1404946947507429257916750251176846774876766208),(28,1427247692705959881058285969449495136382746624),(29,2854495385411919762116571938898990272765493248)],emp:=fun id=>cond (Nat.beq id 20) [(1001207,1500,76,2)] [] } (rplK l rd h k n t f a b c) 6 Tryz.f17 [.agg [.sl 3 g l],.agg [.int .i64 k,.str n,.int .i64 t,.int .i64 f,.int .i64 a,.int .i64 b,.int .i64 c,.sl 2 h rd]] (.tup [.agg [.int .i64 (zI (apE l k n t f a b c rd) k),.str (zN (apE l k n t f a b c rd) n),.int .i64 (zI (apE l k n t f a b c rd) t),.int .i64 (zI (apE l k n t f a b c rd) (apX 2 l k n t f)),.int .i64 (zI (apE l k n t f a b c rd) (apX 3 l k n t a)),.int .i64 (zI (apE l k n t f a b c rd) (apX 4 l k n t b)),.int .i64 (zI (apE l k n t f a b c rd) (apX 5 l k n t c)),.sl 2 false (zS (apE l k n t f a b c rd) (unb rd (pB (apP l n t))))],.int .i64 (apE l k n t f a b c rd)])
theorem rapplyF_e (rgV:LLR→Int) (vdE:LLR→Int) (isN:Int→Int→Int→Int→Bool) (unb:LLR→LLR→LLR) (zI:Int→Int→Int) (zN:Int→ByteArray→ByteArray) (zS:Int→LLR→LLR) (apE:LLR→Int→ByteArray→Int→Int→Int→Int→Int→LLR→Int) (apX:Nat→LLR→Int→ByteArray→Int→Int→Int) (apP:LLR→ByteArray→Int→List AV) (atZ:LLR→ByteArray→Int→List AV) (atE:LLR→ByteArray→Int→Int) (fiK:LLR→ByteArray→Int) (fiN:LLR→ByteArray→ByteArray) (fiP:LLR→ByteArray→LLR) (fiB:LLR→ByteArray→Bool) (pI:Nat→List AV→Int) (pC:List AV→Bool) (pB:List AV→LLR) (fdV:LLR→Int→Int) (fdB:LLR→Int→Bool) (iL:Int→ByteArray) (inLo:Int→Int) (inHi:Int→Int) (inD:Int→Int) (inE:Int→Int) (pdV:Int→Int→Bool→Int→Int→Int→Int→LLR→Bool) (nmOk:ByteArray→Bool) (laO:LLR→Int→Int→Option (List AV)) (laR:LLR→Int→Int→List AV) (nrm:Int→Int→Int→Int→Int × Int × Int × Int) (vld:Int→Int→Int→Int→Bool):rapplyF_T rgV vdE isN unb zI zN zS apE apX apP atZ atE fiK fiN fiP fiB pI pC pB fdV fdB iL inLo inHi inD inE pdV nmOk laO laR nrm vld=rapplyF_S rgV vdE isN unb zI zN zS apE apX apP atZ atE fiK fiN fiP fiB pI pC pB fdV fdB iL inLo inHi inD inE pdV nmOk laO laR nrm vld:=by kernel_rfl
theorem rapplyF_v:rapplyF_S rgV vdE isN unb zI zN zS apE apX apP atZ atE fiK fiN fiP fiB pI pC pB fdV fdB iL inLo inHi inD inE pdV nmOk laO laR nrm vld:=Eq.mp (rapplyF_e ..) (rapplyF_P)
theorem rapplyF_ok (gl:Glob):SOK Tryz.prog gl 17 (rapplyF_s rgV vdE isN unb zI zN zS apE apX apP atZ atE fiK fiN fiP fiB pI pC pB fdV fdB iL inLo inHi inD inE):=by
 refine ⟨fok Tryz.func17 (by kernel_rfl) (by kernel_rfl),?_⟩
 intro xs pre r h hp
 unfold rapplyF_s at h
 split at h
 ·simp only [Option.some.injEq,Prod.mk.injEq] at h
  obtain ⟨h1,h2⟩:=h
  subst h1 h2
  exact fnK_sound tyNil (by exact specOK rfl rfl ⟨(rvalidF_ok gl),(rkind_ok gl),(rvalid_ok gl),(rfindF_ok gl),(ratF_ok gl),(rIsN_ok gl),(rfind_ok gl),(rdesc_ok gl),trivial⟩ trivial) (by kernel_rfl) Tryz.func17 rfl (rapplyF_v gl _ _ _ _ _ _ _ _ _ _ _ hp)
 ·cases h
end Go.Proofs.YtldiagnbagpliaaGreatDoor
namespace Go.Proofs.YtldiagnbagpliaaGreatDoor
open Go
open Go.ChangeShapes Go.WideShapes
open Go.RowKit (Below)
set_option linter.unusedVariables false
set_option linter.unusedSimpArgs false
def pinAll (w:World):Pin:=fun b o=>match w.cell? ⟨b,o,none⟩ with | some v=>cond v.oneCell' (some v) none | none=>none
theorem pinAll_some {w:World} {b o:Nat} {v:Value} (h:w.cell? ⟨b,o,none⟩=some v) (k:v.oneCell'=true):pinAll w b o=some v:=by simp [pinAll,h,k]
theorem agree_all (w:World):Agree (pinAll w) w:=by
 intro b o v h
 unfold pinAll at h
 split at h
 ·next u e =>
  cases hk:u.oneCell' with
  | true=>rw [hk] at h; simp only [cond_true,Option.some.injEq] at h; subst h; exact ⟨e,hk⟩
  | false=>rw [hk] at h; cases h
 ·cases h
def tiles (P:Program):List Field→Nat→Nat→Bool
 | [],o,n=>Nat.beq o n
 | f::fs,o,n=>Nat.beq f.offset o&&tiles P fs (o+P.cellsOf f.type) n
def supp (P:Program):Nat→TypeId→Bool
 | 0,_=>false
 | n+1,t=>match P.underlying t with
  | some .bool=>true
  | some (.int _)=>true
  | some .string=>true
  | some (.slice e)=>Nat.blt 0 (P.cellsOf e)&&supp P n e
  | some (.struct fs)=>tiles P fs.toList 0 (P.cellsOf t)&&fs.toList.all fun f=>supp P n f.type
  | some (.array m e)=>Nat.beq (m*P.cellsOf e) (P.cellsOf t)&&supp P n e
  | _=>false
def ShF (P:Program) (sh:TypeId→List AV→Prop):List Field→List AV→Prop
 | [],cs=>cs=[]
 | f::fs,cs=>∃ ys zs,sh f.type ys∧ShF P sh fs zs∧cs=ys++zs
def ShE (sh:List AV→Prop):Nat→List AV→Prop
 | 0,cs=>cs=[]
 | n+1,cs=>∃ ys zs,sh ys∧ShE sh n zs∧cs=ys++zs
theorem shF_of {P:Program} {S:Pin} {sh:TypeId→List AV→Prop} {vs:List Value}:∀ (fs:List Field) (o tot:Nat),tiles P fs o tot=true→vs.length=tot →
  (∀ f ∈ fs,∃ ys,sh f.type ys∧allOne ys=true∧CVl S ys noNm ((vs.drop f.offset).take (P.cellsOf f.type)))→∃ cs,ShF P sh fs cs∧allOne cs=true∧CVl S cs noNm (vs.drop o)
 | [],o,tot,ht,hl,_=>by
  simp only [tiles] at ht
  have:=Nat.eq_of_beq_eq_true ht
  exact ⟨[],rfl,rfl,by simp only [CVl]; exact List.drop_eq_nil_of_le (by omega)⟩
 | f::fs,o,tot,ht,hl,h=>by
  simp only [tiles,Bool.and_eq_true] at ht
  obtain ⟨ho,ht⟩:=ht
  have ho:=Nat.eq_of_beq_eq_true ho
  obtain ⟨ys,h1,h2,h3⟩:=h f (List.mem_cons_self ..)
  obtain ⟨zs,k1,k2,k3⟩:=shF_of fs _ tot ht hl (fun g hg=>h g (List.mem_cons_of_mem _ hg))
  refine ⟨ys++zs,⟨ys,zs,h1,k1,rfl⟩,allOne_append h2 k2,?_⟩
  rw [ho] at h3
  have e:vs.drop o=(vs.drop o).take (P.cellsOf f.type)++vs.drop (o+P.cellsOf f.type):=by
   rw [← List.drop_drop]; exact (List.take_append_drop _ _).symm
  rw [e]
  exact CVl.append h3 k3
where allOne_append:∀ {xs ys:List AV},allOne xs=true→allOne ys=true→allOne (xs++ys)=true
 | [],ys,_,h=>h
 | x::xs,ys,h,k=>by
  simp only [allOne,Bool.and_eq_true,List.cons_append] at h ⊢
  exact ⟨h.1,allOne_append h.2 k⟩
theorem shE_of {S:Pin} {sh:List AV→Prop} {s:Nat}:∀ (n:Nat) (vs:List Value),vs.length=n*s→(∀ i,i < n→∃ ys,sh ys∧allOne ys=true∧CVl S ys noNm ((vs.drop (i*s)).take s)) →
  ∃ cs,ShE sh n cs∧allOne cs=true∧CVl S cs noNm vs
 | 0,vs,hl,_=>⟨[],rfl,rfl,by simp only [CVl]; exact List.eq_nil_of_length_eq_zero (by omega)⟩
 | n+1,vs,hl,h=>by
  obtain ⟨ys,h1,h2,h3⟩:=h 0 (by omega)
  have hl':vs.length=n*s+s:=by rw [hl,Nat.succ_mul]
  obtain ⟨zs,k1,k2,k3⟩:=shE_of n (vs.drop s) (by rw [List.length_drop,hl',Nat.add_sub_cancel]) (fun i hi=>by
   obtain ⟨q,q1,q2,q3⟩:=h (i+1) (by omega)
   refine ⟨q,q1,q2,?_⟩
   rw [List.drop_drop,show s+i*s=(i+1)*s by rw [Nat.succ_mul]; omega]
   exact q3)
  refine ⟨ys++zs,⟨ys,zs,h1,k1,rfl⟩,shF_of.allOne_append h2 k2,?_⟩
  rw [Nat.zero_mul,List.drop_zero] at h3
  have e:vs=vs.take s++vs.drop s:=(List.take_append_drop _ _).symm
  rw [e]
  exact CVl.append h3 k3
theorem list_of {α:Type} {p:Nat→α→Prop}:∀ (n:Nat),(∀ i,i < n→∃ x,p i x)→∃ xs:List α,xs.length=n∧∀ i x,xs[i]?=some x→p i x
 | 0,_=>⟨[],rfl,by simp⟩
 | n+1,h=>by
  obtain ⟨xs,h1,h2⟩:=list_of n (fun i hi=>h i (by omega))
  obtain ⟨x,hx⟩:=h n (by omega)
  refine ⟨xs++[x],by simp [h1],fun i y hy=>?_⟩
  rcases Nat.lt_or_ge i xs.length with hi | hi
  ·rw [List.getElem?_append_left hi] at hy; exact h2 i y hy
  ·rw [List.getElem?_append_right hi] at hy
   rcases Nat.eq_zero_or_pos (i - xs.length) with h0 | h0
   ·rw [h0] at hy
    simp only [List.getElem?_cons_zero,Option.some.injEq] at hy
    rw [← hy,show i=n by omega]; exact hx
   ·rw [List.getElem?_eq_none (by simp; omega)] at hy; cases hy
section
variable {H:Type} {enc:TypeId × Value→H} {P:Program} {w:World} {base:Nat} {held:Bool}
theorem rng_wf {k:IntKind} {z:Int} (h:(Lit.int k z).wf=true):rng k z:=by
 rw [rng_iff]
 simp only [Lit.wf,Bool.and_eq_true,decide_eq_true_eq] at h
 exact h
def mkA (P:Program) (t:TypeId) (cs:List AV):AV:=cond (isAg P t) (.agg cs) (match cs with | [x]=>x | _=>.dead)
theorem trodAll_stay (hl:laidOutB P=true) {w':World} (hb:Below w.heap.size w w'):∀ (ts:List TypeId) (vs:List Value) (ds:List (DataW H)) (ps:List MemPlace),(ts.all fun t=>P.readableRec t&&decide (t < P.types.size))=true →
  DataW.TrodAll enc P w 0 (fun _=>true) true ts vs ds ps→DataW.TrodAll enc P w' 0 (fun b=>decide (b < w.heap.size)) true ts vs ds ps
 | [],[],[],ps,_,h=>h
 | t::ts,v::vs,d::ds,ps,hs,h=>by
  simp only [List.all_cons,Bool.and_eq_true,decide_eq_true_eq] at hs
  obtain ⟨p,q,h1,h2,h3⟩:=h
  have hlt:∀ x ∈ p,x.block < w.heap.size:=by obtain ⟨m,hm⟩:=h1; exact DataW.trod_lt m _ _ _ hm
  exact ⟨p,q,Below.trod hl hs.1.1 hs.1.2 h1 hb hlt,trodAll_stay hl hb ts vs ds q hs.2 h2,h3⟩
 | [],v::vs,ds,ps,_,h=>by cases ds <;> simp [DataW.TrodAll] at h
 | [],[],d::ds,ps,_,h=>by simp [DataW.TrodAll] at h
 | t::ts,[],ds,ps,_,h=>by cases ds <;> simp [DataW.TrodAll] at h
 | t::ts,v::vs,[],ps,_,h=>by simp [DataW.TrodAll] at h
def suppG (P:Program):Nat→TypeId→Bool
 | 0,_=>false
 | n+1,t=>match P.underlying t with
  | some .bool=>true
  | some (.int _)=>true
  | some .string=>true
  | some (.struct fs)=>tiles P fs.toList 0 (P.cellsOf t)&&fs.toList.all fun f=>suppG P n f.type
  | some (.array m e)=>Nat.beq (m*P.cellsOf e) (P.cellsOf t)&&suppG P n e
  | _=>false
mutual
def flatD:DataW H→List AV
 | .lit (.bool b)=>[.bool b]
 | .lit (.int k z)=>[.int k z]
 | .lit (.string l)=>[.str ⟨l.toArray⟩]
 | .agg ds=>flatDs ds
 | _=>[.dead]
def flatDs:List (DataW H)→List AV
 | []=>[]
 | d::ds=>flatD d++flatDs ds
end
theorem flatF {S:Pin} {vs:List Value}:∀ (fs:List Field) (ds:List (DataW H)) (o tot:Nat),tiles P fs o tot=true→vs.length=tot→ds.length=fs.length →
  (∀ (i:Nat) (f:Field) (d:DataW H),fs[i]?=some f→ds[i]?=some d→CVl S (flatD d) noNm ((vs.drop f.offset).take (P.cellsOf f.type)))→CVl S (flatDs ds) noNm (vs.drop o)
 | [],[],o,tot,ht,hl,_,_=>by
  simp only [tiles] at ht
  have:=Nat.eq_of_beq_eq_true ht
  simp only [flatDs,CVl]; exact List.drop_eq_nil_of_le (by omega)
 | f::fs,d::ds,o,tot,ht,hl,hd,h=>by
  simp only [tiles,Bool.and_eq_true] at ht
  obtain ⟨ho,ht⟩:=ht
  have ho:=Nat.eq_of_beq_eq_true ho
  have h1:=h 0 f d rfl rfl
  have h2:=flatF fs ds _ tot ht hl (by simpa using hd) (fun i g d' hg hd'=>h (i+1) g d' (by simpa using hg) (by simpa using hd'))
  rw [ho] at h1
  have e:vs.drop o=(vs.drop o).take (P.cellsOf f.type)++vs.drop (o+P.cellsOf f.type):=by
   rw [← List.drop_drop]; exact (List.take_append_drop _ _).symm
  rw [e]
  simp only [flatDs]
  exact CVl.append h1 h2
 | [],_::_,_,_,_,_,hd,_=>by simp at hd
 | _::_,[],_,_,_,_,hd,_=>by simp at hd
theorem flatE {S:Pin} {s:Nat}:∀ (ds:List (DataW H)) (vs:List Value),vs.length=ds.length*s→(∀ (i:Nat) (d:DataW H),ds[i]?=some d→CVl S (flatD d) noNm ((vs.drop (i*s)).take s))→CVl S (flatDs ds) noNm vs
 | [],vs,hl,_=>by simp only [flatDs,CVl]; exact List.eq_nil_of_length_eq_zero (by simpa using hl)
 | d::ds,vs,hl,h=>by
  have h1:=h 0 d rfl
  have hl':vs.length=ds.length*s+s:=by rw [hl,List.length_cons,Nat.succ_mul]
  have h2:=flatE (S:=S) (s:=s) ds (vs.drop s) (by rw [List.length_drop]; omega) (fun i d' hd=>by
   have:=h (i+1) d' (by simpa using hd)
   rw [List.drop_drop,show s+i*s=(i+1)*s by rw [Nat.succ_mul]; omega]
   exact this)
  rw [Nat.zero_mul,List.drop_zero] at h1
  have e:vs=vs.take s++vs.drop s:=(List.take_append_drop _ _).symm
  rw [e]
  simp only [flatDs]
  exact CVl.append h1 h2
theorem flat_of_trod {S:Pin} {spare:Nat→Bool}:∀ (n:Nat) (t:TypeId) (fuel:Nat) (vs:List Value) (x:DataW H × List MemPlace),suppG P n t=true→DataW.trod enc P w base spare held fuel t vs=some x→CVl S (flatD x.1) noNm vs
 | 0,t,_,_,_,hs,_=>by simp [suppG] at hs
 | n+1,t,fuel,vs,x,hs,h=>by
  unfold suppG at hs
  split at hs
  ·next ht =>
   obtain ⟨b,rfl,rfl⟩:=DataW.trod_bool ht h
   exact ⟨_,_,rfl,rfl,rfl⟩
  ·next k ht =>
   obtain ⟨z,rfl,rfl,hw⟩:=DataW.trod_int ht h
   exact ⟨_,_,rfl,⟨rfl,rng_wf hw⟩,rfl⟩
  ·next ht =>
   obtain ⟨s,rfl,rfl,hw⟩:=DataW.trod_string ht h
   exact ⟨_,_,rfl,⟨by simp,by simpa using hw⟩,rfl⟩
  ·next fs ht =>
   simp only [Bool.and_eq_true,List.all_eq_true] at hs
   obtain ⟨xs,m,_,rfl,hl,hxl,hf⟩:=DataW.trod_struct ht h
   have:=flatF (S:=S) (vs:=vs) fs.toList (xs.map (·.1)) 0 _ hs.1 hl (by simpa using hxl) (fun i f d hi hd=>by
    have h1:=hf i f (by simpa using hi)
    rw [List.getElem?_map] at hd
    cases hx:xs[i]? with
    | none=>rw [hx] at hd; cases hd
    | some y =>
     rw [hx] at hd h1
     simp only [Option.map_some,Option.some.injEq] at hd
     subst hd
     exact flat_of_trod n f.type m _ _ (hs.2 f (List.mem_of_getElem? hi)) h1)
   simpa [flatD] using this
  ·next m e ht =>
   simp only [Bool.and_eq_true] at hs
   obtain ⟨xs,q,_,rfl,hl,hxl,hf⟩:=DataW.trod_array ht h
   have hsz:=Nat.eq_of_beq_eq_true hs.1
   have:=flatE (S:=S) (s:=P.cellsOf e) (xs.map (·.1)) vs (by simp only [List.length_map]; rw [hxl]; omega) (fun i d hd=>by
    rw [List.getElem?_map] at hd
    cases hx:xs[i]? with
    | none=>rw [hx] at hd; cases hd
    | some y =>
     have hi:i < m:=by have:=(List.getElem?_eq_some_iff.1 hx).1; omega
     have h1:=hf i hi
     rw [hx] at hd h1
     simp only [Option.map_some,Option.some.injEq] at hd
     subst hd
     exact flat_of_trod n e q _ _ hs.2 h1)
   simpa [flatD] using this
  ·cases hs
end
theorem intsA_of {xs:List (List AV)} (h:∀ x ∈ xs,∃ z,rng .i64 z∧x=[.int .i64 z]):IntsA xs:=fun x hx=>by
 obtain ⟨z,h1,h2⟩:=h x hx
 exact ⟨z,h2,h1⟩
theorem glob_cells {W:World} {g:Nat} {cs:Array Value} {az:List AV} (hc:∀ i,W.cell? ⟨g,i,none⟩=cs[i]?) (h:CVl (pinAll W) az noNm cs.toList) (h1:allOne az=true):CC (pinAll W) az g 0:=by
 refine CC.mk fun j x hx=>?_
 obtain ⟨u,hu,hcv⟩:=CVl.get h hx
 have h2:=hc j
 rw [show cs[j]?=some u by simpa using hu] at h2
 rw [Nat.zero_add]
 exact ⟨u,pinAll_some h2 (allOne_cv h h1 u (List.mem_of_getElem? hu)),hcv⟩
end Go.Proofs.YtldiagnbagpliaaGreatDoor
namespace Go.Proofs.YtldiagnbagpliaaGreatDoor
open Go
open Go.ChangeShapes Go.WideShapes
open Go.RowKit (Below)
set_option linter.unusedVariables false
set_option linter.unusedSimpArgs false
def okW (P:Program):Nat→TypeId→Bool
 | 0,_=>false
 | n+1,t=>match P.underlying t with
  | some (.slice e)=>Nat.blt 0 (P.bytesOf e)&&okW P n e
  | some (.struct fs)=>fs.toList.all fun f=>okW P n f.type
  | some (.array m e)=>okW P n e
  | _=>true
def ShB (P:Program):Nat→TypeId→List AV→Prop
 | 0,_,_=>False
 | n+1,t,cs=>match P.underlying t with
  | some .bool=>∃ b,cs=[.bool b]
  | some (.int k)=>∃ z,rng k z∧cs=[.int k z]
  | some .string=>∃ s:ByteArray,s.size≤140737488355328∧cs=[.str s]
  | some (.slice e)=>∃ xs:List (List AV),xs.length≤140737488355328∧(∀ x ∈ xs,ShB P n e x)∧cs=[.sl (P.cellsOf e) false xs]
  | some (.struct fs)=>ShF P (ShB P n) fs.toList cs
  | some (.array m e)=>ShE (ShB P n e) m cs
  | _=>False
theorem weightsAll_mem {H:Type} {P:Program} {e:TypeId}:∀ {ds:List (DataW H)} {d:DataW H} {k:Nat},d ∈ ds→k ∈ d.weights P e→k ∈ DataW.weightsAll P e ds
 | d0::ds,d,k,hd,hk=>by
  simp only [DataW.weightsAll,List.mem_append]
  rcases List.mem_cons.1 hd with rfl | h
  ·exact .inl hk
  ·exact .inr (weightsAll_mem h hk)
theorem wE_app {H:Type} {P:Program} {us:List TypeId} {gs:List (DataW H)} {k:Nat}:∀ {ts:List TypeId} {ds:List (DataW H)},k ∈ DataW.weightsEach P ts ds→k ∈ DataW.weightsEach P (ts++us) (ds++gs)
 | t::ts,d::ds,h=>by
  simp only [DataW.weightsEach,List.mem_append,List.cons_append] at h ⊢
  rcases h with h | h
  ·exact .inl h
  ·exact .inr (wE_app h)
 | [],_,h=>by simp [DataW.weightsEach] at h
 | _::_,[],h=>by simp [DataW.weightsEach] at h
section
variable {H:Type} {enc:TypeId × Value→H} {P:Program} {w:World} {base:Nat} {held:Bool}
theorem in_of_trodB:∀ (n:Nat) (t:TypeId) (fuel:Nat) (vs:List Value) (x:DataW H × List MemPlace),supp P n t=true→okW P n t=true→(∀ k ∈ x.1.weights P t,k≤reachBytes)→DataW.trod enc P w base (fun _=>true) held fuel t vs=some x →
  ∃ cs,ShB P n t cs∧allOne cs=true∧CVl (pinAll w) cs noNm vs
 | 0,t,_,_,_,hs,_,_,_=>by simp [supp] at hs
 | n+1,t,fuel,vs,x,hs,ho,hw0,h=>by
  unfold supp at hs
  unfold okW at ho
  unfold ShB
  split at hs
  ·next ht =>
   try rw [ht]
   obtain ⟨b,rfl,_⟩:=DataW.trod_bool ht h
   exact ⟨[.bool b],⟨b,rfl⟩,rfl,_,_,rfl,rfl,rfl⟩
  ·next k ht =>
   try rw [ht]
   obtain ⟨z,rfl,_,hw⟩:=DataW.trod_int ht h
   exact ⟨[.int k z],⟨z,rng_wf hw,rfl⟩,rfl,_,_,rfl,⟨rfl,rng_wf hw⟩,rfl⟩
  ·next ht =>
   try rw [ht]
   obtain ⟨s,rfl,hx,hw⟩:=DataW.trod_string ht h
   subst hx
   have hz:s.size≤140737488355328:=by
    have:=hw0 s.data.toList.length (by simp [DataW.weights])
    unfold reachBytes at this
    simp at this
    omega
   exact ⟨[.str s],⟨s,hz,rfl⟩,rfl,_,_,rfl,⟨rfl,hw⟩,rfl⟩
  ·next e ht =>
   try rw [ht]
   rw [ht] at ho
   simp only [Bool.and_eq_true] at hs ho
   have hb0:0 < P.bytesOf e:=by have:=ho.1; simp [Nat.blt] at this; omega
   have hs0:0 < P.cellsOf e:=by have:=hs.1; simp [Nat.blt] at this; omega
   rcases DataW.trod_slice ht h with ⟨rfl,_⟩ | ⟨a,len,cap,elems,rest,m,_,rfl,hxx,hb,hl,hc,hlen,hel,hsp,hns⟩
   ·refine ⟨[.sl (P.cellsOf e) false []],⟨[],by simp,by simp,rfl⟩,rfl,_,_,rfl,⟨none,0,rfl,by simp,by simp,(fun h=>by cases h),(fun _=>rfl),(fun a ha=>by cases ha)⟩,rfl⟩
   ·subst hxx
    have hwt:(elems.length+rest.length)*P.bytesOf e≤reachBytes:=hw0 _ (by simp [DataW.weights,ht])
    have hel2:elems.length≤140737488355328:=by
     have h1:(elems.length+rest.length)*1≤(elems.length+rest.length)*P.bytesOf e:=Nat.mul_le_mul (Nat.le_refl _) hb0
     unfold reachBytes at hwt
     omega
    have each:∀ i,i < len→∃ x,(ShB P n e x)∧∃ cs',w.cells? base (a.add (i*P.cellsOf e)) (P.cellsOf e)=some cs'∧allOne x=true∧CVl (pinAll w) x noNm cs':=by
     intro i hi
     have h1:=hel i hi
     have hx:elems[i]?=some (elems[i]'(by omega)):=List.getElem?_eq_getElem (by omega)
     rw [hx,Option.bind_eq_some_iff] at h1
     obtain ⟨cs',h2,h3⟩:=h1
     obtain ⟨y,k1,k2,k3⟩:=in_of_trodB n e m cs' _ hs.2 ho.2 (fun k hk=>hw0 k (by
      simp only [DataW.weights,ht]
      exact List.mem_cons_of_mem _ (List.mem_append_left _ (weightsAll_mem (List.mem_map_of_mem (List.getElem_mem (by omega))) hk)))) h3
     exact ⟨y,k1,cs',h2,k2,k3⟩
    obtain ⟨xs,hx1,hx2⟩:=list_of len each
    have hmem:∀ x ∈ xs,ShB P n e x:=by
     intro x hx
     obtain ⟨i,hi⟩:=List.getElem?_of_mem hx
     exact (hx2 i x hi).1
    refine ⟨[.sl (P.cellsOf e) false xs],⟨xs,by omega,hmem,rfl⟩,rfl,_,_,rfl,⟨some a,cap,by rw [hx1],by omega,hc,(fun h=>by cases h),(fun h=>by cases h),fun a' ha=>?_⟩,rfl⟩
    cases ha
    have key:∀ (j:Nat) (x:List AV),xs[j]?=some x→∃ cs':List Value,cs'.length=P.cellsOf e∧CVl (pinAll w) x noNm cs'∧allOne x=true∧∀ i,i < P.cellsOf e→w.cell? ((a.add (j*P.cellsOf e)).add i)=cs'[i]?:=by
     intro j x hj
     obtain ⟨_,cs',h2,h3,h4⟩:=hx2 j x hj
     obtain ⟨_,q1,q2⟩:=World.cells?_some h2
     exact ⟨cs',q1,h4,h3,q2⟩
    have spot:cap≠0→a.spot=none:=by
     intro h0
     have h1:∃ cs',w.cells? base (a.add (0*P.cellsOf e)) (P.cellsOf e)=some cs':=by
      rcases Nat.eq_zero_or_pos len with hl0 | hl0
      ·obtain ⟨hr,hr2⟩:=hsp rfl
       have h1:=hr2 0 (by omega)
       have hx:rest[0]?=some (rest[0]'(by omega)):=List.getElem?_eq_getElem (by omega)
       rw [hx,Option.bind_eq_some_iff] at h1
       obtain ⟨cs',h2,_⟩:=h1
       exact ⟨cs',by rw [← h2,hl0]⟩
      ·have h1:=hel 0 hl0
       have hx:elems[0]?=some (elems[0]'(by omega)):=List.getElem?_eq_getElem (by omega)
       rw [hx,Option.bind_eq_some_iff] at h1
       obtain ⟨cs',h2,_⟩:=h1
       exact ⟨cs',h2⟩
     obtain ⟨cs',h2⟩:=h1
     obtain ⟨_,q1,q2⟩:=World.cells?_some h2
     have h3:=q2 0 hs0
     rw [List.getElem?_eq_getElem (by omega)] at h3
     have h4:=World.cell?_spot h3
     simpa [Addr.add] using h4
    refine ⟨spot,CE.mk fun j x hj=>?_⟩
    obtain ⟨cs',k1,k2,k3,k4⟩:=key j x hj
    have hxl:x.length=P.cellsOf e:=by rw [← k1]; exact (CVl.len k2).symm
    refine ⟨hxl,CC.mk fun i y hy=>?_⟩
    obtain ⟨u,hu,hcv⟩:=CVl.get k2 hy
    have hi:i < P.cellsOf e:=by have:=(List.getElem?_eq_some_iff.1 hy).1; omega
    have hj':j < len:=by have:=(List.getElem?_eq_some_iff.1 hj).1; omega
    have hsp:=spot (by omega)
    obtain ⟨b,o,sp⟩:=a
    simp only at hsp
    subst hsp
    have h5:=k4 i hi
    rw [add_none,add_none,hu] at h5
    exact ⟨u,pinAll_some h5 (allOne_cv k2 k3 u (List.mem_of_getElem? hu)),hcv⟩
  ·next fs ht =>
   try rw [ht]
   rw [ht] at ho
   simp only [Bool.and_eq_true,List.all_eq_true] at hs ho
   obtain ⟨xs,m,_,hxx,hl,hxl,hf⟩:=DataW.trod_struct ht h
   obtain ⟨cs,k1,k2,k3⟩:=shF_of (S:=pinAll w) (sh:=ShB P n) (vs:=vs) fs.toList 0 _ hs.1 hl (fun f hfm=>by
    obtain ⟨i,hi⟩:=List.getElem?_of_mem hfm
    have h1:=hf i f (by simpa using hi)
    have hi':i < fs.size:=by have:=(List.getElem?_eq_some_iff.1 hi).1; simpa using this
    rw [List.getElem?_eq_getElem (by omega:i < xs.length)] at h1
    exact in_of_trodB n f.type m _ _ (hs.2 f hfm) (ho f hfm) (fun k hk=>hw0 k (by
     rw [hxx]
     simp only [DataW.weights,ht]
     exact DataW.weights_mem_each (j:=i) (t:=f.type) (d:=xs[i].1) (by rw [List.getElem?_map,hi]; rfl) (by rw [List.getElem?_map,List.getElem?_eq_getElem (by omega)]; rfl) k hk)) h1)
   exact ⟨cs,k1,k2,by simpa using k3⟩
  ·next m e ht =>
   try rw [ht]
   rw [ht] at ho
   simp only [Bool.and_eq_true] at hs ho
   obtain ⟨xs,q,_,hxx,hl,hxl,hf⟩:=DataW.trod_array ht h
   have hsz:=Nat.eq_of_beq_eq_true hs.1
   exact shE_of (S:=pinAll w) (sh:=ShB P n e) (s:=P.cellsOf e) m vs (by omega) (fun i hi=>by
    have h1:=hf i hi
    rw [List.getElem?_eq_getElem (by omega:i < xs.length)] at h1
    exact in_of_trodB n e q _ _ hs.2 ho (fun k hk=>hw0 k (by
     rw [hxx]
     simp only [DataW.weights,ht]
     exact weightsAll_mem (List.mem_map_of_mem (List.getElem_mem (by omega))) hk)) h1)
  ·cases hs
def ShAllB (P:Program):List TypeId→(List AV→Prop)→Prop
 | [],K=>K []
 | t::ts,K=>∀ cs,ShB P 50 t cs→ShAllB P ts fun xs=>K (mkA P t cs::xs)
theorem in_oneB {r:Reach} {b0 n:Nat} {t:TypeId} {v:Value} {fuel:Nat} {x:DataW H × List MemPlace} (hs:supp P n t=true) (ho:okW P n t=true) (hw0:∀ k ∈ x.1.weights P t,k≤reachBytes) (hv:Value.okWide P w r b0 t v) (h:DataW.trod enc P w base (fun _=>true) held fuel t v.cells.toList=some x) :
  ∃ cs,ShB P n t cs∧CV (pinAll w) (mkA P t cs) noNm v:=by
 obtain ⟨cs,h1,h2,h3⟩:=in_of_trodB n t fuel _ x hs ho hw0 h
 refine ⟨cs,h1,?_⟩
 have one:isAg P t=false→v.cells=#[v]→CV (pinAll w) (mkA P t cs) noNm v:=by
  intro ha hc
  rw [hc] at h3
  unfold mkA
  rw [ha]
  match cs,h3 with
  | [y],h3 =>
   simp only [CVl] at h3
   obtain ⟨u,us,e,hy,hn⟩:=h3
   simp at e
   rw [e.1]; exact hy
  | [],h3=>simp [CVl] at h3
  | _::_::_,h3 =>
   simp [CVl] at h3
   obtain ⟨u,us,⟨_,e⟩,_,u',us',e',_⟩:=h3
   rw [e] at e'; cases e'
 have agg:isAg P t=true→∀ us,v=.agg us→CV (pinAll w) (mkA P t cs) noNm v:=by
  intro ha us e
  subst e
  unfold mkA
  rw [ha]
  exact ⟨us,rfl,h3⟩
 unfold Value.okWide at hv
 cases n with
 | zero=>simp [supp] at hs
 | succ n =>
  unfold supp at hs
  split at hs
  ·next ht =>
   rw [ht] at hv
   simp only [Cell.okWide,Cell.ok,ht] at hv
   refine one (by unfold isAg; rw [ht]) ?_
   split at hv <;> first | rfl | (split at hv <;> first | rfl | cases hv) | cases hv
  ·next k ht =>
   rw [ht] at hv
   simp only [Cell.okWide,Cell.ok,ht] at hv
   refine one (by unfold isAg; rw [ht]) ?_
   split at hv <;> first | rfl | (split at hv <;> first | rfl | cases hv) | cases hv
  ·next ht =>
   rw [ht] at hv
   simp only [Cell.okWide,Cell.ok,ht] at hv
   refine one (by unfold isAg; rw [ht]) ?_
   split at hv <;> first | rfl | (split at hv <;> first | rfl | cases hv) | cases hv
  ·next e ht =>
   rw [ht] at hv
   simp only [Cell.okWide,Cell.ok,ht] at hv
   refine one (by unfold isAg; rw [ht]) ?_
   split at hv <;> first | rfl | (split at hv <;> first | rfl | cases hv) | cases hv
  ·next fs ht =>
   rw [ht] at hv
   obtain ⟨us,e,_⟩:=hv
   exact agg (by unfold isAg; rw [ht]) us e
  ·next m e ht =>
   rw [ht] at hv
   obtain ⟨us,e,_⟩:=hv
   exact agg (by unfold isAg; rw [ht]) us e
  ·cases hs
theorem in_allB {r:Reach} {b0:Nat}:∀ (ts:List TypeId) (vs:List Value) (ds:List (DataW H)) (ps:List MemPlace) (K:List AV→Prop),(ts.all fun t=>supp P 50 t&&okW P 50 t)=true→(∀ k ∈ DataW.weightsEach P ts ds,k≤reachBytes)→DataW.TrodAll enc P w base (fun _=>true) held ts vs ds ps →
  (∀ (j:Nat) t v,ts[j]?=some t→vs[j]?=some v→Value.okWide P w r b0 t v)→ShAllB P ts K→∃ xs,K xs∧CVl (pinAll w) xs noNm vs
 | [],[],[],ps,K,_,_,h,_,hK=>⟨[],hK,by simp only [CVl]⟩
 | t::ts,v::vs,d::ds,ps,K,hs,hw0,h,hv,hK=>by
  simp only [List.all_cons,Bool.and_eq_true] at hs
  obtain ⟨p,q,⟨fuel,h1⟩,h2,_⟩:=h
  obtain ⟨cs,k1,k2⟩:=in_oneB hs.1.1 hs.1.2 (fun k hk=>hw0 k (by simp only [DataW.weightsEach]; exact List.mem_append_left _ hk)) (hv 0 t v rfl rfl) h1
  obtain ⟨xs,q1,q2⟩:=in_allB ts vs ds q (fun xs=>K (mkA P t cs::xs)) hs.2 (fun k hk=>hw0 k (by simp only [DataW.weightsEach]; exact List.mem_append_right _ hk)) h2 (fun j t v ht hv'=>hv (j+1) t v (by simpa using ht) (by simpa using hv')) (hK cs k1)
  exact ⟨_,q1,by simp only [CVl]; exact ⟨v,vs,rfl,k2,q2⟩⟩
 | [],v::vs,ds,ps,K,_,_,h,_,_=>by cases ds <;> simp [DataW.TrodAll] at h
 | [],[],d::ds,ps,K,_,_,h,_,_=>by simp [DataW.TrodAll] at h
 | t::ts,[],ds,ps,K,_,_,h,_,_=>by cases ds <;> simp [DataW.TrodAll] at h
 | t::ts,v::vs,[],ps,K,_,_,h,_,_=>by simp [DataW.TrodAll] at h
theorem law_callsB {gl:Glob} {f:FuncId} {r:Reach} {b0:Nat} {ts:List TypeId} {args:Array Value} {ds:List (DataW H)} {ps:List MemPlace} (hs:(ts.all fun t=>supp P 50 t&&okW P 50 t)=true) (hw0:∀ k ∈ DataW.weightsEach P ts ds,k≤reachBytes) (hg:GOKg gl (pinAll w))
  (h:ShAllB P ts fun xs=>PureC P gl f xs (.bool true)) (hA:DataW.TrodAll enc P w base (fun _=>true) held ts args.toList ds ps)
  (hv:∀ (j:Nat) t v,ts[j]?=some t→args.toList[j]?=some v→Value.okWide P w r b0 t v) :
  Calls P f args w fun e w'=>e=.returned (.bool true)∧Below w.heap.size w w':=by
 obtain ⟨xs,h1,h2⟩:=in_allB ts _ ds ps _ hs hw0 hA hv h
 refine (h1 w (pinAll w) args hg (agree_all w) h2).mono fun e w' h=>?_
 obtain ⟨u,S',h3,h4,_,_,_,h5⟩:=h
 simp only [CV] at h5
 exact ⟨by rw [h3,h5],h4⟩
end
end Go.Proofs.YtldiagnbagpliaaGreatDoor
namespace Go.Proofs.YtldiagnbagpliaaGreatDoor
open Go
set_option linter.unusedVariables false
set_option linter.unusedSimpArgs false
structure RdA (bs:LLR):Prop where
 row:∀ i,i < bs.length→∃ e v:Int,bs.getD i []=[.int .i64 e,.int .i64 v]∧rng .i64 e∧rng .i64 v
 sm:bs.length≤140737488355328
structure PdsA (ps:LLR):Prop where
 fr:∀ i,i < ps.length→∃ (fr:Int) (cl:Bool) (f a b c:Int) (bs:LLR),ps.getD i []=pdA fr cl f a b c bs∧RdA bs
 fs:ps.length≤140737488355328
structure StsA (l:LLR):Prop where
 fr:∀ i,i < l.length→∃ (k:Int) (nm:ByteArray) (ps:LLR),l.getD i []=stA k nm ps∧nm.size≤140737488355328∧PdsA ps
 fs:l.length≤140737488355328
structure PsOk (ps:LLR) (k:Int):Prop where
 fl:ps.length≤500
 fb:∀ q:Nat,(q:Int) < k→(pB (ps.getD q [])).length≤500
structure SmaQ (l:LLR) (b:Bool):Prop where
 fb:b=true→StsP l∧l.length≤400
structure SmoI (l:LLR) (x:Int × Int):Prop where
 fi:0≤x.1∧x.1≤l.length
 fn:(l.length:Int)≤x.2∧x.2≤281474976711156
 fo:x.2 < 500→∀ j:Nat,(j:Int) < x.1→PsOk (hoP l j) (hoP l j).length
structure SmiI (l:LLR) (i:Int) (x:Int × Int):Prop where
 fi:0≤x.1∧x.1≤(hoP l i.toNat).length
 fn:(l.length:Int)≤x.2∧x.2≤281474976711156
 fr:0≤i∧i < l.length
 fo:x.2 < 500→PsOk (hoP l i.toNat) x.1∧∀ j:Nat,(j:Int) < i→PsOk (hoP l j) (hoP l j).length
def sm3o (l:LLR) (g:Bool):LInv:=⟨Int × Int,fun x=>⟨[(1,.ptr 1001 0),(3,.int .i64 x.2),(4,.int .i64 x.1)],[(1001,.cells [.sl 3 g l])]⟩,SmoI l,fun x=>(l.length - x.1).toNat,none⟩
def sm7i (l:LLR) (g:Bool) (i:Int):LInv:=⟨Int × Int,fun x=>⟨[(1,.ptr 1001 0),(3,.int .i64 x.2),(4,.int .i64 i),(5,.int .i64 x.1)],[(1001,.cells [.sl 3 g l])]⟩,SmiI l i,fun x=>((hoP l i.toNat).length - x.1).toNat,none⟩
def dsreg_s:SpQ
 | [.agg [.sl 3 g l]],[]=>some (fun K=>(StsA l)∧(∀ (b:Bool),(SmaQ l b)→K (.bool b) []))
 | _,_=>none
def dsreg_T:Prop :=
  ∀ (gl:Glob) (g:Bool) (l:List (List AV)),StsA l→(∃ x,SmoI l x∧((0:Nat)=0∧(↑l.length:Int)=x.snd∧(0:Int)=x.fst∧True)∧(((bif g then g=true else True)∧l=l)∧True)∧True)∧∀ (x:Int × Int),SmoI l x→bif decide (x.fst < (↑l.length:Int)) then bif decide (x.snd < (500:Int)) then bif decide (0≤x.fst∧x.fst < (↑l.length:Int)) then ∃ xs,List.take [AV.sl (7:Nat) false xs].length (List.drop (2:Nat)
 (l.getD x.fst.toNat []))=[AV.sl (7:Nat) false xs]∧bif decide (0≤x.fst∧x.fst < (↑l.length:Int)) then ∃ s,List.take [AV.str s].length (List.drop (1:Nat) (l.getD x.fst.toNat []))=[AV.str s]∧bif decide (rng .i64 ((↑xs.length:Int)+(↑s.size:Int))) then bif decide (rng .i64 (x.snd+((↑xs.length:Int)+(↑s.size:Int)))) then (∃ x_1,SmiI l x.fst x_1∧((0:Nat)=0∧x.snd+((↑xs.length:Int) +
 (↑s.size:Int))=x_1.snd∧x.fst=x.fst∧(0:Int)=x_1.fst∧True)∧(((bif g then g=true else True)∧l=l)∧True)∧True)∧∀ (x_1:Int × Int),SmiI l x.fst x_1→bif decide (0≤x.fst∧x.fst < (↑l.length:Int)) then ∃ xs,List.take [AV.sl (7:Nat) false xs].length (List.drop (2:Nat) (l.getD x.fst.toNat []))=[AV.sl (7:Nat) false xs]∧bif decide (x_1.fst < (↑xs.length:Int)) then bif decide (x_1.snd < (500:Int)) then
 bif decide (0≤x.fst∧x.fst < (↑l.length:Int)) then ∃ xs,List.take [AV.sl (7:Nat) false xs].length (List.drop (2:Nat) (l.getD x.fst.toNat []))=[AV.sl (7:Nat) false xs]∧bif decide (0≤x_1.fst∧x_1.fst < (↑xs.length:Int)) then ∃ xs_1,List.take [AV.sl (2:Nat) false xs_1].length (List.drop (6:Nat) (xs.getD x_1.fst.toNat []))=[AV.sl (2:Nat) false xs_1]∧bif decide (rng .i64 (x_1.snd +
 (↑xs_1.length:Int))) then bif decide (rng .i64 (x_1.fst+(1:Int))) then ∃ y,SmiI l x.fst y∧((fun i=>sm7i l g i) x.fst).m y < ((fun i=>sm7i l g i) x.fst).m x_1∧((0:Nat)=0∧x_1.snd+(↑xs_1.length:Int)=y.snd∧x.fst=x.fst∧x_1.fst+(1:Int)=y.fst∧True)∧(((bif g then g=true else True)∧l=l)∧True)∧True else False else False else False else False else bif decide (rng .i64 (x.fst+(1:Int))) then ∃
 y,SmoI l y∧((fun x=>sm3o l g) (0:Int)).m y < ((fun x=>sm3o l g) (0:Int)).m x∧((0:Nat)=0∧x_1.snd=y.snd∧x.fst+(1:Int)=y.fst∧True)∧(((bif g then g=true else True)∧l=l)∧True)∧True else False else bif decide (rng .i64 (x.fst+(1:Int))) then ∃ y,SmoI l y∧((fun x=>sm3o l g) (0:Int)).m y < ((fun x=>sm3o l g) (0:Int)).m x∧((0:Nat)=0∧x_1.snd=y.snd∧x.fst+(1:Int)=y.fst∧True)∧(((bif g then g=true
 else True)∧l=l)∧True)∧True else False else False else False else False else False else False else ∃ b,SmaQ l b∧decide (x.snd≤(400:Int))=b∧True else ∃ b,SmaQ l b∧decide (x.snd≤(400:Int))=b∧True
theorem dsreg_P:dsreg_T:=by
 unfold dsreg_T
 intro gl g l hl
 have bg:cond g (g=true) True:=by cases g <;> trivial
 have fs:=hl.fs
 have fin:∀ x:Int × Int,SmoI l x→¬ (x.1 < l.length∧x.2 < 500)→∃ b,SmaQ l b∧decide (x.2≤400)=b∧True:=by
  intro x hx hn
  refine ⟨_,⟨fun hb=>?_⟩,rfl,trivial⟩
  have hb:=of_decide_eq_true hb
  have i0:=hx.fi
  have n0:=hx.fn
  have ok:=hx.fo (by omega)
  have hi:x.1=l.length:=by omega
  refine ⟨⟨fun i h=>?_,by omega⟩,by omega⟩
  obtain ⟨k,nm,ps,hr,_,hp⟩:=hl.fr i h
  have hP:hoP l i=ps:=by unfold hoP; rw [hr]; rfl
  have o:=ok i (by omega)
  rw [hP] at o
  refine ⟨k,nm,ps,hr,⟨fun q hq=>?_,by have:=o.fl; omega⟩⟩
  obtain ⟨fr,cl,f,a,b,c,bs,hr2,hb2⟩:=hp.fr q hq
  have hl2:=o.fb q (by omega)
  rw [hr2] at hl2
  have hl2:bs.length≤500:=hl2
  exact ⟨fr,cl,f,a,b,c,bs,hr2,⟨hb2.row,by omega⟩,by omega⟩
 refine ⟨⟨(0,l.length),⟨by simp,by simp only; omega,fun _ j h=>by simp only at h; omega⟩,by (repeat' (first | exact trivial | exact rfl | assumption | apply And.intro)),by (repeat' (first | exact trivial | exact rfl | assumption | apply And.intro)),trivial⟩,?_⟩
 intro x hx
 have i0:=hx.fi
 have n0:=hx.fn
 refine csx (fun hi=>csx (fun h5=>?_) (fun h5=>fin x hx (fun z=>h5 z.2))) (fun hi=>fin x hx (fun z=>hi z.1))
 obtain ⟨k,nm,ps,hr,hnm,hp⟩:=hl.fr x.1.toNat (by omega)
 have hP:hoP l x.1.toNat=ps:=by unfold hoP; rw [hr]; rfl
 have pfs:=hp.fs
 refine cd1 (by omega) ⟨ps,by rw [hr]; rfl,cd1 (by omega) ⟨nm,by rw [hr]; rfl,cdI (by omega) (cdI (by omega) ⟨⟨(0,x.2+(ps.length+nm.size)),⟨by rw [hP]; simp,by simp only; omega,by omega,fun z=>⟨⟨by rw [hP]; simp only at z; omega,fun q h=>by simp only at h; omega⟩,hx.fo (by simp only at z; omega)⟩⟩,by (repeat' (first | exact trivial | exact rfl | assumption | apply And.intro)),by (repeat' (first | exact trivial | exact rfl | assumption | apply And.intro)),trivial⟩,?_⟩)⟩⟩
 intro y hy
 have k0:=hy.fi
 have m0:=hy.fn
 rw [hP] at k0
 have nxt:¬ (y.1 < ps.length∧y.2 < 500)→∃ z,SmoI l z∧((fun x=>sm3o l g) 0).m z < ((fun x=>sm3o l g) 0).m x∧((0:Nat)=0∧y.2=z.2∧x.1+1=z.1∧True)∧(((bif g then g=true else True)∧l=l)∧True)∧True:=by
  intro hn
  refine ⟨(x.1+1,y.2),⟨by simp only; omega,by simp only; omega,fun z j hj=>?_⟩,by simp only [sm3o]; omega,by (repeat' (first | exact trivial | exact rfl | assumption | apply And.intro)),by (repeat' (first | exact trivial | exact rfl | assumption | apply And.intro)),trivial⟩
  simp only at z hj
  obtain ⟨o1,o2⟩:=hy.fo z
  rcases Nat.lt_or_ge j x.1.toNat with w | w
  ·exact o2 j (by omega)
  ·have e:j=x.1.toNat:=by omega
   subst e
   rw [hP] at o1 ⊢
   exact ⟨o1.fl,fun q hq=>o1.fb q (by omega)⟩
 refine cd1 (by omega) ⟨ps,by rw [hr]; rfl,csx (fun hk=>csx (fun h6=>?_) (fun h6=>cdI (by omega) (nxt fun z=>h6 z.2))) (fun hk=>cdI (by omega) (nxt fun z=>hk z.1))⟩
 obtain ⟨fr,cl,f,a,b,c,bs,hr2,hb2⟩:=hp.fr y.1.toNat (by omega)
 have bfs:=hb2.sm
 refine cd1 (by omega) ⟨ps,by rw [hr]; rfl,cd1 (by omega) ⟨bs,by rw [hr2]; rfl,cdI (by omega) (cdI (by omega) ⟨(y.1+1,y.2+bs.length),⟨by rw [hP]; simp only; omega,by simp only; omega,by omega,fun z=>?_⟩,by simp only [sm7i]; rw [hP]; omega,by (repeat' (first | exact trivial | exact rfl | assumption | apply And.intro)),by (repeat' (first | exact trivial | exact rfl | assumption | apply And.intro)),trivial⟩)⟩⟩
 simp only at z
 obtain ⟨o1,o2⟩:=hy.fo (by omega)
 refine ⟨⟨o1.fl,fun q hq=>?_⟩,o2⟩
 simp only at hq
 rcases Nat.lt_or_ge q y.1.toNat with w | w
 ·exact o1.fb q (by omega)
 ·have e:q=y.1.toNat:=by omega
  subst e
  rw [hP,hr2]
  show bs.length≤500
  omega
def dsreg_S:Prop:=∀ (gl:Glob) (g:Bool) (l:List (List AV)),StsA l→fnQ Tryz.prog { glob:=gl,spec:=lk [],specH:=lk [],shape:=[26,33,43,58,62],slz:=[(26,[7]),(43,[7]),(58,[7]),(62,[2])],nowf:=true } { nt:=67,drop:=drp [(1,448),(3,130560),(4,786432),(5,137437904896),(7,562812514467840),(8,3377699720527872),(9,36888984547791732736),(10,110680464442257309696)],fr:=1000,kp:=[] } (invsN [(3,4,fun _=>sm3o l g),(7,4,fun i=>sm7i l g i)]) 6 Tryz.f7 [.agg [.sl 3 g l]] [] (fun r2 bs2=>∃ (b:Bool),(SmaQ l b)∧le r2 (.bool b)∧leBs bs2 [])
theorem dsreg_e:dsreg_T=dsreg_S:=by kernel_rfl
theorem dsreg_v:dsreg_S:=Eq.mp (dsreg_e ..) (dsreg_P)
theorem dsreg_ok (gl:Glob):QOK Tryz.prog gl 7 dsreg_s:=by
 refine ⟨fok Tryz.func7 (by kernel_rfl) (by kernel_rfl),?_⟩
 intro xs bs T h K hT
 unfold dsreg_s at h
 split at h
 ·simp only [Option.some.injEq] at h
  subst h
  obtain ⟨hp,hK⟩:=hT
  obtain ⟨r,bs2,⟨o0,hq,hl,hb⟩,hC⟩:=fnQ_sound tyNil (by exact specOK rfl rfl trivial trivial) (by kernel_rfl) Tryz.func7 (dsreg_v gl _ _ hp)
  exact ⟨_,_,hK o0 hq,hC.le hl hb⟩
 ·cases h
end Go.Proofs.YtldiagnbagpliaaGreatDoor
namespace Go.Proofs.YtldiagnbagpliaaGreatDoor
open Go
set_option linter.unusedVariables false
set_option linter.unusedSimpArgs false
def smlR (nm:ByteArray) (rd:LLA):Bool:=decide ((nm.size:Int)≤40)&&decide ((rd.length:Int)≤40)
def dsmall_s:Sp
 | [.agg [.int .i64 k,.str n,.int .i64 t,.int .i64 f,.int .i64 a,.int .i64 b,.int .i64 c,.sl 2 h rd]]=>some (True,.bool (smlR n rd))
 | _=>none
def dsmall_T:Prop :=
  ∀ (gl:Glob) (k t f a b c:Int) (n:ByteArray) (rd:List (List AV)) (h:Bool),(IR9 k)∧n.size.le (9223372036854775807:Nat)∧(IR9 t)∧(IR9 f)∧(IR9 a)∧((-9223372036854775808:Int) ≤
 b∧b≤(9223372036854775807:Int))∧(IR9 c)∧True∧True→bif decide ((↑n.size:Int)≤(40:Int)) then decide ((↑rd.length:Int)≤(40:Int))=smlR n rd else false=smlR n rd
theorem dsmall_P:dsmall_T:=by
 unfold dsmall_T
 intro gl k t f a b c n rd h
 intros
 refine csx (fun h1=>?_) (fun h1=>?_)
 ·unfold smlR; rw [decide_eq_true h1]; rfl
 ·unfold smlR; rw [decide_eq_false h1]; rfl
def dsmall_S:Prop:=∀ (gl:Glob) (k t f a b c:Int) (n:ByteArray) (rd:List (List AV)) (h:Bool),fnK Tryz.prog { glob:=gl,spec:=lk [],specH:=lk [],nowf:=true } { nt:=13,drop:=drp [(1,8184)] } (fun _ _=>none) 6 Tryz.f8 [.agg [.int .i64 k,.str n,.int .i64 t,.int .i64 f,.int .i64 a,.int .i64 b,.int .i64 c,.sl 2 h rd]] (.bool (smlR n rd))
theorem dsmall_e:dsmall_T=dsmall_S:=by kernel_rfl
theorem dsmall_v:dsmall_S:=Eq.mp (dsmall_e ..) (dsmall_P)
theorem dsmall_ok (gl:Glob):SOK Tryz.prog gl 8 dsmall_s:=by
 refine ⟨fok Tryz.func8 (by kernel_rfl) (by kernel_rfl),?_⟩
 intro xs pre r h hp
 unfold dsmall_s at h
 split at h
 ·simp only [Option.some.injEq,Prod.mk.injEq] at h
  obtain ⟨h1,h2⟩:=h
  subst h1 h2
  exact fnK_sound tyNil (by exact specOK rfl rfl trivial trivial) (by kernel_rfl) Tryz.func8 rfl (dsmall_v gl _ _ _ _ _ _ _ _ _)
 ·cases h
structure BntQ (ys:LLA) (j:Int):Prop where
 fr:RdsP ys
 fl:ys.length≤1000
 fj:0≤j
structure BntP (ys:LLA) (c:Int):Prop where
 fr:RdsP ys
 fl:ys.length≤900
 fc:0≤c∧c≤1000
theorem rds_adB {ys:LLA} {v w:Int} (h:RdsP ys) (hl:ys.length≤900) (hv:rng .i64 v) (hw:rng .i64 w):RdsP (ys++[[.int .i64 v,.int .i64 w]]):=⟨fun i hi=>by
 rw [List.length_append,List.length_singleton] at hi
 rw [gD_app]
 by_cases hl:i < ys.length
 ·rw [if_pos hl]; exact h.row i hl
 ·rw [if_neg hl,show i - ys.length=0 by omega]
  exact ⟨v,w,rfl,hv,hw⟩,by rw [List.length_append,List.length_singleton]; omega⟩
theorem rds_stB {ys:LLA} {w:Int} {i:Nat} (h:RdsP ys) (hi:i < ys.length) (hw:rng .i64 w):RdsP (setEl ys i 1 [.int .i64 w]):=by
 obtain ⟨e,v,he,h1,h2⟩:=h.row i hi
 have e1:setEl ys i 1 [.int .i64 w]=ys.set i [.int .i64 e,.int .i64 w]:=by
  unfold setEl spl; rw [he]; rfl
 rw [e1]
 refine ⟨fun j hj=>?_,by rw [List.length_set]; exact h.sm⟩
 rw [List.length_set] at hj
 rw [List.getD_eq_getElem?_getD,List.getElem?_set]
 split
 ·exact ⟨e,w,rfl,h1,hw⟩
 ·rw [← List.getD_eq_getElem?_getD]; exact h.row j hj
def qbent_s:SpQ
 | [.ptr 0 0,.agg [.int .i64 k,.str nm,.int .i64 t,.int .i64 f,.int .i64 a,.int .i64 b,.int .i64 c,.sl 2 h ys]],[.cells [.sl 1 false xs,.int .i64 i]]=>some (fun K=>(SrcQ xs i∧BntP ys c)∧(∀ (k:Int) (nm:ByteArray) (t f a b c:Int) (zs:List (List AV)) (j:Int),(BntQ zs j)→K (.agg [.int .i64 k,.str nm,.int .i64 t,.int .i64 f,.int .i64 a,.int .i64 b,.int .i64 c,.sl 2 false zs]) [.cells [.sl 1 false xs,.int .i64 j]]))
 | _,_=>none
def qbent_T:Prop :=
  ∀ (gl:Glob) (xs:List (List AV)) (i k:Int) (nm:ByteArray) (t f a b c:Int) (h:Bool) (ys:List (List AV)),SrcQ xs i∧BntP ys c→bif decide ((0:Nat)=0∧(0:Nat)+ys.length≤(9223372036854775807:Nat)∧((0:Nat)+ys.length)*(16:Nat)≤(140737488355328:Nat)) then SrcQ xs i∧∀ (v j:Int),NumQ (8:Int) v j→bif decide (v=(0:Int)) then (SrcQ xs j∧(-1:Int)≤(4:Int)∧(-1000000000:Int)≤(-1:Int)∧(4:Int) ≤
 (1000000000:Int))∧∀ (v j:Int),((-1:Int)≤v∧v≤(4:Int))∧0≤j→bif decide (([]++ys).length=([]++ys).length) then ∃ k nm_1 t_1 f_1 a_4 b_1 c_1 zs j_1,BntQ zs j_1∧(v=k∧nm=nm_1∧t=t_1∧f=f_1∧a=a_4∧b=b_1∧c=c_1∧(True∧[]++ys=zs)∧True)∧((True∧xs=xs)∧j=j_1∧True)∧True else False else bif decide (v=(1:Int)) then (SrcQ xs j∧((6:Nat)=6∧(1:Nat)≤(6:Nat)∧(6:Nat)≤(1000:Nat))∧StrsA [[AV.str (⟨#[]⟩ :
 ByteArray)],[AV.str { data:=#[(65:UInt8),(76:UInt8),(80:UInt8),(72:UInt8)] }],[AV.str { data:=#[(97:UInt8),(108:UInt8),(112:UInt8),(104:UInt8),(97:UInt8)] }],[AV.str { data:=#[(65:UInt8),(76:UInt8),(80:UInt8),(72:UInt8),(65:UInt8),(49:UInt8)] }],[AV.str { data:=#[(65:UInt8),(76:UInt8),(32:UInt8),(80:UInt8),(72:UInt8)] }],[AV.str { data:=#[(65 :
 UInt8),(76:UInt8),(80:UInt8),(72:UInt8),(65:UInt8)] }]])∧∀ (v:ByteArray) (j:Int),PickQ [[AV.str (⟨#[]⟩:ByteArray)],[AV.str { data:=#[(65:UInt8),(76:UInt8),(80:UInt8),(72:UInt8)] }],[AV.str { data:=#[(97:UInt8),(108:UInt8),(112:UInt8),(104:UInt8),(97:UInt8)] }],[AV.str { data:=#[(65:UInt8),(76:UInt8),(80:UInt8),(72:UInt8),(65:UInt8),(49:UInt8)]
 }],[AV.str { data:=#[(65:UInt8),(76:UInt8),(32:UInt8),(80:UInt8),(72:UInt8)] }],[AV.str { data:=#[(65:UInt8),(76:UInt8),(80:UInt8),(72:UInt8),(65:UInt8)] }]] (AV.str v) j→bif decide (([]++ys).length=([]++ys).length) then ∃ k_1 nm t_1 f_1 a_4 b_1 c_1 zs j_1,BntQ zs j_1∧(k=k_1∧v=nm∧t=t_1∧f=f_1∧a=a_4∧b=b_1∧c=c_1∧(True∧[]++ys=zs)∧True)∧((True∧xs=xs)∧j=j_1∧True)∧True else
 False else bif decide (v=(2:Int)) then (SrcQ xs j∧((3:Nat)=3∧(1:Nat)≤(3:Nat)∧(3:Nat)≤(1000:Nat))∧IntsB [[AV.int .i64 (-1:Int)],[AV.int .i64 (52596000:Int)],[AV.int .i64 (0:Int)]])∧∀ (v j:Int),PickQ [[AV.int .i64 (-1:Int)],[AV.int .i64 (52596000:Int)],[AV.int .i64 (0:Int)]] (AV.int .i64 v) j→bif decide (([]++ys).length=([]++ys).length) then ∃ k_1 nm_1 t f_1 a_4 b_1 c_1 zs j_1,BntQ zs
 j_1∧(k=k_1∧nm=nm_1∧v=t∧f=f_1∧a=a_4∧b=b_1∧c=c_1∧(True∧[]++ys=zs)∧True)∧((True∧xs=xs)∧j=j_1∧True)∧True else False else bif decide (v=(3:Int)) then SrcQ xs j∧∀ (f a b c j:Int),PlaQ f a b c j→bif decide (([]++ys).length=([]++ys).length) then ∃ k_1 nm_1 t_1 f_1 a_4 b_1 c_1 zs j_1,BntQ zs j_1∧(k=k_1∧nm=nm_1∧t=t_1∧f=f_1∧a=a_4∧b=b_1∧c=c_1∧(True∧[]++ys=zs)∧True)∧((True∧xs=xs)∧j=j_1∧True)∧True else
 False else bif decide (v=(4:Int)) then (SrcQ xs j∧(-1:Int)≤(20:Int)∧(-1000000000:Int)≤(-1:Int)∧(20:Int)≤(1000000000:Int))∧∀ (v j:Int),((-1:Int)≤v∧v≤(20:Int))∧0≤j→SrcQ xs j∧∀ (v_1 j:Int),NumQ (841:Int) v_1 j→SrcQ xs j∧∀ (v_2 j:Int),NumQ (200:Int) v_2 j→bif decide (([]++ys).length=([]++ys).length) then ∃ k_1 nm_1 t_1 f a b c zs j_1,BntQ zs
 j_1∧(k=k_1∧nm=nm_1∧t=t_1∧v=f∧v_1=a∧v_2=b∧(0:Int)=c∧(True∧[]++ys=zs)∧True)∧((True∧xs=xs)∧j=j_1∧True)∧True else False else bif decide (v=(5:Int)) then (SrcQ xs j∧(0:Int)≤(12:Int)∧(-1000000000:Int)≤(0:Int)∧(12:Int)≤(1000000000:Int))∧∀ (v j:Int),(0≤v∧v≤(12:Int))∧0≤j→SrcQ xs j∧∀ (v_1 j:Int),NumQ (9000:Int) v_1 j→bif decide (([]++ys).length=([]++ys).length∧([]++ys).length
+[[AV.int .i64 v,.int .i64 v_1]].length≤(9223372036854775807:Nat)∧(([]++ys).length+[[AV.int .i64 v,.int .i64 v_1]].length)*(16:Nat)≤(140737488355328:Nat)) then bif decide (([]++ys++[[AV.int .i64 v,.int .i64 v_1]]).length=([]++ys++[[AV.int .i64 v,.int .i64 v_1]]).length) then ∃ k_1 nm_1 t_1 f_1 a_5 b_1 c_1 zs j_1,BntQ zs j_1∧(k=k_1∧nm=nm_1∧t=t_1∧f=f_1∧a=a_5∧b=b_1∧c=c_1∧(True∧[] ++
 ys++[[AV.int .i64 v,.int .i64 v_1]]=zs)∧True)∧((True∧xs=xs)∧j=j_1∧True)∧True else False else False else bif decide (v=(6:Int)) then bif decide ((0:Int) < (↑([]++ys).length:Int)) then SrcQ xs j∧∀ (v j:Int),NumQ (↑([]++ys).length:Int) v j→(SrcQ xs j∧((3:Nat)=3∧(1:Nat)≤(3:Nat)∧(3:Nat)≤(1000:Nat))∧IntsB [[AV.int .i64 (-1001:Int)],[AV.int .i64 (0:Int)],[AV.int .i64 (99999:Int)]])∧∀ (v_1
 j:Int),PickQ [[AV.int .i64 (-1001:Int)],[AV.int .i64 (0:Int)],[AV.int .i64 (99999:Int)]] (AV.int .i64 v_1) j→bif decide (0≤v∧v < (↑([]++ys).length:Int)) then bif decide (([]++ys).length=([]++ys).length∧v.toNat < ([]++ys).length) then bif decide (([]++ys).length=(setEl ([]++ys) v.toNat (1:Nat) [AV.int .i64 v_1]).length) then ∃ k_1 nm_1 t_1 f_1 a_5 b_1 c_1 zs j_1,BntQ zs
 j_1∧(k=k_1∧nm=nm_1∧t=t_1∧f=f_1∧a=a_5∧b=b_1∧c=c_1∧(True∧setEl ([]++ys) v.toNat (1:Nat) [AV.int .i64 v_1]=zs)∧True)∧((True∧xs=xs)∧j=j_1∧True)∧True else False else False else False else bif decide (([]++ys).length=([]++ys).length) then ∃ k_1 nm_1 t_1 f_1 a_3 b_1 c_1 zs j_1,BntQ zs j_1∧(k=k_1∧nm=nm_1∧t=t_1∧f=f_1∧a=a_3∧b=b_1∧c=c_1∧(True∧[]++ys=zs)∧True)∧((True∧xs=xs)∧j=j_1∧True)∧True else False
 else bif decide (rng .i64 (c+(1:Int))) then bif decide (([]++ys).length=([]++ys).length) then ∃ k_1 nm_1 t_1 f_1 a_3 b_1 c_1 zs j_1,BntQ zs j_1∧(k=k_1∧nm=nm_1∧t=t_1∧f=f_1∧a=a_3∧b=b_1∧c+(1:Int)=c_1∧(True∧[]++ys=zs)∧True)∧((True∧xs=xs)∧j=j_1∧True)∧True else False else False else False
theorem qbent_P:qbent_T:=by
 unfold qbent_T
 intro gl xs i k nm t f a b c h ys ⟨hs,hr,hl,hc⟩
 have s:=hs.s
 have q0:∀ j,0≤j→BntQ ys j:=fun j hj=>⟨hr,by omega,hj⟩
 refine cd1 ⟨rfl,by omega,by omega⟩ ⟨hs,fun v j q=>csx (fun _=>⟨⟨⟨s,q.fj⟩,by decide,by decide,by decide⟩,fun v j p=>cd1 rfl ⟨_,_,_,_,_,_,_,_,_,q0 j p.2,⟨rfl,rfl,rfl,rfl,rfl,rfl,rfl,⟨trivial,rfl⟩,trivial⟩,sT⟩⟩) (fun _=>csx (fun _=>⟨⟨⟨s,q.fj⟩,⟨rfl,by decide,by decide⟩,⟨fun x hx=>?_⟩⟩,fun v j p=>cd1 rfl ⟨_,_,_,_,_,_,_,_,_,q0 j p.fj,⟨rfl,rfl,rfl,rfl,rfl,rfl,rfl,⟨trivial,rfl⟩,trivial⟩,sT⟩⟩) (fun _=>csx (fun _=>⟨⟨⟨s,q.fj⟩,⟨rfl,by decide,by decide⟩,ints_of [-1,52596000,0] ?_⟩,fun v j p=>cd1 rfl ⟨_,_,_,_,_,_,_,_,_,q0 j p.fj,⟨rfl,rfl,rfl,rfl,rfl,rfl,rfl,⟨trivial,rfl⟩,trivial⟩,sT⟩⟩) (fun _=>csx (fun _=>⟨⟨s,q.fj⟩,fun f a b c j p=>cd1 rfl ⟨_,_,_,_,_,_,_,_,_,q0 j p.fj,⟨rfl,rfl,rfl,rfl,rfl,rfl,rfl,⟨trivial,rfl⟩,trivial⟩,sT⟩⟩) (fun _=>csx (fun _=>⟨⟨⟨s,q.fj⟩,by decide,by decide,by decide⟩,fun v j p=>⟨⟨s,p.2⟩,fun v j p=>⟨⟨s,p.fj⟩,fun v j p=>cd1 rfl ⟨_,_,_,_,_,_,_,_,_,q0 j p.fj,⟨rfl,rfl,rfl,rfl,rfl,rfl,rfl,⟨trivial,rfl⟩,trivial⟩,sT⟩⟩⟩⟩) (fun _=>csx (fun _=>⟨⟨⟨s,q.fj⟩,by decide,by decide,by decide⟩,fun v j p=>⟨⟨s,p.2⟩,fun v2 j p2=>?_⟩⟩) (fun _=>csx (fun _=>csx (fun h0=>⟨⟨s,q.fj⟩,fun v j p=>⟨⟨⟨s,p.fj⟩,⟨rfl,by decide,by decide⟩,ints_of [-1001,0,99999] ?_⟩,fun v2 j p2=>?_⟩⟩) (fun _=>cd1 rfl ⟨_,_,_,_,_,_,_,_,_,q0 j q.fj,⟨rfl,rfl,rfl,rfl,rfl,rfl,rfl,⟨trivial,rfl⟩,trivial⟩,sT⟩)) (fun _=>cdI (by omega) (cd1 rfl ⟨_,_,_,_,_,_,_,_,_,q0 j q.fj,⟨rfl,rfl,rfl,rfl,rfl,rfl,rfl,⟨trivial,rfl⟩,trivial⟩,sT⟩))))))))⟩
 ·simp only [List.mem_cons,List.not_mem_nil,or_false] at hx
  rcases hx with rfl | rfl | rfl | rfl | rfl | rfl <;> exact ⟨_,rfl⟩
 ·intro n hn
  simp only [List.mem_cons,List.not_mem_nil,or_false] at hn
  show _∧_
  omega
 ·have:=p2.fv (by omega)
  exact cd1 ⟨rfl,by simp; omega,by simp; omega⟩ (cd1 rfl ⟨_,_,_,_,_,_,_,_,_,⟨rds_adB hr hl (by show _∧_; omega) (by show _∧_; omega),by simp; omega,p2.fj⟩,⟨rfl,rfl,rfl,rfl,rfl,rfl,rfl,⟨trivial,rfl⟩,trivial⟩,sT⟩)
 ·intro n hn
  simp only [List.mem_cons,List.not_mem_nil,or_false] at hn
  show _∧_
  omega
 ·rw [List.nil_append] at *
  have hv:=p.fv (by omega)
  have:=pick_of [-1001,0,99999] p2
  simp only [List.mem_cons,List.not_mem_nil,or_false] at this
  exact cd1 (by omega) (cd1 ⟨rfl,by omega⟩ (cd1 (by simp [setEl]) ⟨_,_,_,_,_,_,_,_,_,⟨rds_stB hr (by omega) (by show _∧_; omega),by simp [setEl]; omega,p2.fj⟩,⟨rfl,rfl,rfl,rfl,rfl,rfl,rfl,⟨trivial,rfl⟩,trivial⟩,sT⟩))
def qbent_S:Prop:=∀ (gl:Glob) (xs:List (List AV)) (i k:Int) (nm:ByteArray) (t f a b c:Int) (h:Bool) (ys:List (List AV)),SrcQ xs i∧BntP ys c→fnQ Tryz.prog { glob:=gl,spec:=lk [],specH:=lk [],specQ:=lk [(37,qn_s),(24,qrange_s),(44,qtext_s),(43,qplace_s),(40,qpick_s)],nowf:=true } { nt:=81,drop:=drp [(1,992),(2,1024),(3,258048),(4,524288),(5,7340032),(6,16777216),(7,503316480),(8,1073741824),(9,32212254720),(10,68719476736),(11,962072674304),(12,2199023255552),(13,1121501860331520),(14,2251799813685248),(15,4607182418800017408),(16,9223372036854775808),(17,129127208515966861312),(18,1208630671709449821880320),(19,1208925819614629174706176)],fr:=1000,kp:=[0],frz:=fun id=>cond (Nat.beq id 19) [1001005] [] } (fun _ _=>none) 6 Tryz.f14 [.ptr 0 0,.agg [.int .i64 k,.str nm,.int .i64 t,.int .i64 f,.int .i64 a,.int .i64 b,.int .i64 c,.sl 2 h ys]] [.cells [.sl 1 false xs,.int .i64 i]] (fun r2 bs2=>∃ (k:Int) (nm:ByteArray) (t f a b c:Int) (zs:List (List AV)) (j:Int),(BntQ zs j)∧le r2 (.agg [.int .i64 k,.str nm,.int .i64 t,.int .i64 f,.int .i64 a,.int .i64 b,.int .i64 c,.sl 2 false zs])∧leBs bs2 [.cells [.sl 1 false xs,.int .i64 j]])
theorem qbent_e:qbent_T=qbent_S:=by kernel_rfl
theorem qbent_v:qbent_S:=Eq.mp (qbent_e ..) (qbent_P)
theorem qbent_ok (gl:Glob):QOK Tryz.prog gl 14 qbent_s:=by
 refine ⟨fok Tryz.func14 (by kernel_rfl) (by kernel_rfl),?_⟩
 intro xs bs T h K hT
 unfold qbent_s at h
 split at h
 ·simp only [Option.some.injEq] at h
  subst h
  obtain ⟨hp,hK⟩:=hT
  obtain ⟨r,bs2,⟨o0,o1,o2,o3,o4,o5,o6,o7,o8,hq,hl,hb⟩,hC⟩:=fnQ_sound tyNil (by exact specOK rfl rfl trivial trivial (d:=qsOf rfl ⟨(qn_ok gl),(qrange_ok gl),(qtext_ok gl),(qplace_ok gl),(qpick_ok gl),trivial⟩)) (by kernel_rfl) Tryz.func14 (qbent_v gl _ _ _ _ _ _ _ _ _ _ _ hp)
  exact ⟨_,_,hK o0 o1 o2 o3 o4 o5 o6 o7 o8 hq,hC.le hl hb⟩
 ·cases h
theorem rep_bnt {k:Int} {nm:ByteArray} {t f a b c:Int} {ys:LLA} {j:Int} (h:RepQ k nm t f a b c ys j):BntP ys c:=⟨h.fr.p.1,by have:=h.fr.p.2; omega,by
 by_cases e:k=1
 ·have:=(h.fl e).2.2.2; omega
 ·have:=(h.fp e).1.wc; omega⟩
end Go.Proofs.YtldiagnbagpliaaGreatDoor
namespace Go.Proofs.YtldiagnbagpliaaGreatDoor
open Go
set_option linter.unusedVariables false
set_option linter.unusedSimpArgs false
structure AlP (n:Int) (x:Int × Int):Prop where
 flo:0≤x.1
 fhi:x.1≤n
 fj:0≤x.2
structure AlI (n x:Int):Prop where
 flo:0≤x
 fhi:x≤n
def al7 (xs l0 r:LLR) (m:Int) (c4:List AV):LInv:=⟨Int × Int,fun x=>⟨[(3,.ptr 3 0),(4,.ptr 4 0),(7,.ptr 32 0),(8,.int .i64 m),(9,.ptr 9 0),(10,.int .i64 x.1)],[(32,.cells [.sl 1 false xs,.int .i64 x.2]),(3,.cells [.sl 3 false l0]),(4,.cells c4),(9,.cells [.sl 3 false r])]⟩,AlP 5,fun x=>(5 - x.1).toNat,none⟩
def al14 (xs l0 r R:LLR) (m i:Int) (c4:List AV):LInv:=⟨Int × Int,fun x=>⟨[(3,.ptr 3 0),(4,.ptr 4 0),(7,.ptr 32 0),(8,.int .i64 m),(9,.ptr 9 0),(10,.int .i64 i),(55,.rw 55 8 4),(56,.int .i64 4),(57,.int .i64 x.1)],[(32,.cells [.sl 1 false xs,.int .i64 x.2]),(3,.cells [.sl 3 false l0]),(4,.cells c4),(9,.cells [.sl 3 false r]),(55,.row 29 8 R)]⟩,AlP 4,fun x=>(4 - x.1).toNat,none⟩
def al17 (xs l0 r R G:LLR) (m i q j:Int) (c4 c15:List AV):LInv:=⟨Int,fun x=>⟨[(3,.ptr 3 0),(4,.ptr 4 0),(7,.ptr 32 0),(8,.int .i64 m),(9,.ptr 9 0),(10,.int .i64 i),(15,.ptr 15 0),(55,.rw 55 8 4),(56,.int .i64 4),(57,.int .i64 q),(66,.rw 66 1 3),(67,.int .i64 3),(68,.int .i64 x)],[(32,.cells [.sl 1 false xs,.int .i64 j]),(3,.cells [.sl 3 false l0]),(4,.cells c4),(9,.cells [.sl 3 false r]),(15,.cells c15),(55,.row 29 8 R),(66,.row 24 1 G)]⟩,AlI 3,fun x=>(3 - x).toNat,none⟩
def alJ (id:Nat) (st:St):Option LInv:=match lk st.tmps 8,lk st.heap 32,lk st.heap 3,lk st.heap 4,lk st.heap 9 with
 | some (.int _ m),some (.cells [.sl _ _ xs,.int _ j]),some (.cells [.sl _ _ l0]),some (.cells c4),some (.cells [.sl _ _ r])=>cond (Nat.beq id 7) (some (al7 xs l0 r m c4)) (cond (Nat.beq id 14) (match lk st.heap 55,lk st.tmps 10 with
  | some (.row _ _ R),some (.int _ i)=>some (al14 xs l0 r R m i c4)
  | _,_=>none) (cond (Nat.beq id 17) (match lk st.heap 55,lk st.heap 66,lk st.heap 15,lk st.tmps 10,lk st.tmps 57 with
  | some (.row _ _ R),some (.row _ _ G),some (.cells c15),some (.int _ i),some (.int _ q)=>some (al17 xs l0 r R G m i q j c4 c15)
  | _,_,_,_,_=>none) none))
 | _,_,_,_,_=>none
theorem zS_rds {e:Int} {U:LLR} (h:RdsP U):RdsP (zS e U):=by
 unfold zS; split
 ·exact h
 ·exact rdsP_nil
theorem regv_bno {l:LLR} (h:RegV l):BnoP l:=⟨h.fp,fun i hi=>by
 have g:=((rgV_iff.1 h.f0).2.1 _ (gD_mem hi)).g1
 have g:s1B (hoP l i)=false:=g
 unfold s1B at g
 obtain ⟨g1,g2⟩:=Bool.or_eq_false_iff.1 g
 have g1:=of_decide_eq_false g1
 have g2:=of_decide_eq_false g2
 exact ⟨fun z=>g1 (by rw [z]; rfl),by omega⟩⟩
structure RpsR (R:LLR):Prop where
 fl:R.length=4
 fr:∀ i:Nat,i < 4→∃ (k:Int) (n:ByteArray) (t f a b c:Int) (rd:LLR),R.getD i []=[.int .i64 k,.str n,.int .i64 t,.int .i64 f,.int .i64 a,.int .i64 b,.int .i64 c,.sl 2 false rd]∧RdsP rd∧rd.length≤1000
structure RgsG (G:LLR):Prop where
 fl:G.length=3
 fr:∀ i:Nat,i < 3→∃ g:LLR,G.getD i []=[.sl 3 false g]∧StsP g
def lapplies_s (apE:LLR→Int→ByteArray→Int→Int→Int→Int→Int→LLR→Int) (apX:Nat→LLR→Int→ByteArray→Int→Int→Int) (apP:LLR→ByteArray→Int→List AV) (zI:Int→Int→Int) (zN:Int→ByteArray→ByteArray) (zS:Int→LLR→LLR) (unb:LLR→LLR→LLR) (pB:List AV→LLR) (smlR:ByteArray→LLA→Bool) (rdC:LLR→LLR→Int) (cmpI:Int→Int→Int) (cmpS:ByteArray→ByteArray→Int):Sp
 | [.agg [.sl 3 false l0],.agg [.int .i64 k,.str n,.int .i64 t,.int .i64 f,.int .i64 a,.int .i64 b,.int .i64 c,.sl 2 false rd],.sl 1 false xs]=>some (StsA l0∧RdA rd∧IntsA xs,.bool true)
 | _=>none
def lapplies_T (apE:LLR→Int→ByteArray→Int→Int→Int→Int→Int→LLR→Int) (apX:Nat→LLR→Int→ByteArray→Int→Int→Int) (apP:LLR→ByteArray→Int→List AV) (zI:Int→Int→Int) (zN:Int→ByteArray→ByteArray) (zS:Int→LLR→LLR) (unb:LLR→LLR→LLR) (pB:List AV→LLR) (smlR':ByteArray→LLA→Bool) (rdC:LLR→LLR→Int) (cmpI:Int→Int→Int) (cmpS:ByteArray→ByteArray→Int) (rgV:LLR→Int) (stN:LLR→ByteArray→Nat) (stH:LLR→ByteArray→Bool) (pI:Nat→List AV→Int) (pC:List AV→Bool) (atR:LLR→Int→List AV) (atB:LLR→Int→Bool) (exK:Int→Bool) (vdE:LLR→Int) (isN:Int→Int→Int→Int→Bool) (atZ:LLR→ByteArray→Int→List AV) (atE:LLR→ByteArray→Int→Int) (fiK:LLR→ByteArray→Int) (fiN:LLR→ByteArray→ByteArray) (fiP:LLR→ByteArray→LLR) (fiB:LLR→ByteArray→Bool) (fdV:LLR→Int→Int) (fdB:LLR→Int→Bool) (iL:Int→ByteArray) (inLo:Int→Int) (inHi:Int→Int) (inD:Int→Int) (inE:Int→Int):Prop :=
  ∀ (l0:List (List AV)) (k t f a b c:Int) (n:ByteArray) (rd xs:List (List AV)),(StsA l0∧RdA rd∧∀ (x:List AV),List.Mem x xs→∃ n,x=[AV.int .i64 n]∧rng .i64 n)→True∧True→(IR9 k)∧n.size.le (9223372036854775807:Nat)∧(IR9 t)∧((-9223372036854775808:Int)≤f∧f ≤
 (9223372036854775807:Int))∧(IR9 a)∧(IR9 b)∧(IR9 c)∧True∧True→True→StsA l0∧∀ (b_1:Bool),SmaQ l0 b_1→bif !b_1 then True∧true=true else True∧bif !smlR n rd then True∧true=true else True∧SrcQ (List.take
 (2000:Nat) xs) (0:Int)∧∀ (m j:Int),MinQ m j→(SrcQ (List.take (2000:Nat) xs) j∧0≤m∧m≤(52595999:Int))∧∀ (l:List (List AV)) (j:Int),RegvQ l j→(∃ x,AlP (5:Int) x∧((0:Nat)=0∧(0:Nat)=0∧(0:Nat)=0∧m=m∧(0:Nat)=0∧(0:Int)=x.fst∧True)∧((True∧List.take (2000:Nat) xs=List.take (2000:Nat) xs)∧j=x.snd∧True)∧((True∧l0=l0)∧True)∧(k=k∧n=n∧t=t∧f=f∧a=a∧b=b∧c=c∧(True∧rd=rd)∧True)∧((True∧l=l)∧True)∧True)∧∀ (x
:Int × Int),AlP (5:Int) x→bif decide (x.fst < (5:Int)) then (SrcQ (List.take (2000:Nat) xs) x.snd∧0≤m∧m≤(52595999:Int))∧∀ (k_1:Int) (nm:ByteArray) (t_1 f_1 a_9 b_2 c_1:Int) (ys:List (List AV)) (j:Int),RepQ k_1 nm t_1 f_1 a_9 b_2 c_1 ys j→(SrcQ (List.take (2000:Nat) xs) j∧BntP ys c_1)∧∀ (k_2:Int) (nm_1:ByteArray) (t_2 f_2 a_11 b_3 c_2:Int) (zs:List (List AV)) (j:Int),BntQ zs j→(∃
 x_1,AlP (4:Int) x_1∧((0:Nat)=0∧(0:Nat)=0∧(0:Nat)=0∧m=m∧(0:Nat)=0∧x.fst=x.fst∧(4:Nat)=4∧(4:Int)=4∧(0:Int)=x_1.fst∧True)∧((True∧List.take (2000:Nat) xs=List.take (2000:Nat) xs)∧j=x_1.snd∧True)∧((True∧l0=l0)∧True)∧(k=k∧n=n∧t=t∧f=f∧a=a∧b=b∧c=c∧(True∧rd=rd)∧True)∧((True∧l=l)∧True)∧[[AV.int .i64 k,.str n,.int .i64 t,.int .i64 f,.int .i64 a,.int .i64 b,.int .i64 c,.sl (2:Nat) false rd],[AV.int .i64
 k_1,.str nm,.int .i64 t_1,.int .i64 f_1,.int .i64 a_9,.int .i64 b_2,.int .i64 c_1,.sl (2:Nat) false ys],[AV.int .i64 k_2,.str nm_1,.int .i64 t_2,.int .i64 f_2,.int .i64 a_11,.int .i64 b_3,.int .i64 c_2,.sl (2:Nat) false zs],[AV.int .i64 k_1,.str nm,.int .i64 t_1,.int .i64 (0:Int),.int .i64 (0:Int),.int .i64 (0:Int),.int .i64 (0:Int),.sl (2:Nat) false ys]]=[[AV.int .i64 k,.str n,.int .i64 t,.int
 .i64 f,.int .i64 a,.int .i64 b,.int .i64 c,.sl (2:Nat) false rd],[AV.int .i64 k_1,.str nm,.int .i64 t_1,.int .i64 f_1,.int .i64 a_9,.int .i64 b_2,.int .i64 c_1,.sl (2:Nat) false ys],[AV.int .i64 k_2,.str nm_1,.int .i64 t_2,.int .i64 f_2,.int .i64 a_11,.int .i64 b_3,.int .i64 c_2,.sl (2:Nat) false zs],[AV.int .i64 k_1,.str nm,.int .i64 t_1,.int .i64 (0:Int),.int .i64 (0:Int),.int .i64 (0:Int),.int
 .i64 (0:Int),.sl (2:Nat) false ys]]∧True)∧∀ (x_1:Int × Int),AlP (4:Int) x_1→bif decide (x_1.fst < (4:Int)) then bif decide (0≤x_1.fst∧x_1.fst < (4:Int)) then bif decide ((4:Nat)=[[AV.int .i64 k,.str n,.int .i64 t,.int .i64 f,.int .i64 a,.int .i64 b,.int .i64 c,.sl (2:Nat) false rd],[AV.int .i64 k_1,.str nm,.int .i64 t_1,.int .i64 f_1,.int .i64 a_9,.int .i64 b_2,.int .i64 c_1,.sl (2:Nat)
 false ys],[AV.int .i64 k_2,.str nm_1,.int .i64 t_2,.int .i64 f_2,.int .i64 a_11,.int .i64 b_3,.int .i64 c_2,.sl (2:Nat) false zs],[AV.int .i64 k_1,.str nm,.int .i64 t_1,.int .i64 (0:Int),.int .i64 (0:Int),.int .i64 (0:Int),.int .i64 (0:Int),.sl (2:Nat) false ys]].length∧x_1.fst.toNat < [[AV.int .i64 k,.str n,.int .i64 t,.int .i64 f,.int .i64 a,.int .i64 b,.int .i64 c,.sl (2:Nat) false rd],[AV.int
 .i64 k_1,.str nm,.int .i64 t_1,.int .i64 f_1,.int .i64 a_9,.int .i64 b_2,.int .i64 c_1,.sl (2:Nat) false ys],[AV.int .i64 k_2,.str nm_1,.int .i64 t_2,.int .i64 f_2,.int .i64 a_11,.int .i64 b_3,.int .i64 c_2,.sl (2:Nat) false zs],[AV.int .i64 k_1,.str nm,.int .i64 t_1,.int .i64 (0:Int),.int .i64 (0:Int),.int .i64 (0:Int),.int .i64 (0:Int),.sl (2:Nat) false ys]].length) then ∃ n_1 s n_2 n_3 n_4 n_5
 n_6 xs_1,List.take [AV.int .i64 n_1,.str s,.int .i64 n_2,.int .i64 n_3,.int .i64 n_4,.int .i64 n_5,.int .i64 n_6,.sl (2:Nat) false xs_1].length (List.drop (0:Nat) ([[AV.int .i64 k,.str n,.int .i64 t,.int .i64 f,.int .i64 a,.int .i64 b,.int .i64 c,.sl (2:Nat) false rd],[AV.int .i64 k_1,.str nm,.int .i64 t_1,.int .i64 f_1,.int .i64 a_9,.int .i64 b_2,.int .i64 c_1,.sl (2:Nat) false ys],[AV.int .i64
 k_2,.str nm_1,.int .i64 t_2,.int .i64 f_2,.int .i64 a_11,.int .i64 b_3,.int .i64 c_2,.sl (2:Nat) false zs],[AV.int .i64 k_1,.str nm,.int .i64 t_1,.int .i64 (0:Int),.int .i64 (0:Int),.int .i64 (0:Int),.int .i64 (0:Int),.sl (2:Nat) false ys]].getD x_1.fst.toNat []))=[AV.int .i64 n_1,.str s,.int .i64 n_2,.int .i64 n_3,.int .i64 n_4,.int .i64 n_5,.int .i64 n_6,.sl (2:Nat) false xs_1]∧(SrcQ (List.take
 (2000:Nat) xs) x_1.snd∧BnoP l)∧∀ (q:List (List AV)) (j2:Int),BntR q j2→(∃ x_2,AlI (3:Int) x_2∧((0:Nat)=0∧(0:Nat)=0∧(0:Nat)=0∧m=m∧(0:Nat)=0∧x.fst=x.fst∧(0:Nat)=0∧(4:Nat)=4∧(4:Int)=4∧x_1.fst=x_1.fst∧(3:Nat)=3∧(3:Int)=3∧(0:Int)=x_2∧True)∧((True∧List.take (2000:Nat) xs=List.take (2000:Nat)
 xs)∧j2=j2∧True)∧((True∧l0=l0)∧True)∧(k=k∧n=n∧t=t∧f=f∧a=a∧b=b∧c=c∧(True∧rd=rd)∧True)∧((True∧l=l)∧True)∧(n_1=n_1∧s=s∧n_2=n_2∧n_3=n_3∧n_4=n_4∧n_5=n_5∧n_6=n_6∧(True∧xs_1=xs_1)∧True)∧[[AV.int .i64 k,.str n,.int .i64 t,.int .i64 f,.int .i64 a,.int .i64 b,.int .i64 c,.sl (2:Nat) false rd],[AV.int .i64 k_1,.str nm,.int .i64 t_1,.int .i64 f_1,.int .i64 a_9,.int .i64 b_2,.int .i64 c_1,.sl (2:Nat) false
 ys],[AV.int .i64 k_2,.str nm_1,.int .i64 t_2,.int .i64 f_2,.int .i64 a_11,.int .i64 b_3,.int .i64 c_2,.sl (2:Nat) false zs],[AV.int .i64 k_1,.str nm,.int .i64 t_1,.int .i64 (0:Int),.int .i64 (0:Int),.int .i64 (0:Int),.int .i64 (0:Int),.sl (2:Nat) false ys]]=[[AV.int .i64 k,.str n,.int .i64 t,.int .i64 f,.int .i64 a,.int .i64 b,.int .i64 c,.sl (2:Nat) false rd],[AV.int .i64 k_1,.str nm,.int .i64
 t_1,.int .i64 f_1,.int .i64 a_9,.int .i64 b_2,.int .i64 c_1,.sl (2:Nat) false ys],[AV.int .i64 k_2,.str nm_1,.int .i64 t_2,.int .i64 f_2,.int .i64 a_11,.int .i64 b_3,.int .i64 c_2,.sl (2:Nat) false zs],[AV.int .i64 k_1,.str nm,.int .i64 t_1,.int .i64 (0:Int),.int .i64 (0:Int),.int .i64 (0:Int),.int .i64 (0:Int),.sl (2:Nat) false ys]]∧[[AV.sl (3:Nat) false l0],[AV.sl (3:Nat) false l],[AV.sl (3:Nat)
 false q]]=[[AV.sl (3:Nat) false l0],[AV.sl (3:Nat) false l],[AV.sl (3:Nat) false q]]∧True)∧∀ (x_2:Int),AlI (3:Int) x_2→bif decide (x_2 < (3:Int)) then bif decide (0≤x_2∧x_2 < (3:Int)) then bif decide ((3:Nat)=[[AV.sl (3:Nat) false l0],[AV.sl (3:Nat) false l],[AV.sl (3:Nat) false q]].length∧x_2.toNat < [[AV.sl (3:Nat) false l0],[AV.sl (3:Nat) false l],[AV.sl (3:Nat) false q]].length) then ∃
 xs_2,List.take [AV.sl (3:Nat) false xs_2].length (List.drop (0:Nat) ([[AV.sl (3:Nat) false l0],[AV.sl (3:Nat) false l],[AV.sl (3:Nat) false q]].getD x_2.toNat []))=[AV.sl (3:Nat) false xs_2]∧(StsP xs_2∧RdsP xs_1∧xs_1.length≤(1000:Nat))∧(StsP xs_2∧RdsP xs_1∧xs_1.length≤(1000:Nat))∧bif decide ¬apE xs_2 n_1 s n_2 n_3 n_4 n_5 n_6 xs_1=apE xs_2 n_1 s n_2 n_3 n_4 n_5 n_6 xs_1 then false=true else
 (RdsP (zS (apE xs_2 n_1 s n_2 n_3 n_4 n_5 n_6 xs_1) (unb xs_1 (pB (apP xs_2 s n_2))))∧RdsP (zS (apE xs_2 n_1 s n_2 n_3 n_4 n_5 n_6 xs_1) (unb xs_1 (pB (apP xs_2 s n_2)))))∧bif !decide (orI (cmpI (zI (apE xs_2 n_1 s n_2 n_3 n_4 n_5 n_6 xs_1) n_1) (zI (apE xs_2 n_1 s n_2 n_3 n_4 n_5 n_6 xs_1) n_1)) (orI (cmpS (zN (apE xs_2 n_1 s n_2 n_3 n_4 n_5 n_6 xs_1) s) (zN (apE xs_2 n_1 s n_2 n_3 n_4 n_5 n_6
 xs_1) s)) (orI (cmpI (zI (apE xs_2 n_1 s n_2 n_3 n_4 n_5 n_6 xs_1) n_2) (zI (apE xs_2 n_1 s n_2 n_3 n_4 n_5 n_6 xs_1) n_2)) (orI (cmpI (zI (apE xs_2 n_1 s n_2 n_3 n_4 n_5 n_6 xs_1) (apX (2:Nat) xs_2 n_1 s n_2 n_3)) (zI (apE xs_2 n_1 s n_2 n_3 n_4 n_5 n_6 xs_1) (apX (2:Nat) xs_2 n_1 s n_2 n_3))) (orI (cmpI (zI (apE xs_2 n_1 s n_2 n_3 n_4 n_5 n_6 xs_1) (apX (3:Nat) xs_2 n_1 s n_2 n_4)) (zI (apE xs_2
 n_1 s n_2 n_3 n_4 n_5 n_6 xs_1) (apX (3:Nat) xs_2 n_1 s n_2 n_4))) (orI (cmpI (zI (apE xs_2 n_1 s n_2 n_3 n_4 n_5 n_6 xs_1) (apX (4:Nat) xs_2 n_1 s n_2 n_5)) (zI (apE xs_2 n_1 s n_2 n_3 n_4 n_5 n_6 xs_1) (apX (4:Nat) xs_2 n_1 s n_2 n_5))) (orI (cmpI (zI (apE xs_2 n_1 s n_2 n_3 n_4 n_5 n_6 xs_1) (apX (5:Nat) xs_2 n_1 s n_2 n_6)) (zI (apE xs_2 n_1 s n_2 n_3 n_4 n_5 n_6 xs_1) (apX (5:Nat) xs_2 n_1 s
 n_2 n_6))) (rdC (zS (apE xs_2 n_1 s n_2 n_3 n_4 n_5 n_6 xs_1) (unb xs_1 (pB (apP xs_2 s n_2)))) (zS (apE xs_2 n_1 s n_2 n_3 n_4 n_5 n_6 xs_1) (unb xs_1 (pB (apP xs_2 s n_2)))))))))))=(0:Int)) then false=true else ∃ y,AlI (3:Int) y∧(al17 (List.take (2000:Nat) xs) l0 l [[AV.int .i64 k,.str n,.int .i64 t,.int .i64 f,.int .i64 a,.int .i64 b,.int .i64 c,.sl (2:Nat) false rd],[AV.int .i64 k_1,.str
 nm,.int .i64 t_1,.int .i64 f_1,.int .i64 a_9,.int .i64 b_2,.int .i64 c_1,.sl (2:Nat) false ys],[AV.int .i64 k_2,.str nm_1,.int .i64 t_2,.int .i64 f_2,.int .i64 a_11,.int .i64 b_3,.int .i64 c_2,.sl (2:Nat) false zs],[AV.int .i64 k_1,.str nm,.int .i64 t_1,.int .i64 (0:Int),.int .i64 (0:Int),.int .i64 (0:Int),.int .i64 (0:Int),.sl (2:Nat) false ys]] [[AV.sl (3:Nat) false l0],[AV.sl (3:Nat) false
 l],[AV.sl (3:Nat) false q]] m x.fst x_1.fst j2 (cellsA (AV.agg [AV.int .i64 k,.str n,.int .i64 t,.int .i64 f,.int .i64 a,.int .i64 b,.int .i64 c,.sl (2:Nat) false rd])) [AV.int .i64 n_1,.str s,.int .i64 n_2,.int .i64 n_3,.int .i64 n_4,.int .i64 n_5,.int .i64 n_6,.sl (2:Nat) false xs_1]).m y < (al17 (List.take (2000:Nat) xs) l0 l [[AV.int .i64 k,.str n,.int .i64 t,.int .i64 f,.int .i64 a,.int .i64
 b,.int .i64 c,.sl (2:Nat) false rd],[AV.int .i64 k_1,.str nm,.int .i64 t_1,.int .i64 f_1,.int .i64 a_9,.int .i64 b_2,.int .i64 c_1,.sl (2:Nat) false ys],[AV.int .i64 k_2,.str nm_1,.int .i64 t_2,.int .i64 f_2,.int .i64 a_11,.int .i64 b_3,.int .i64 c_2,.sl (2:Nat) false zs],[AV.int .i64 k_1,.str nm,.int .i64 t_1,.int .i64 (0:Int),.int .i64 (0:Int),.int .i64 (0:Int),.int .i64 (0:Int),.sl (2:Nat) false
 ys]] [[AV.sl (3:Nat) false l0],[AV.sl (3:Nat) false l],[AV.sl (3:Nat) false q]] m x.fst x_1.fst j2 (cellsA (AV.agg [AV.int .i64 k,.str n,.int .i64 t,.int .i64 f,.int .i64 a,.int .i64 b,.int .i64 c,.sl (2:Nat) false rd])) [AV.int .i64 n_1,.str s,.int .i64 n_2,.int .i64 n_3,.int .i64 n_4,.int .i64 n_5,.int .i64 n_6,.sl (2:Nat) false xs_1]).m
 x_2∧((0:Nat)=0∧(0:Nat)=0∧(0:Nat)=0∧m=m∧(0:Nat)=0∧x.fst=x.fst∧(0:Nat)=0∧(4:Nat)=4∧(4:Int)=4∧x_1.fst=x_1.fst∧(3:Nat)=3∧(3:Int)=3∧IntKind.i64.wrap (x_2+(1:Int))=y∧True)∧((True∧List.take (2000:Nat) xs=List.take (2000:Nat)
 xs)∧j2=j2∧True)∧((True∧l0=l0)∧True)∧(k=k∧n=n∧t=t∧f=f∧a=a∧b=b∧c=c∧(True∧rd=rd)∧True)∧((True∧l=l)∧True)∧(n_1=n_1∧s=s∧n_2=n_2∧n_3=n_3∧n_4=n_4∧n_5=n_5∧n_6=n_6∧(True∧xs_1=xs_1)∧True)∧[[AV.int .i64 k,.str n,.int .i64 t,.int .i64 f,.int .i64 a,.int .i64 b,.int .i64 c,.sl (2:Nat) false rd],[AV.int .i64 k_1,.str nm,.int .i64 t_1,.int .i64 f_1,.int .i64 a_9,.int .i64 b_2,.int .i64 c_1,.sl (2:Nat) false
 ys],[AV.int .i64 k_2,.str nm_1,.int .i64 t_2,.int .i64 f_2,.int .i64 a_11,.int .i64 b_3,.int .i64 c_2,.sl (2:Nat) false zs],[AV.int .i64 k_1,.str nm,.int .i64 t_1,.int .i64 (0:Int),.int .i64 (0:Int),.int .i64 (0:Int),.int .i64 (0:Int),.sl (2:Nat) false ys]]=[[AV.int .i64 k,.str n,.int .i64 t,.int .i64 f,.int .i64 a,.int .i64 b,.int .i64 c,.sl (2:Nat) false rd],[AV.int .i64 k_1,.str nm,.int .i64
 t_1,.int .i64 f_1,.int .i64 a_9,.int .i64 b_2,.int .i64 c_1,.sl (2:Nat) false ys],[AV.int .i64 k_2,.str nm_1,.int .i64 t_2,.int .i64 f_2,.int .i64 a_11,.int .i64 b_3,.int .i64 c_2,.sl (2:Nat) false zs],[AV.int .i64 k_1,.str nm,.int .i64 t_1,.int .i64 (0:Int),.int .i64 (0:Int),.int .i64 (0:Int),.int .i64 (0:Int),.sl (2:Nat) false ys]]∧[[AV.sl (3:Nat) false l0],[AV.sl (3:Nat) false l],[AV.sl (3:Nat)
 false q]]=[[AV.sl (3:Nat) false l0],[AV.sl (3:Nat) false l],[AV.sl (3:Nat) false q]]∧True else False else False else ∃ y,AlP (4:Int) y∧(al14 (List.take (2000:Nat) xs) l0 l [[AV.int .i64 k,.str n,.int .i64 t,.int .i64 f,.int .i64 a,.int .i64 b,.int .i64 c,.sl (2:Nat) false rd],[AV.int .i64 k_1,.str nm,.int .i64 t_1,.int .i64 f_1,.int .i64 a_9,.int .i64 b_2,.int .i64 c_1,.sl (2:Nat) false ys],[AV.int
 .i64 k_2,.str nm_1,.int .i64 t_2,.int .i64 f_2,.int .i64 a_11,.int .i64 b_3,.int .i64 c_2,.sl (2:Nat) false zs],[AV.int .i64 k_1,.str nm,.int .i64 t_1,.int .i64 (0:Int),.int .i64 (0:Int),.int .i64 (0:Int),.int .i64 (0:Int),.sl (2:Nat) false ys]] m x.fst (cellsA (AV.agg [AV.int .i64 k,.str n,.int .i64 t,.int .i64 f,.int .i64 a,.int .i64 b,.int .i64 c,.sl (2:Nat) false rd]))).m y < (al14 (List.take
 (2000:Nat) xs) l0 l [[AV.int .i64 k,.str n,.int .i64 t,.int .i64 f,.int .i64 a,.int .i64 b,.int .i64 c,.sl (2:Nat) false rd],[AV.int .i64 k_1,.str nm,.int .i64 t_1,.int .i64 f_1,.int .i64 a_9,.int .i64 b_2,.int .i64 c_1,.sl (2:Nat) false ys],[AV.int .i64 k_2,.str nm_1,.int .i64 t_2,.int .i64 f_2,.int .i64 a_11,.int .i64 b_3,.int .i64 c_2,.sl (2:Nat) false zs],[AV.int .i64 k_1,.str nm,.int .i64
 t_1,.int .i64 (0:Int),.int .i64 (0:Int),.int .i64 (0:Int),.int .i64 (0:Int),.sl (2:Nat) false ys]] m x.fst (cellsA (AV.agg [AV.int .i64 k,.str n,.int .i64 t,.int .i64 f,.int .i64 a,.int .i64 b,.int .i64 c,.sl (2:Nat) false rd]))).m x_1∧((0:Nat)=0∧(0:Nat)=0∧(0:Nat)=0∧m=m∧(0:Nat)=0∧x.fst=x.fst∧(4:Nat)=4∧(4:Int)=4∧IntKind.i64.wrap (x_1.fst+(1:Int))=y.fst∧True)∧((True∧List.take (2000:Nat)
 xs=List.take (2000:Nat) xs)∧j2=y.snd∧True)∧((True∧l0=l0)∧True)∧(k=k∧n=n∧t=t∧f=f∧a=a∧b=b∧c=c∧(True∧rd=rd)∧True)∧((True∧l=l)∧True)∧[[AV.int .i64 k,.str n,.int .i64 t,.int .i64 f,.int .i64 a,.int .i64 b,.int .i64 c,.sl (2:Nat) false rd],[AV.int .i64 k_1,.str nm,.int .i64 t_1,.int .i64 f_1,.int .i64 a_9,.int .i64 b_2,.int .i64 c_1,.sl (2:Nat) false ys],[AV.int .i64 k_2,.str nm_1,.int .i64 t_2,.int .i64
 f_2,.int .i64 a_11,.int .i64 b_3,.int .i64 c_2,.sl (2:Nat) false zs],[AV.int .i64 k_1,.str nm,.int .i64 t_1,.int .i64 (0:Int),.int .i64 (0:Int),.int .i64 (0:Int),.int .i64 (0:Int),.sl (2:Nat) false ys]]=[[AV.int .i64 k,.str n,.int .i64 t,.int .i64 f,.int .i64 a,.int .i64 b,.int .i64 c,.sl (2:Nat) false rd],[AV.int .i64 k_1,.str nm,.int .i64 t_1,.int .i64 f_1,.int .i64 a_9,.int .i64 b_2,.int .i64
 c_1,.sl (2:Nat) false ys],[AV.int .i64 k_2,.str nm_1,.int .i64 t_2,.int .i64 f_2,.int .i64 a_11,.int .i64 b_3,.int .i64 c_2,.sl (2:Nat) false zs],[AV.int .i64 k_1,.str nm,.int .i64 t_1,.int .i64 (0:Int),.int .i64 (0:Int),.int .i64 (0:Int),.int .i64 (0:Int),.sl (2:Nat) false ys]]∧True else False else False else ∃ y,AlP (5:Int) y∧(al7 (List.take (2000:Nat) xs) l0 l m (cellsA (AV.agg [AV.int .i64
 k,.str n,.int .i64 t,.int .i64 f,.int .i64 a,.int .i64 b,.int .i64 c,.sl (2:Nat) false rd]))).m y < (al7 (List.take (2000:Nat) xs) l0 l m (cellsA (AV.agg [AV.int .i64 k,.str n,.int .i64 t,.int .i64 f,.int .i64 a,.int .i64 b,.int .i64 c,.sl (2:Nat) false rd]))).m x∧((0:Nat)=0∧(0:Nat)=0∧(0:Nat)=0∧m=m∧(0:Nat)=0∧IntKind.i64.wrap (x.fst+(1:Int))=y.fst∧True)∧((True∧List.take (2000:Nat) xs=List.take
 (2000:Nat) xs)∧x_1.snd=y.snd∧True)∧((True∧l0=l0)∧True)∧(k=k∧n=n∧t=t∧f=f∧a=a∧b=b∧c=c∧(True∧rd=rd)∧True)∧((True∧l=l)∧True)∧True else True∧true=true
theorem lapplies_P:lapplies_T apE apX apP zI zN zS unb pB smlR rdC cmpI cmpS rgV stN stH pI pC atR atB exK vdE isN atZ atE fiK fiN fiP fiB fdV fdB iL inLo inHi inD inE:=by
 unfold lapplies_T
 intro l0 k t f a b c n rd xs ⟨hl0,hrd,hz⟩ _ _ _
 have hs:SrcI (List.take 2000 xs):=SrcI.take hz
 have wr:∀ z:Int,0≤z→z≤100→IntKind.i64.wrap (z+1)=z+1:=fun z _ _=>wrap_eq (by show _∧_; omega)
 refine ⟨hl0,fun b1 q0=>csplit (fun _=>⟨trivial,rfl⟩) (fun hb=>⟨trivial,csplit (fun _=>⟨trivial,rfl⟩) (fun hsm=>?_)⟩)⟩
 have hb:b1=true:=by simpa using hb
 obtain ⟨S0,L0⟩:=q0.fb hb
 have hsm:smlR n rd=true:=by simpa using hsm
 unfold smlR at hsm
 have hrl:=of_decide_eq_true (Bool.and_eq_true _ _ ▸ hsm).2
 have hr0:RdsP rd:=⟨hrd.row,by omega⟩
 refine ⟨trivial,⟨hs,by decide⟩,fun m j q1=>⟨⟨⟨hs,q1.fj⟩,q1.fm⟩,fun l j q2=>?_⟩⟩
 have hl:=q2.fr.fp
 have hbn:=regv_bno q2.fr
 refine ⟨⟨(0,j),⟨by simp,by simp,q2.fj⟩,by (repeat' (first | exact trivial | exact rfl | assumption | apply And.intro))⟩,?_⟩
 rintro ⟨i,j⟩ ⟨i0,i5,j0⟩
 simp only at i0 i5 j0
 dsimp only
 have wi:=wr i i0 (by omega)
 refine csx (fun hi=>⟨⟨⟨hs,j0⟩,q1.fm⟩,fun k1 n1 t1 f1 a1 b1 c1 ys j q3=>⟨⟨⟨hs,q3.fj⟩,rep_bnt q3⟩,fun k2 n2 t2 f2 a2 b2 c2 zs j q4=>?_⟩⟩) (fun _=>⟨trivial,rfl⟩)
 obtain ⟨R,eR⟩:∃ R:LLR,R=[[.int .i64 k,.str n,.int .i64 t,.int .i64 f,.int .i64 a,.int .i64 b,.int .i64 c,.sl 2 false rd],[.int .i64 k1,.str n1,.int .i64 t1,.int .i64 f1,.int .i64 a1,.int .i64 b1,.int .i64 c1,.sl 2 false ys],[.int .i64 k2,.str n2,.int .i64 t2,.int .i64 f2,.int .i64 a2,.int .i64 b2,.int .i64 c2,.sl 2 false zs],[.int .i64 k1,.str n1,.int .i64 t1,.int .i64 0,.int .i64 0,.int .i64 0,.int .i64 0,.sl 2 false ys]]:=⟨_,rfl⟩
 rw [← eR]
 have y1:=q3.fr.p
 have hR:RpsR R:=by
  subst eR
  refine ⟨rfl,fun i hi=>?_⟩
  rcases i with _ | _ | _ | _ | i
  ·exact ⟨_,_,_,_,_,_,_,_,rfl,hr0,by omega⟩
  ·exact ⟨_,_,_,_,_,_,_,_,rfl,y1.1,by omega⟩
  ·exact ⟨_,_,_,_,_,_,_,_,rfl,q4.fr,q4.fl⟩
  ·exact ⟨_,_,_,_,_,_,_,_,rfl,y1.1,by omega⟩
  ·omega
 clear eR
 have hRl:=hR.fl
 refine ⟨⟨(0,j),⟨by simp,by simp,q4.fj⟩,by (repeat' (first | exact trivial | exact rfl | assumption | apply And.intro))⟩,?_⟩
 rintro ⟨p,j⟩ ⟨p0,p4,j0⟩
 simp only at p0 p4 j0
 dsimp only
 have wp:=wr p p0 (by omega)
 refine csx (fun hp=>cd1 ⟨p0,hp⟩ (cd1 ⟨hRl.symm,by omega⟩ ?_)) (fun hp=>⟨(i+1,j),⟨by simp only; omega,by simp only; omega,j0⟩,by simp only [al7]; omega,by (repeat' (first | exact trivial | exact rfl | assumption | apply And.intro))⟩)
 obtain ⟨kk,nn1,tt,ff,aa,bb,cc,rr,er,hrr,hrl⟩:=hR.fr p.toNat (by omega)
 refine ⟨kk,nn1,tt,ff,aa,bb,cc,rr,by rw [er]; rfl,⟨⟨hs,j0⟩,hbn⟩,fun q j2 q5=>?_⟩
 obtain ⟨G,eG⟩:∃ G:LLR,G=[[.sl 3 false l0],[.sl 3 false l],[.sl 3 false q]]:=⟨_,rfl⟩
 rw [← eG]
 have hG:RgsG G:=by
  subst eG
  refine ⟨rfl,fun i hi=>?_⟩
  rcases i with _ | _ | _ | i
  ·exact ⟨_,rfl,S0⟩
  ·exact ⟨_,rfl,hl⟩
  ·exact ⟨_,rfl,q5.fr⟩
  ·omega
 clear eG
 have hGl:=hG.fl
 refine ⟨⟨0,⟨by decide,by decide⟩,by (repeat' (first | exact trivial | exact rfl | assumption | apply And.intro))⟩,?_⟩
 rintro x ⟨x0,x3⟩
 have wx:=wr x x0 (by omega)
 refine csx (fun hx=>cd1 ⟨x0,hx⟩ (cd1 ⟨hGl.symm,by omega⟩ ?_)) (fun hx=>⟨(p+1,j2),⟨by simp only; omega,by simp only; omega,q5.fj⟩,by simp only [al14]; omega,by (repeat' (first | exact trivial | exact rfl | assumption | apply And.intro))⟩)
 obtain ⟨g,eg,hg⟩:=hG.fr x.toNat (by omega)
 have hU:=zS_rds (e:=apE g kk nn1 tt ff aa bb cc rr) (unb_rds (ys:=rr) (bs:=pB (apP g nn1 tt)) hrr)
 refine ⟨g,by rw [eg]; rfl,⟨hg,hrr,hrl⟩,⟨hg,hrr,hrl⟩,csx (fun z=>absurd rfl z) (fun _=>⟨⟨hU,hU⟩,csplit (fun z=>?_) (fun _=>⟨x+1,⟨by omega,by omega⟩,by simp only [al17]; omega,by (repeat' (first | exact trivial | exact rfl | assumption | apply And.intro))⟩)⟩)⟩
 rw [or_same] at z
 cases z
def lapplies_S (apE:LLR→Int→ByteArray→Int→Int→Int→Int→Int→LLR→Int) (apX:Nat→LLR→Int→ByteArray→Int→Int→Int) (apP:LLR→ByteArray→Int→List AV) (zI:Int→Int→Int) (zN:Int→ByteArray→ByteArray) (zS:Int→LLR→LLR) (unb:LLR→LLR→LLR) (pB:List AV→LLR) (smlR:ByteArray→LLA→Bool) (rdC:LLR→LLR→Int) (cmpI:Int→Int→Int) (cmpS:ByteArray→ByteArray→Int) (rgV:LLR→Int) (stN:LLR→ByteArray→Nat) (stH:LLR→ByteArray→Bool) (pI:Nat→List AV→Int) (pC:List AV→Bool) (atR:LLR→Int→List AV) (atB:LLR→Int→Bool) (exK:Int→Bool) (vdE:LLR→Int) (isN:Int→Int→Int→Int→Bool) (atZ:LLR→ByteArray→Int→List AV) (atE:LLR→ByteArray→Int→Int) (fiK:LLR→ByteArray→Int) (fiN:LLR→ByteArray→ByteArray) (fiP:LLR→ByteArray→LLR) (fiB:LLR→ByteArray→Bool) (fdV:LLR→Int→Int) (fdB:LLR→Int→Bool) (iL:Int→ByteArray) (inLo:Int→Int) (inHi:Int→Int) (inD:Int→Int) (inE:Int→Int):Prop:=∀ (l0:List (List AV)) (k t f a b c:Int) (n:ByteArray) (rd xs:List (List AV)),StsA l0∧RdA rd∧IntsA xs→fnK Tryz.prog { glob:=glb,spec:=lk [(8,dsmall_s),(16,(gApply_s rgV stN stH pI pC pB atR atB exK vdE isN unb zI zN zS apE apX apP)),(17,(rapplyF_s rgV vdE isN unb zI zN zS apE apX apP atZ atE fiK fiN fiP fiB pI pC pB fdV fdB iL inLo inHi inD inE)),(18,(rsame_s rdC cmpI cmpS)),(9,(lawake_s apE apX apP zI zS unb pB))],specH:=lk [(10,newsrc_s)],specQ:=lk [(7,dsreg_s),(11,qminute_s),(12,qregistryV_s),(13,qreport_s),(14,qbent_s),(15,rbent_s)],shape:=[60,71],slz:=[(60,[2]),(71,[3])],nowf:=true,wrap:=true } { nt:=96,drop:=drp [(1,532676608),(2,1073741824),(3,6442450944),(4,25769803776),(5,240518168576),(7,274877906944),(8,3298534883328),(9,30786325577728),(10,246290604621824),(11,281474976710656),(12,1688849860263936),(13,33776997205278720),(15,1729382256910270464),(16,71481133285624512512),(18,3541774862152233910272),(19,297509088420787648462848),(20,19040581658930409501622272),(21,4932417344027687032801198080),(23,9903520314283042199192993792),(24,19807040628566084398385987584),(25,39614081257132168796771975168)] } (alJ) 6 Tryz.f3 [.agg [.sl 3 false l0],.agg [.int .i64 k,.str n,.int .i64 t,.int .i64 f,.int .i64 a,.int .i64 b,.int .i64 c,.sl 2 false rd],.sl 1 false xs] (.bool true)
theorem lapplies_e (apE:LLR→Int→ByteArray→Int→Int→Int→Int→Int→LLR→Int) (apX:Nat→LLR→Int→ByteArray→Int→Int→Int) (apP:LLR→ByteArray→Int→List AV) (zI:Int→Int→Int) (zN:Int→ByteArray→ByteArray) (zS:Int→LLR→LLR) (unb:LLR→LLR→LLR) (pB:List AV→LLR) (smlR:ByteArray→LLA→Bool) (rdC:LLR→LLR→Int) (cmpI:Int→Int→Int) (cmpS:ByteArray→ByteArray→Int) (rgV:LLR→Int) (stN:LLR→ByteArray→Nat) (stH:LLR→ByteArray→Bool) (pI:Nat→List AV→Int) (pC:List AV→Bool) (atR:LLR→Int→List AV) (atB:LLR→Int→Bool) (exK:Int→Bool) (vdE:LLR→Int) (isN:Int→Int→Int→Int→Bool) (atZ:LLR→ByteArray→Int→List AV) (atE:LLR→ByteArray→Int→Int) (fiK:LLR→ByteArray→Int) (fiN:LLR→ByteArray→ByteArray) (fiP:LLR→ByteArray→LLR) (fiB:LLR→ByteArray→Bool) (fdV:LLR→Int→Int) (fdB:LLR→Int→Bool) (iL:Int→ByteArray) (inLo:Int→Int) (inHi:Int→Int) (inD:Int→Int) (inE:Int→Int):lapplies_T apE apX apP zI zN zS unb pB smlR rdC cmpI cmpS rgV stN stH pI pC atR atB exK vdE isN atZ atE fiK fiN fiP fiB fdV fdB iL inLo inHi inD inE=lapplies_S apE apX apP zI zN zS unb pB smlR rdC cmpI cmpS rgV stN stH pI pC atR atB exK vdE isN atZ atE fiK fiN fiP fiB fdV fdB iL inLo inHi inD inE:=by kernel_rfl
theorem lapplies_v:lapplies_S apE apX apP zI zN zS unb pB smlR rdC cmpI cmpS rgV stN stH pI pC atR atB exK vdE isN atZ atE fiK fiN fiP fiB fdV fdB iL inLo inHi inD inE:=Eq.mp (lapplies_e ..) (lapplies_P)
theorem lapplies_ok:SOK Tryz.prog glb 3 (lapplies_s apE apX apP zI zN zS unb pB smlR rdC cmpI cmpS):=by
 refine ⟨fok Tryz.func3 (by kernel_rfl) (by kernel_rfl),?_⟩
 intro xs pre r h hp
 unfold lapplies_s at h
 split at h
 ·simp only [Option.some.injEq,Prod.mk.injEq] at h
  obtain ⟨h1,h2⟩:=h
  subst h1 h2
  exact fnK_sound tyNil (by exact specOK rfl rfl ⟨(dsmall_ok glb),(gApply_ok),(rapplyF_ok glb),(rsame_ok glb),(lawake_ok),trivial⟩ ⟨(newsrc_ok glb),trivial⟩ (d:=qsOf rfl ⟨(dsreg_ok glb),(qminute_ok glb),(qregistryV_ok glb),(qreport_ok glb),(qbent_ok glb),(rbent_ok glb),trivial⟩)) (by kernel_rfl) Tryz.func3 rfl (lapplies_v  _ _ _ _ _ _ _ _ _ _ hp)
 ·cases h
end Go.Proofs.YtldiagnbagpliaaGreatDoor
namespace Go.Proofs.YtldiagnbagpliaaGreatDoor
open Go
set_option linter.unusedVariables false
set_option linter.unusedSimpArgs false
theorem rda_of {xs:List (List AV)} (hl:xs.length≤140737488355328) (h:∀ x ∈ xs,∃ ys2 zs2,(∃ z3,rng .i64 z3∧ys2=[.int .i64 z3])∧(∃ ys4 zs4,(∃ z5,rng .i64 z5∧ys4=[.int .i64 z5])∧(zs4=[])∧zs2=ys4++zs4)∧x=ys2++zs2):RdA xs:=⟨fun i hi=>by
 have:=h _ (List.getElem_mem hi)
 rw [← gD_lt hi] at this
 generalize xs.getD i []=y at this
 obtain ⟨_,_,⟨a_0,h_0,rfl⟩,⟨_,_,⟨a_1,h_1,rfl⟩,rfl,rfl⟩,rfl⟩:=this
 exact ⟨_,_,rfl,h_0,h_1⟩,hl⟩
theorem pdsa_of {xs:List (List AV)} (hl:xs.length≤140737488355328) (h:∀ x ∈ xs,∃ ys2 zs2,(∃ z3,rng .i64 z3∧ys2=[.int .i64 z3])∧(∃ ys4 zs4,(∃ b5,ys4=[.bool b5])∧(∃ ys6 zs6,(∃ ys8 zs8,(∃ z9,rng .i64 z9∧ys8=[.int .i64 z9])∧(∃ ys10 zs10,(∃ z11,rng .i64 z11∧ys10=[.int .i64 z11])∧(∃ ys12 zs12,(∃ z13,rng .i64 z13∧ys12=[.int .i64 z13])∧(∃ ys14 zs14,(∃ z15,rng .i64 z15∧ys14=[.int .i64 z15])∧(zs14=[])∧zs12=ys14++zs14)∧zs10=ys12++zs12)∧zs8=ys10++zs10)∧ys6=ys8++zs8)∧(∃ ys17 zs17,(∃ xs18:List (List AV),xs18.length≤140737488355328∧(∀ x18 ∈ xs18,∃ ys20 zs20,(∃ z21,rng .i64 z21∧ys20=[.int .i64 z21])∧(∃ ys22 zs22,(∃ z23,rng .i64 z23∧ys22=[.int .i64 z23])∧(zs22=[])∧zs20=ys22++zs22)∧x18=ys20++zs20)∧ys17=[.sl 2 false xs18])∧(zs17=[])∧zs6=ys17++zs17)∧zs4=ys6++zs6)∧zs2=ys4++zs4)∧x=ys2++zs2):PdsA xs:=⟨fun i hi=>by
 have:=h _ (List.getElem_mem hi)
 rw [← gD_lt hi] at this
 generalize xs.getD i []=y at this
 obtain ⟨_,_,⟨a_0,h_0,rfl⟩,⟨_,_,⟨a_1,rfl⟩,⟨_,_,⟨_,_,⟨a_2_0,h_2_0,rfl⟩,⟨_,_,⟨a_2_1,h_2_1,rfl⟩,⟨_,_,⟨a_2_2,h_2_2,rfl⟩,⟨_,_,⟨a_2_3,h_2_3,rfl⟩,rfl,rfl⟩,rfl⟩,rfl⟩,rfl⟩,⟨_,_,⟨a_3,h_3L,h_3,rfl⟩,rfl,rfl⟩,rfl⟩,rfl⟩,rfl⟩:=this
 exact ⟨_,_,_,_,_,_,_,rfl,rda_of h_3L h_3⟩,hl⟩
theorem stsa_of {xs:List (List AV)} (hl:xs.length≤140737488355328) (h:∀ x ∈ xs,∃ ys2 zs2,(∃ z3,rng .i64 z3∧ys2=[.int .i64 z3])∧(∃ ys4 zs4,(∃ s5:ByteArray,s5.size≤140737488355328∧ys4=[.str s5])∧(∃ ys6 zs6,(∃ xs7:List (List AV),xs7.length≤140737488355328∧(∀ x7 ∈ xs7,∃ ys9 zs9,(∃ z10,rng .i64 z10∧ys9=[.int .i64 z10])∧(∃ ys11 zs11,(∃ b12,ys11=[.bool b12])∧(∃ ys13 zs13,(∃ ys15 zs15,(∃ z16,rng .i64 z16∧ys15=[.int .i64 z16])∧(∃ ys17 zs17,(∃ z18,rng .i64 z18∧ys17=[.int .i64 z18])∧(∃ ys19 zs19,(∃ z20,rng .i64 z20∧ys19=[.int .i64 z20])∧(∃ ys21 zs21,(∃ z22,rng .i64 z22∧ys21=[.int .i64 z22])∧(zs21=[])∧zs19=ys21++zs21)∧zs17=ys19++zs19)∧zs15=ys17++zs17)∧ys13=ys15++zs15)∧(∃ ys24 zs24,(∃ xs25:List (List AV),xs25.length≤140737488355328∧(∀ x25 ∈ xs25,∃ ys27 zs27,(∃ z28,rng .i64 z28∧ys27=[.int .i64 z28])∧(∃ ys29 zs29,(∃ z30,rng .i64 z30∧ys29=[.int .i64 z30])∧(zs29=[])∧zs27=ys29++zs29)∧x25=ys27++zs27)∧ys24=[.sl 2 false xs25])∧(zs24=[])∧zs13=ys24++zs24)∧zs11=ys13++zs13)∧zs9=ys11++zs11)∧x7=ys9++zs9)∧ys6=[.sl 7 false xs7])∧(zs6=[])∧zs4=ys6++zs6)∧zs2=ys4++zs4)∧x=ys2++zs2):StsA xs:=⟨fun i hi=>by
 have:=h _ (List.getElem_mem hi)
 rw [← gD_lt hi] at this
 generalize xs.getD i []=y at this
 obtain ⟨_,_,⟨a_0,h_0,rfl⟩,⟨_,_,⟨a_1,h_1,rfl⟩,⟨_,_,⟨a_2,h_2L,h_2,rfl⟩,rfl,rfl⟩,rfl⟩,rfl⟩:=this
 exact ⟨_,_,_,rfl,h_1,pdsa_of h_2L h_2⟩,hl⟩
end Go.Proofs.YtldiagnbagpliaaGreatDoor
