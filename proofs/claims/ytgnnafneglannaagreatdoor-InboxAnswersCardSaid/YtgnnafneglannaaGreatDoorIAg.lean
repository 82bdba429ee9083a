import Derived.Test.YtgnnafneglannaaGreatDoorIAf
import Derived.Test.YtgnnafneglannaaGreatDoorIAe
import Derived.Test.YtgnnafneglannaaGreatDoorIAc
set_option maxRecDepth 100000
namespace Go.Proofs.YtgnnafneglannaaGreatDoor
open Go
set_option linter.unusedVariables false
set_option linter.unusedSimpArgs false
set_option maxHeartbeats 4000000
def agC (p:Bool) (P:LLA):List AV:=[.bool p,.bool (bdP P 1),.bool (bdP P 2),.bool (bdP P 3),.bool (bdP P 4),.bool (bdP P 5),.bool (bdP P 6),.bool (bdP P 7),.bool (bdP P 8),.bool (bdP P 9),.bool (bdP P 10),.bool (bdP P 11)]
def mgZ:List AV:=[.int .i64 0,.str ⟨#[]⟩,.int .i64 0,.int .i64 0,.int .i64 0,.int .i64 0,.int .i64 0,.nils,.int .i64 0,.nils]
def mgH (k t f0 a b c:Int) (nm:ByteArray) (rd0:LLA) (n:Nat) (p:Bool) (P:LLA):List (Nat × Blk):=[(2,.cells mgZ),(3,.cells [.int .i64 k,.str nm,.int .i64 t,.int .i64 f0,.int .i64 a,.int .i64 b,.int .i64 c,.sl 2 false rd0]),(4,.cells [.int .i64 k,.str nm,.int .i64 t,.int .i64 f0,.int .i64 a,.int .i64 b,.int .i64 c,.nils,.int .i64 n,.nils]),(6,.cells (agC p P)),(33,.mp 3 3 (vmP P))]
def mgT (G:LLA) (f:Bool) (i:Int):List (Nat × AV):=[(2,.ptr 2 0),(3,.ptr 3 0),(4,.ptr 4 0),(5,.mpv 33),(6,.ptr 6 0),(34,.sl 10 f G),(35,.int .i64 G.length),(36,.int .i64 i)]
structure Mg1 (G:LLA) (i:Int):Prop where
 flo:0≤i
 fhi:i≤G.length
def mg6 (G:LLA) (f:Bool) (k t f0 a b c:Int) (nm:ByteArray) (rd0:LLA):LInv:=⟨Int,fun i=>⟨mgT G f i,mgH k t f0 a b c nm rd0 G.length (plF (G.take i.toNat) [f0,a,b,c]) (rdsF (G.take i.toNat))⟩,Mg1 G,fun i=>(G.length - i).toNat,none⟩
structure OneM (x:Unit):Prop where
 ft:True
def mg9 (G:LLA) (f:Bool) (k t f0 a b c:Int) (nm:ByteArray) (rd0:LLA) (i:Int) (cs:List AV):LInv:=⟨Unit,fun _=>⟨(8,.ptr 8 0)::mgT G f i,(8,.cells cs)::mgH k t f0 a b c nm rd0 G.length (plF (G.take (i.toNat+1)) [f0,a,b,c]) (rdsF (G.take i.toNat))⟩,OneM,fun _=>0,none⟩
structure Mg2 (G rd:LLA) (i k:Int):Prop where
 fi:0≤i∧i < G.length
 fr:rd=itRd (G.getD i.toNat [])
 flo:0≤k
 fhi:k≤rd.length
def mgP2 (G rd:LLA) (i k:Int):LLA:=rdsF (G.take i.toNat)++rd.take k.toNat
def mg10 (G rd:LLA) (f g:Bool) (k t f0 a b c:Int) (nm:ByteArray) (rd0:LLA) (i:Int):LInv:=⟨Int,fun q=>⟨(53,.sl 2 g rd)::(54,.int .i64 rd.length)::(55,.int .i64 q)::mgT G f i,mgH k t f0 a b c nm rd0 G.length (plF (G.take (i.toNat+1)) [f0,a,b,c]) (mgP2 G rd i q)⟩,Mg2 G rd i,fun q=>(rd.length - q).toNat,none⟩
structure Mg3 (G rd:LLA) (i k v e:Int):Prop where
 fm:Mg2 G rd i k
 fk:k < rd.length
 fe:rd.getD k.toNat []=[.int .i64 e,.int .i64 v]
 fb:1≤e∧e≤11
def mg13 (G rd:LLA) (f g:Bool) (k t f0 a b c:Int) (nm:ByteArray) (rd0:LLA) (i q v:Int):LInv:=⟨Int,fun e=>⟨(10,.ptr 10 0)::(11,.int .i64 (mInt (vmP (mgP2 G rd i q)) e))::(12,.bool (mHas (vmP (mgP2 G rd i q)) e))::(53,.sl 2 g rd)::(54,.int .i64 rd.length)::(55,.int .i64 q)::mgT G f i,(10,.cells [.int .i64 e,.int .i64 v])::mgH k t f0 a b c nm rd0 G.length (plF (G.take (i.toNat+1)) [f0,a,b,c]) (mgP2 G rd i q)⟩,Mg3 G rd i q v,fun _=>0,some [1,2,3,4,5,6,7,8,9,10,11]⟩
structure Mg4 (G:LLA) (n:Int):Prop where
 flo:0≤n
 fhi:n≤12
def mgI (p:Bool) (n:Int):Int:=if p then 0 else n
def mgS (G:LLA) (k t f0 a b c:Int) (nm:ByteArray) (rd0:LLA) (n:Int):St:=⟨[(2,.ptr 2 0),(4,.ptr 4 0),(5,.mpv 33),(94,.agg (agC (plF G [f0,a,b,c]) (rdsF G))),(95,.int .i64 n)],[(2,.cells mgZ),(3,.cells [.int .i64 k,.str nm,.int .i64 t,.int .i64 f0,.int .i64 a,.int .i64 b,.int .i64 c,.sl 2 false rd0]),(4,.cells [.int .i64 k,.str nm,.int .i64 t,.int .i64 (mgI (plF G [f0,a,b,c]) f0),.int .i64 (mgI (plF G [f0,a,b,c]) a),.int .i64 (mgI (plF G [f0,a,b,c]) b),.int .i64 (mgI (plF G [f0,a,b,c]) c),.rw 501 2 (rdN G n.toNat).length,.int .i64 G.length,.rw 502 1 (ctN G n.toNat).length]),(33,.mp 3 3 (vmP (rdsF G))),(501,.row 63 2 (rdN G n.toNat)),(502,.row 3 1 (ctN G n.toNat))]⟩
def mg19 (G:LLA) (k t f0 a b c:Int) (nm:ByteArray) (rd0:LLA):LInv:=⟨Unit,fun _=>⟨[(2,.ptr 2 0),(4,.ptr 4 0),(5,.mpv 33),(6,.ptr 6 0)],[(2,.cells mgZ),(3,.cells [.int .i64 k,.str nm,.int .i64 t,.int .i64 f0,.int .i64 a,.int .i64 b,.int .i64 c,.sl 2 false rd0]),(4,.cells [.int .i64 k,.str nm,.int .i64 t,.int .i64 (mgI (plF G [f0,a,b,c]) f0),.int .i64 (mgI (plF G [f0,a,b,c]) a),.int .i64 (mgI (plF G [f0,a,b,c]) b),.int .i64 (mgI (plF G [f0,a,b,c]) c),.nils,.int .i64 G.length,.nils]),(6,.cells (agC (plF G [f0,a,b,c]) (rdsF G))),(33,.mp 3 3 (vmP (rdsF G)))]⟩,OneM,fun _=>0,none⟩
def mg20 (G:LLA) (k t f0 a b c:Int) (nm:ByteArray) (rd0:LLA):LInv:=⟨Int,mgS G k t f0 a b c nm rd0,Mg4 G,fun n=>(12 - n).toNat,none⟩
structure Mg5 (n0 n:Int):Prop where
 fe:n=n0
 flo:0≤n
 fhi:n < 12
def mg21 (G:LLA) (k t f0 a b c:Int) (nm:ByteArray) (rd0:LLA) (n0:Int):LInv:=⟨Int,mgS G k t f0 a b c nm rd0,Mg5 n0,fun n=>0,some [0,1,2,3,4,5,6,7,8,9,10,11]⟩
def mgJ (G:LLA) (f:Bool) (id:Nat) (st:St):Option LInv:=match lk st.heap 3,lk st.heap 4 with
 | some (.cells [.int _ k,.str nm,.int _ t,.int _ f0,.int _ a,.int _ b,.int _ c,.sl _ _ rd0]),_ =>
  cond (Nat.beq id 6) (some (mg6 G f k t f0 a b c nm rd0)) (cond (Nat.beq id 100009) (match lk st.tmps 36,lk st.heap 8 with
   | some (.int _ i),some (.cells cs)=>some (mg9 G f k t f0 a b c nm rd0 i cs)
   | _,_=>none) (cond (Nat.beq id 100019) (some (mg19 G k t f0 a b c nm rd0)) (cond (Nat.beq id 10) (match lk st.tmps 36,lk st.tmps 53 with
   | some (.int _ i),some (.sl _ g rd)=>some (mg10 G rd f g k t f0 a b c nm rd0 i)
   | _,_=>none) (cond (Nat.beq id 100013) (match lk st.tmps 36,lk st.tmps 53,lk st.tmps 55,lk st.heap 10 with
   | some (.int _ i),some (.sl _ g rd),some (.int _ q),some (.cells [_,.int _ v])=>some (mg13 G rd f g k t f0 a b c nm rd0 i q v)
   | _,_,_,_=>none) (cond (Nat.beq id 20) (some (mg20 G k t f0 a b c nm rd0)) (cond (Nat.beq id 100021) (match lk st.tmps 95 with
   | some (.int _ n)=>some (mg21 G k t f0 a b c nm rd0 n)
   | _=>none) none))))))
 | _,_=>none
def itk (r:List AV):Int:=match r with
 | .int _ k::_=>k
 | _=>0
def itn (r:List AV):ByteArray:=match r with
 | _::.str n::_=>n
 | _=>⟨#[]⟩
def gK (G:LLA):Int:=itk (G.headD [])
def gN (G:LLA):ByteArray:=itn (G.headD [])
def gT (G:LLA):Int:=itTm (G.headD [])
def gQ (G:LLA) (j:Nat):Int:=mgI (plF G (itPl (G.headD []))) ((itPl (G.headD [])).getD j 0)
def gR (G:LLA):LLA:=rdN G 12
def gC (G:LLA):LLA:=ctN G 12
theorem mDel_le (l:List (Int × AV)) (n:Int):(mDel l n).length≤l.length:=by
 induction l with
 | nil=>simp [mDel]
 | cons x l ih =>
  obtain ⟨k,y⟩:=x
  simp only [mDel]
  cases decide (k=n) <;> simp <;> omega
theorem vmP_len:∀ P:LLA,(vmP P).length≤P.length :=
 snoc_ind (by simp [vmP]) fun P r ih=>by
  rw [vmP_snoc,List.length_append]
  unfold mPut
  have:=mDel_le (vmP P) (rE r)
  simp; omega
theorem rdsF_len {G:LLA} (h:MgP G):∀ i:Nat,i≤G.length→(rdsF (G.take i)).length≤i*1000
 | 0,_=>by simp [rdsF]
 | i+1,hi=>by
  have ih:=rdsF_len h i (by omega)
  rw [take_snoc (by omega),rdsF_snoc,List.length_append]
  obtain ⟨k,nm,t,f,a,b,c,rd,co,ar,h1,h2⟩:=h.fr i (by omega)
  rw [h1]
  have:=h2.fl
  show (rdsF (G.take i)).length+rd.length≤_
  omega
theorem mgP2_len {G rd:LLA} {i q:Int} (h:MgP G) (m:Mg2 G rd i q):(vmP (mgP2 G rd i q)).length≤140737488355327:=by
 have h1:=vmP_len (mgP2 G rd i q)
 have h2:=rdsF_len h i.toNat (by have:=m.fi; omega)
 have h3:(mgP2 G rd i q).length≤(rdsF (G.take i.toNat)).length+rd.length:=by unfold mgP2; rw [List.length_append,List.length_take]; omega
 obtain ⟨k,nm,t,f,a,b,c,rd2,co,ar,e1,e2⟩:=h.fr i.toNat (by have:=m.fi; omega)
 have h4:rd=rd2:=by rw [m.fr,e1]; rfl
 have h5:=e2.fl
 have h6:=h.fl
 have h7:=m.fi
 subst h4
 have:i.toNat*1000≤900*1000:=Nat.mul_le_mul_right _ (by omega)
 omega
theorem mgP2_snoc {G rd:LLA} {i q e v:Int} (h0:0≤q) (hq:q < rd.length) (he:rd.getD q.toNat []=[.int .i64 e,.int .i64 v]):mgP2 G rd i (q+1)=mgP2 G rd i q++[[.int .i64 e,.int .i64 v]]:=by
 unfold mgP2
 rw [show (q+1).toNat=q.toNat+1 by omega,take_snoc (by omega),he,List.append_assoc]
theorem vm_sn (P:LLA) (e v:Int):vmP (P++[[.int .i64 e,.int .i64 v]])=mPut (vmP P) e (.int .i64 v):=vmP_snoc P _
theorem ct_t {G:LLA} {n:Nat} (h:badC G n=true):ctN G (n+1)=ctN G n++[[.int .i64 (n:Int)]]∧rdN G (n+1)=rdN G n:=by
 simp only [ctN,rdN,h,if_true,List.append_nil]
 exact ⟨trivial,trivial⟩
theorem ct_f {G:LLA} {n:Nat} (h:badC G n=false) (hm:mHas (vmP (rdsF G)) n=false):ctN G (n+1)=ctN G n∧rdN G (n+1)=rdN G n:=by
 rw [vm_has] at hm
 have hm:cvs (rdsF G) n=[]:=by simpa using hm
 simp only [ctN,rdN,h,hm]
 simp
theorem ct_h {G:LLA} {n:Nat} (h:badC G n=false) (hm:mHas (vmP (rdsF G)) n=true):ctN G (n+1)=ctN G n∧rdN G (n+1)=rdN G n++[[.int .i64 (n:Int),.int .i64 (mInt (vmP (rdsF G)) n)]]:=by
 rw [vm_has] at hm
 have hm:¬ cvs (rdsF G) n=[]:=by simpa using hm
 rw [vm_int]
 simp only [ctN,rdN,h,hm]
 simp
def mgd_s (gK:LLA→Int) (gN:LLA→ByteArray) (gT:LLA→Int) (gQ:LLA→Nat→Int) (gR:LLA→LLA) (gC:LLA→LLA):Sp
 | [.sl 10 f G]=>some (MgP G,.agg [.int .i64 (gK G),.str (gN G),.int .i64 (gT G),.int .i64 (gQ G 0),.int .i64 (gQ G 1),.int .i64 (gQ G 2),.int .i64 (gQ G 3),.sl 2 false (gR G),.int .i64 G.length,.sl 1 false (gC G)])
 | _=>none
abbrev u9 (L:LInv) (a b:L.X):Prop:=L.m a < L.m b
abbrev b9 (G rd:LLA) (i q r c:Int):Prop:=bdP (mgP2 G rd i q) c=bdP (mgP2 G rd i r) c
abbrev e9 (b:Bool):Prop:=b=b
abbrev p9 (n:Int) (s:ByteArray) (n1:Int) (b:Bool) (n2 n3 n4 n5:Int) (R:Prop):Prop:=n=n∧s=s∧n1=n1∧mgI b n2=mgI b n2∧mgI b n3=mgI b n3∧mgI b n4=mgI b n4∧mgI b n5=mgI b n5∧R
abbrev z9 (f:Bool) (G:LLA) (x:Int):Prop:=(0:Nat)=0∧(0:Nat)=0∧(0:Nat)=0∧True∧(0:Nat)=0∧((bif f then f=true else True)∧G=G)∧(↑G.length:Int)=(↑G.length:Int)∧x=x∧True
abbrev c9 (xs:LLA) (x2 y:Int) (f:Bool) (G:LLA) (x:Int):Prop:=(True∧xs=xs)∧(↑xs.length:Int)=(↑xs.length:Int)∧x2+(1:Int)=y∧z9 f G x
abbrev B11 (P Q:LLA):Prop:=bdP P (1:Int)=bdP Q (1:Int)∧bdP P (2:Int)=bdP Q (2:Int)∧bdP P (3:Int)=bdP Q (3:Int)∧bdP P (4:Int)=bdP Q (4:Int)∧bdP P (5:Int)=bdP Q (5:Int)∧bdP P (6:Int)=bdP Q (6:Int)∧bdP P (7:Int)=bdP Q (7:Int)∧bdP P (8:Int)=bdP Q (8:Int)∧bdP P (9:Int)=bdP Q (9:Int)∧bdP P (10:Int)=bdP Q (10:Int)∧bdP P (11:Int)=bdP Q (11:Int)∧True
abbrev B11o (Q:LLA):Prop:=false=bdP Q (1:Int)∧false=bdP Q (2:Int)∧false=bdP Q (3:Int)∧false=bdP Q (4:Int)∧false=bdP Q (5:Int)∧false=bdP Q (6:Int)∧false=bdP Q (7:Int)∧false=bdP Q (8:Int)∧false=bdP Q (9:Int)∧false=bdP Q (10:Int)∧false=bdP Q (11:Int)∧True
abbrev ZZ:Prop:=(0:Int)=0∧(⟨#[]⟩:ByteArray)=(⟨#[]⟩:ByteArray)∧(0:Int)=0∧(0:Int)=0∧(0:Int)=0∧(0:Int)=0∧(0:Int)=0∧True∧(0:Int)=0∧True∧True
abbrev H8 (n:Int) (s:ByteArray) (n_1 n_2 n_3 n_4 n_5:Int) (xs:LLA):Prop:=n=n∧s=s∧n_1=n_1∧n_2=n_2∧n_3=n_3∧n_4=n_4∧n_5=n_5∧(True∧xs=xs)∧True
abbrev H9 (n:Int) (s:ByteArray) (n_1 n_2 n_3 n_4 n_5:Int) (G:LLA):Prop:=n=n∧s=s∧n_1=n_1∧n_2=n_2∧n_3=n_3∧n_4=n_4∧n_5=n_5∧True∧(G.length:Int)=(G.length:Int)∧True∧True
def mgd_T (gK:LLA→Int) (gN:LLA→ByteArray) (gT:LLA→Int) (gQ:LLA→Nat→Int) (gR:LLA→LLA) (gC:LLA→LLA):Prop :=
  ∀ (gl:Glob) (G:List (List AV)) (f:Bool),MgP G→True→bif decide ((0:Int)≤(0:Int)∧(0:Int) < (↑G.length:Int)) then ∃ n s n_1 n_2 n_3 n_4 n_5 xs,List.take [AV.int .i64 n,.str s,.int .i64 n_1,.int .i64 n_2,.int .i64 n_3,.int .i64 n_4,.int .i64 n_5,.sl (2:Nat) false xs].length (List.drop (0:Nat) (G.getD (0:Nat) []))=[AV.int .i64 n,.str s,.int .i64 n_1,.int .i64 n_2,.int .i64 n_3,.int .i64 n_4,.int
 .i64 n_5,.sl (2:Nat) false xs]∧(∃ x,Mg1 G x∧((0:Nat)=0∧(0:Nat)=0∧(0:Nat)=0∧True∧(0:Nat)=0∧((bif f then f=true else True)∧G=G)∧(↑G.length:Int)=(↑G.length:Int)∧(0:Int)=x∧True)∧ZZ∧(H8 n s n_1 n_2 n_3 n_4 n_5 xs)∧(H9 n s n_1 n_2 n_3 n_4 n_5 G)∧(false=plF (List.take (Int.toNat x) G) [n_2,n_3,n_4,n_5]∧B11o (rdsF (List.take (Int.toNat x) G)))∧[]=vmP (rdsF (List.take (Int.toNat x) G))∧True)∧∀ (x:Int),Mg1 G
 x→bif decide (x < (↑G.length:Int)) then bif decide ((0:Int)≤x∧x < (↑G.length:Int)) then ∃ n_6 s_1 n_7 n_8 n_9 n_10 n_11 xs_1 n_12 n_13,List.take [AV.int .i64 n_6,.str s_1,.int .i64 n_7,.int .i64 n_8,.int .i64 n_9,.int .i64 n_10,.int .i64 n_11,.sl (2:Nat) false xs_1,.int .i64 n_12,.int .i64 n_13].length (G.getD x.toNat [])=[AV.int .i64 n_6,.str s_1,.int .i64 n_7,.int .i64 n_8,.int .i64 n_9,.int .i64
 n_10,.int .i64 n_11,.sl (2:Nat) false xs_1,.int .i64 n_12,.int .i64 n_13]∧(bif plF (List.take x.toNat G) [n_2,n_3,n_4,n_5] then ∃ x_1,OneM x_1∧((0:Nat)=0∧z9 f G x)∧(n_6=n_6∧s_1=s_1∧n_7=n_7∧n_8=n_8∧n_9=n_9∧n_10=n_10∧n_11=n_11∧(True∧xs_1=xs_1)∧n_12=n_12∧n_13=n_13∧True)∧ZZ∧(H8 n s n_1 n_2 n_3 n_4 n_5 xs)∧(H9 n s n_1 n_2 n_3 n_4 n_5 G)∧(true=plF (List.take (x.toNat+(1:Nat)) G) [n_2,n_3,n_4,n_5]∧B11
 (rdsF (List.take x.toNat G)) (rdsF (List.take x.toNat G)))∧vmP (rdsF (List.take x.toNat G))=vmP (rdsF (List.take x.toNat G))∧True else ∃ x_1,OneM x_1∧((0:Nat)=0∧z9 f G x)∧(n_6=n_6∧s_1=s_1∧n_7=n_7∧n_8=n_8∧n_9=n_9∧n_10=n_10∧n_11=n_11∧(True∧xs_1=xs_1)∧n_12=n_12∧n_13=n_13∧True)∧ZZ∧(H8 n s n_1 n_2 n_3 n_4 n_5 xs)∧(H9 n s n_1 n_2 n_3 n_4 n_5 G)∧((!(decide (n_8=n_2)&&(decide (n_9=n_3)&&(decide
 (n_10=n_4)&&(decide (n_11=n_5)&&true)))))=plF (List.take (x.toNat+(1:Nat)) G) [n_2,n_3,n_4,n_5]∧B11 (rdsF (List.take x.toNat G)) (rdsF (List.take x.toNat G)))∧vmP (rdsF (List.take x.toNat G))=vmP (rdsF (List.take x.toNat G))∧True)∧∀ (x_1:PUnit),OneM x_1→(∃ x_2,Mg2 G xs_1 x x_2∧((True∧xs_1=xs_1)∧(↑xs_1.length:Int)=(↑xs_1.length:Int)∧(0:Int)=x_2∧z9 f G x)∧ZZ∧(H8 n s n_1 n_2 n_3 n_4 n_5 xs)∧(H9
 n s n_1 n_2 n_3 n_4 n_5 G)∧(e9 (plF (List.take (x.toNat+(1:Nat)) G) [n_2,n_3,n_4,n_5])∧B11 (rdsF (List.take x.toNat G)) (mgP2 G xs_1 x x_2))∧vmP (rdsF (List.take x.toNat G))=vmP (mgP2 G xs_1 x x_2)∧True)∧∀ (x_2:Int),Mg2 G xs_1 x x_2→bif decide (x_2 < (↑xs_1.length:Int)) then bif decide ((0:Int)≤x_2∧x_2 < (↑xs_1.length:Int)) then ∃ n_14 n_15,List.take [AV.int .i64 n_14,.int .i64 n_15].length
 (xs_1.getD x_2.toNat [])=[AV.int .i64 n_14,.int .i64 n_15]∧(∃ x_3,Mg3 G xs_1 x x_2 n_15 x_3∧((0:Nat)=0∧mInt (vmP (mgP2 G xs_1 x x_2)) n_14=mInt (vmP (mgP2 G xs_1 x x_2)) x_3∧mHas (vmP (mgP2 G xs_1 x x_2)) n_14=mHas (vmP (mgP2 G xs_1 x x_2)) x_3∧(True∧xs_1=xs_1)∧(↑xs_1.length:Int)=(↑xs_1.length:Int)∧x_2=x_2∧z9 f G x)∧(n_14=x_3∧n_15=n_15∧True)∧ZZ∧(H8 n s n_1 n_2 n_3 n_4 n_5 xs)∧(H9 n s n_1 n_2 n_3
 n_4 n_5 G)∧(e9 (plF (List.take (x.toNat+(1:Nat)) G) [n_2,n_3,n_4,n_5])∧B11 (mgP2 G xs_1 x x_2) (mgP2 G xs_1 x x_2))∧vmP (mgP2 G xs_1 x x_2)=vmP (mgP2 G xs_1 x x_2)∧True)∧(∀ (x_3:Int),Mg3 G xs_1 x x_2 n_15 x_3→x_3=(1:Int)∨x_3=(2:Int)∨x_3=(3:Int)∨x_3=(4:Int)∨x_3=(5:Int)∨x_3=(6:Int)∨x_3=(7:Int)∨x_3=(8:Int)∨x_3=(9:Int)∨x_3=(10:Int)∨x_3=(11:Int)∨False)∧(Mg3 G xs_1 x x_2 n_15
 (1:Int)→bif bdP (mgP2 G xs_1 x x_2) (1:Int) then bif decide ((vmP (mgP2 G xs_1 x x_2)).length≤(140737488355327:Nat)) then bif decide (rng .i64 (x_2+(1:Int))) then ∃ y,Mg2 G xs_1 x y∧u9 (mg10 G xs_1 f false n n_1 n_2 n_3 n_4 n_5 s xs x) y x_2∧(c9 xs_1 x_2 y f G x)∧ZZ∧(H8 n s n_1 n_2 n_3 n_4 n_5 xs)∧(H9 n s n_1 n_2 n_3 n_4 n_5 G)∧(e9 (plF (List.take (x.toNat+(1:Nat)) G) [n_2,n_3,n_4,n_5])∧true=bdP
 (mgP2 G xs_1 x y) (1:Int)∧b9 G xs_1 x x_2 y 2∧b9 G xs_1 x x_2 y 3∧b9 G xs_1 x x_2 y 4∧b9 G xs_1 x x_2 y 5∧b9 G xs_1 x x_2 y 6∧b9 G xs_1 x x_2 y 7∧b9 G xs_1 x x_2 y 8∧b9 G xs_1 x x_2 y 9∧b9 G xs_1 x x_2 y 10∧b9 G xs_1 x x_2 y 11∧True)∧mPut (vmP (mgP2 G xs_1 x x_2)) (1:Int) (AV.int .i64 n_15)=vmP (mgP2 G xs_1 x y)∧True else False else False else bif mHas (vmP (mgP2 G xs_1 x x_2)) (1:Int) then bif
 decide ((vmP (mgP2 G xs_1 x x_2)).length≤(140737488355327:Nat)) then bif decide (rng .i64 (x_2+(1:Int))) then ∃ y,Mg2 G xs_1 x y∧u9 (mg10 G xs_1 f false n n_1 n_2 n_3 n_4 n_5 s xs x) y x_2∧(c9 xs_1 x_2 y f G x)∧ZZ∧(H8 n s n_1 n_2 n_3 n_4 n_5 xs)∧(H9 n s n_1 n_2 n_3 n_4 n_5 G)∧(e9 (plF (List.take (x.toNat+(1:Nat)) G) [n_2,n_3,n_4,n_5])∧(decide ¬mInt (vmP (mgP2 G xs_1 x x_2)) (1:Int)=n_15)=bdP (mgP2
 G xs_1 x y) (1:Int)∧b9 G xs_1 x x_2 y 2∧b9 G xs_1 x x_2 y 3∧b9 G xs_1 x x_2 y 4∧b9 G xs_1 x x_2 y 5∧b9 G xs_1 x x_2 y 6∧b9 G xs_1 x x_2 y 7∧b9 G xs_1 x x_2 y 8∧b9 G xs_1 x x_2 y 9∧b9 G xs_1 x x_2 y 10∧b9 G xs_1 x x_2 y 11∧True)∧mPut (vmP (mgP2 G xs_1 x x_2)) (1:Int) (AV.int .i64 n_15)=vmP (mgP2 G xs_1 x y)∧True else False else False else bif decide ((vmP (mgP2 G xs_1 x
 x_2)).length≤(140737488355327:Nat)) then bif decide (rng .i64 (x_2+(1:Int))) then ∃ y,Mg2 G xs_1 x y∧u9 (mg10 G xs_1 f false n n_1 n_2 n_3 n_4 n_5 s xs x) y x_2∧(c9 xs_1 x_2 y f G x)∧ZZ∧(H8 n s n_1 n_2 n_3 n_4 n_5 xs)∧(H9 n s n_1 n_2 n_3 n_4 n_5 G)∧(e9 (plF (List.take (x.toNat+(1:Nat)) G) [n_2,n_3,n_4,n_5])∧false=bdP (mgP2 G xs_1 x y) (1:Int)∧b9 G xs_1 x x_2 y 2∧b9 G xs_1 x x_2 y 3∧b9 G xs_1 x x_2
 y 4∧b9 G xs_1 x x_2 y 5∧b9 G xs_1 x x_2 y 6∧b9 G xs_1 x x_2 y 7∧b9 G xs_1 x x_2 y 8∧b9 G xs_1 x x_2 y 9∧b9 G xs_1 x x_2 y 10∧b9 G xs_1 x x_2 y 11∧True)∧mPut (vmP (mgP2 G xs_1 x x_2)) (1:Int) (AV.int .i64 n_15)=vmP (mgP2 G xs_1 x y)∧True else False else False)∧(Mg3 G xs_1 x x_2 n_15 (2:Int)→bif bdP (mgP2 G xs_1 x x_2) (2:Int) then bif decide ((vmP (mgP2 G xs_1 x x_2)).length≤(140737488355327:Nat))
 then bif decide (rng .i64 (x_2+(1:Int))) then ∃ y,Mg2 G xs_1 x y∧u9 (mg10 G xs_1 f false n n_1 n_2 n_3 n_4 n_5 s xs x) y x_2∧(c9 xs_1 x_2 y f G x)∧ZZ∧(H8 n s n_1 n_2 n_3 n_4 n_5 xs)∧(H9 n s n_1 n_2 n_3 n_4 n_5 G)∧(e9 (plF (List.take (x.toNat+(1:Nat)) G) [n_2,n_3,n_4,n_5])∧b9 G xs_1 x x_2 y 1∧true=bdP (mgP2 G xs_1 x y) (2:Int)∧b9 G xs_1 x x_2 y 3∧b9 G xs_1 x x_2 y 4∧b9 G xs_1 x x_2 y 5∧b9 G xs_1 x
 x_2 y 6∧b9 G xs_1 x x_2 y 7∧b9 G xs_1 x x_2 y 8∧b9 G xs_1 x x_2 y 9∧b9 G xs_1 x x_2 y 10∧b9 G xs_1 x x_2 y 11∧True)∧mPut (vmP (mgP2 G xs_1 x x_2)) (2:Int) (AV.int .i64 n_15)=vmP (mgP2 G xs_1 x y)∧True else False else False else bif mHas (vmP (mgP2 G xs_1 x x_2)) (2:Int) then bif decide ((vmP (mgP2 G xs_1 x x_2)).length≤(140737488355327:Nat)) then bif decide (rng .i64 (x_2+(1:Int))) then ∃ y,Mg2 G
 xs_1 x y∧u9 (mg10 G xs_1 f false n n_1 n_2 n_3 n_4 n_5 s xs x) y x_2∧(c9 xs_1 x_2 y f G x)∧ZZ∧(H8 n s n_1 n_2 n_3 n_4 n_5 xs)∧(H9 n s n_1 n_2 n_3 n_4 n_5 G)∧(e9 (plF (List.take (x.toNat+(1:Nat)) G) [n_2,n_3,n_4,n_5])∧b9 G xs_1 x x_2 y 1∧(decide ¬mInt (vmP (mgP2 G xs_1 x x_2)) (2:Int)=n_15)=bdP (mgP2 G xs_1 x y) (2:Int)∧b9 G xs_1 x x_2 y 3∧b9 G xs_1 x x_2 y 4∧b9 G xs_1 x x_2 y 5∧b9 G xs_1 x x_2 y
 6∧b9 G xs_1 x x_2 y 7∧b9 G xs_1 x x_2 y 8∧b9 G xs_1 x x_2 y 9∧b9 G xs_1 x x_2 y 10∧b9 G xs_1 x x_2 y 11∧True)∧mPut (vmP (mgP2 G xs_1 x x_2)) (2:Int) (AV.int .i64 n_15)=vmP (mgP2 G xs_1 x y)∧True else False else False else bif decide ((vmP (mgP2 G xs_1 x x_2)).length≤(140737488355327:Nat)) then bif decide (rng .i64 (x_2+(1:Int))) then ∃ y,Mg2 G xs_1 x y∧u9 (mg10 G xs_1 f false n n_1 n_2 n_3 n_4 n_5
 s xs x) y x_2∧(c9 xs_1 x_2 y f G x)∧ZZ∧(H8 n s n_1 n_2 n_3 n_4 n_5 xs)∧(H9 n s n_1 n_2 n_3 n_4 n_5 G)∧(e9 (plF (List.take (x.toNat+(1:Nat)) G) [n_2,n_3,n_4,n_5])∧b9 G xs_1 x x_2 y 1∧false=bdP (mgP2 G xs_1 x y) (2:Int)∧b9 G xs_1 x x_2 y 3∧b9 G xs_1 x x_2 y 4∧b9 G xs_1 x x_2 y 5∧b9 G xs_1 x x_2 y 6∧b9 G xs_1 x x_2 y 7∧b9 G xs_1 x x_2 y 8∧b9 G xs_1 x x_2 y 9∧b9 G xs_1 x x_2 y 10∧b9 G xs_1 x x_2 y
 11∧True)∧mPut (vmP (mgP2 G xs_1 x x_2)) (2:Int) (AV.int .i64 n_15)=vmP (mgP2 G xs_1 x y)∧True else False else False)∧(Mg3 G xs_1 x x_2 n_15 (3:Int)→bif bdP (mgP2 G xs_1 x x_2) (3:Int) then bif decide ((vmP (mgP2 G xs_1 x x_2)).length≤(140737488355327:Nat)) then bif decide (rng .i64 (x_2+(1:Int))) then ∃ y,Mg2 G xs_1 x y∧u9 (mg10 G xs_1 f false n n_1 n_2 n_3 n_4 n_5 s xs x) y x_2∧(c9 xs_1 x_2 y f G
 x)∧ZZ∧(H8 n s n_1 n_2 n_3 n_4 n_5 xs)∧(H9 n s n_1 n_2 n_3 n_4 n_5 G)∧(e9 (plF (List.take (x.toNat+(1:Nat)) G) [n_2,n_3,n_4,n_5])∧b9 G xs_1 x x_2 y 1∧b9 G xs_1 x x_2 y 2∧true=bdP (mgP2 G xs_1 x y) (3:Int)∧b9 G xs_1 x x_2 y 4∧b9 G xs_1 x x_2 y 5∧b9 G xs_1 x x_2 y 6∧b9 G xs_1 x x_2 y 7∧b9 G xs_1 x x_2 y 8∧b9 G xs_1 x x_2 y 9∧b9 G xs_1 x x_2 y 10∧b9 G xs_1 x x_2 y 11∧True)∧mPut (vmP (mgP2 G xs_1 x
 x_2)) (3:Int) (AV.int .i64 n_15)=vmP (mgP2 G xs_1 x y)∧True else False else False else bif mHas (vmP (mgP2 G xs_1 x x_2)) (3:Int) then bif decide ((vmP (mgP2 G xs_1 x x_2)).length≤(140737488355327:Nat)) then bif decide (rng .i64 (x_2+(1:Int))) then ∃ y,Mg2 G xs_1 x y∧u9 (mg10 G xs_1 f false n n_1 n_2 n_3 n_4 n_5 s xs x) y x_2∧(c9 xs_1 x_2 y f G x)∧ZZ∧(H8 n s n_1 n_2 n_3 n_4 n_5 xs)∧(H9 n s n_1 n_2
 n_3 n_4 n_5 G)∧(e9 (plF (List.take (x.toNat+(1:Nat)) G) [n_2,n_3,n_4,n_5])∧b9 G xs_1 x x_2 y 1∧b9 G xs_1 x x_2 y 2∧(decide ¬mInt (vmP (mgP2 G xs_1 x x_2)) (3:Int)=n_15)=bdP (mgP2 G xs_1 x y) (3:Int)∧b9 G xs_1 x x_2 y 4∧b9 G xs_1 x x_2 y 5∧b9 G xs_1 x x_2 y 6∧b9 G xs_1 x x_2 y 7∧b9 G xs_1 x x_2 y 8∧b9 G xs_1 x x_2 y 9∧b9 G xs_1 x x_2 y 10∧b9 G xs_1 x x_2 y 11∧True)∧mPut (vmP (mgP2 G xs_1 x x_2))
 (3:Int) (AV.int .i64 n_15)=vmP (mgP2 G xs_1 x y)∧True else False else False else bif decide ((vmP (mgP2 G xs_1 x x_2)).length≤(140737488355327:Nat)) then bif decide (rng .i64 (x_2+(1:Int))) then ∃ y,Mg2 G xs_1 x y∧u9 (mg10 G xs_1 f false n n_1 n_2 n_3 n_4 n_5 s xs x) y x_2∧(c9 xs_1 x_2 y f G x)∧ZZ∧(H8 n s n_1 n_2 n_3 n_4 n_5 xs)∧(H9 n s n_1 n_2 n_3 n_4 n_5 G)∧(e9 (plF (List.take (x.toNat+(1:Nat))
 G) [n_2,n_3,n_4,n_5])∧b9 G xs_1 x x_2 y 1∧b9 G xs_1 x x_2 y 2∧false=bdP (mgP2 G xs_1 x y) (3:Int)∧b9 G xs_1 x x_2 y 4∧b9 G xs_1 x x_2 y 5∧b9 G xs_1 x x_2 y 6∧b9 G xs_1 x x_2 y 7∧b9 G xs_1 x x_2 y 8∧b9 G xs_1 x x_2 y 9∧b9 G xs_1 x x_2 y 10∧b9 G xs_1 x x_2 y 11∧True)∧mPut (vmP (mgP2 G xs_1 x x_2)) (3:Int) (AV.int .i64 n_15)=vmP (mgP2 G xs_1 x y)∧True else False else False)∧(Mg3 G xs_1 x x_2 n_15
 (4:Int)→bif bdP (mgP2 G xs_1 x x_2) (4:Int) then bif decide ((vmP (mgP2 G xs_1 x x_2)).length≤(140737488355327:Nat)) then bif decide (rng .i64 (x_2+(1:Int))) then ∃ y,Mg2 G xs_1 x y∧u9 (mg10 G xs_1 f false n n_1 n_2 n_3 n_4 n_5 s xs x) y x_2∧(c9 xs_1 x_2 y f G x)∧ZZ∧(H8 n s n_1 n_2 n_3 n_4 n_5 xs)∧(H9 n s n_1 n_2 n_3 n_4 n_5 G)∧(e9 (plF (List.take (x.toNat+(1:Nat)) G) [n_2,n_3,n_4,n_5])∧b9 G xs_1 x
 x_2 y 1∧b9 G xs_1 x x_2 y 2∧b9 G xs_1 x x_2 y 3∧true=bdP (mgP2 G xs_1 x y) (4:Int)∧b9 G xs_1 x x_2 y 5∧b9 G xs_1 x x_2 y 6∧b9 G xs_1 x x_2 y 7∧b9 G xs_1 x x_2 y 8∧b9 G xs_1 x x_2 y 9∧b9 G xs_1 x x_2 y 10∧b9 G xs_1 x x_2 y 11∧True)∧mPut (vmP (mgP2 G xs_1 x x_2)) (4:Int) (AV.int .i64 n_15)=vmP (mgP2 G xs_1 x y)∧True else False else False else bif mHas (vmP (mgP2 G xs_1 x x_2)) (4:Int) then bif decide
 ((vmP (mgP2 G xs_1 x x_2)).length≤(140737488355327:Nat)) then bif decide (rng .i64 (x_2+(1:Int))) then ∃ y,Mg2 G xs_1 x y∧u9 (mg10 G xs_1 f false n n_1 n_2 n_3 n_4 n_5 s xs x) y x_2∧(c9 xs_1 x_2 y f G x)∧ZZ∧(H8 n s n_1 n_2 n_3 n_4 n_5 xs)∧(H9 n s n_1 n_2 n_3 n_4 n_5 G)∧(e9 (plF (List.take (x.toNat+(1:Nat)) G) [n_2,n_3,n_4,n_5])∧b9 G xs_1 x x_2 y 1∧b9 G xs_1 x x_2 y 2∧b9 G xs_1 x x_2 y 3∧(decide
 ¬mInt (vmP (mgP2 G xs_1 x x_2)) (4:Int)=n_15)=bdP (mgP2 G xs_1 x y) (4:Int)∧b9 G xs_1 x x_2 y 5∧b9 G xs_1 x x_2 y 6∧b9 G xs_1 x x_2 y 7∧b9 G xs_1 x x_2 y 8∧b9 G xs_1 x x_2 y 9∧b9 G xs_1 x x_2 y 10∧b9 G xs_1 x x_2 y 11∧True)∧mPut (vmP (mgP2 G xs_1 x x_2)) (4:Int) (AV.int .i64 n_15)=vmP (mgP2 G xs_1 x y)∧True else False else False else bif decide ((vmP (mgP2 G xs_1 x
 x_2)).length≤(140737488355327:Nat)) then bif decide (rng .i64 (x_2+(1:Int))) then ∃ y,Mg2 G xs_1 x y∧u9 (mg10 G xs_1 f false n n_1 n_2 n_3 n_4 n_5 s xs x) y x_2∧(c9 xs_1 x_2 y f G x)∧ZZ∧(H8 n s n_1 n_2 n_3 n_4 n_5 xs)∧(H9 n s n_1 n_2 n_3 n_4 n_5 G)∧(e9 (plF (List.take (x.toNat+(1:Nat)) G) [n_2,n_3,n_4,n_5])∧b9 G xs_1 x x_2 y 1∧b9 G xs_1 x x_2 y 2∧b9 G xs_1 x x_2 y 3∧false=bdP (mgP2 G xs_1 x y)
 (4:Int)∧b9 G xs_1 x x_2 y 5∧b9 G xs_1 x x_2 y 6∧b9 G xs_1 x x_2 y 7∧b9 G xs_1 x x_2 y 8∧b9 G xs_1 x x_2 y 9∧b9 G xs_1 x x_2 y 10∧b9 G xs_1 x x_2 y 11∧True)∧mPut (vmP (mgP2 G xs_1 x x_2)) (4:Int) (AV.int .i64 n_15)=vmP (mgP2 G xs_1 x y)∧True else False else False)∧(Mg3 G xs_1 x x_2 n_15 (5:Int)→bif bdP (mgP2 G xs_1 x x_2) (5:Int) then bif decide ((vmP (mgP2 G xs_1 x
 x_2)).length≤(140737488355327:Nat)) then bif decide (rng .i64 (x_2+(1:Int))) then ∃ y,Mg2 G xs_1 x y∧u9 (mg10 G xs_1 f false n n_1 n_2 n_3 n_4 n_5 s xs x) y x_2∧(c9 xs_1 x_2 y f G x)∧ZZ∧(H8 n s n_1 n_2 n_3 n_4 n_5 xs)∧(H9 n s n_1 n_2 n_3 n_4 n_5 G)∧(e9 (plF (List.take (x.toNat+(1:Nat)) G) [n_2,n_3,n_4,n_5])∧b9 G xs_1 x x_2 y 1∧b9 G xs_1 x x_2 y 2∧b9 G xs_1 x x_2 y 3∧b9 G xs_1 x x_2 y 4∧true=bdP
 (mgP2 G xs_1 x y) (5:Int)∧b9 G xs_1 x x_2 y 6∧b9 G xs_1 x x_2 y 7∧b9 G xs_1 x x_2 y 8∧b9 G xs_1 x x_2 y 9∧b9 G xs_1 x x_2 y 10∧b9 G xs_1 x x_2 y 11∧True)∧mPut (vmP (mgP2 G xs_1 x x_2)) (5:Int) (AV.int .i64 n_15)=vmP (mgP2 G xs_1 x y)∧True else False else False else bif mHas (vmP (mgP2 G xs_1 x x_2)) (5:Int) then bif decide ((vmP (mgP2 G xs_1 x x_2)).length≤(140737488355327:Nat)) then bif decide
 (rng .i64 (x_2+(1:Int))) then ∃ y,Mg2 G xs_1 x y∧u9 (mg10 G xs_1 f false n n_1 n_2 n_3 n_4 n_5 s xs x) y x_2∧(c9 xs_1 x_2 y f G x)∧ZZ∧(H8 n s n_1 n_2 n_3 n_4 n_5 xs)∧(H9 n s n_1 n_2 n_3 n_4 n_5 G)∧(e9 (plF (List.take (x.toNat+(1:Nat)) G) [n_2,n_3,n_4,n_5])∧b9 G xs_1 x x_2 y 1∧b9 G xs_1 x x_2 y 2∧b9 G xs_1 x x_2 y 3∧b9 G xs_1 x x_2 y 4∧(decide ¬mInt (vmP (mgP2 G xs_1 x x_2)) (5:Int)=n_15)=bdP (mgP2
 G xs_1 x y) (5:Int)∧b9 G xs_1 x x_2 y 6∧b9 G xs_1 x x_2 y 7∧b9 G xs_1 x x_2 y 8∧b9 G xs_1 x x_2 y 9∧b9 G xs_1 x x_2 y 10∧b9 G xs_1 x x_2 y 11∧True)∧mPut (vmP (mgP2 G xs_1 x x_2)) (5:Int) (AV.int .i64 n_15)=vmP (mgP2 G xs_1 x y)∧True else False else False else bif decide ((vmP (mgP2 G xs_1 x x_2)).length≤(140737488355327:Nat)) then bif decide (rng .i64 (x_2+(1:Int))) then ∃ y,Mg2 G xs_1 x y∧u9 (mg10
 G xs_1 f false n n_1 n_2 n_3 n_4 n_5 s xs x) y x_2∧(c9 xs_1 x_2 y f G x)∧ZZ∧(H8 n s n_1 n_2 n_3 n_4 n_5 xs)∧(H9 n s n_1 n_2 n_3 n_4 n_5 G)∧(e9 (plF (List.take (x.toNat+(1:Nat)) G) [n_2,n_3,n_4,n_5])∧b9 G xs_1 x x_2 y 1∧b9 G xs_1 x x_2 y 2∧b9 G xs_1 x x_2 y 3∧b9 G xs_1 x x_2 y 4∧false=bdP (mgP2 G xs_1 x y) (5:Int)∧b9 G xs_1 x x_2 y 6∧b9 G xs_1 x x_2 y 7∧b9 G xs_1 x x_2 y 8∧b9 G xs_1 x x_2 y 9∧b9 G
 xs_1 x x_2 y 10∧b9 G xs_1 x x_2 y 11∧True)∧mPut (vmP (mgP2 G xs_1 x x_2)) (5:Int) (AV.int .i64 n_15)=vmP (mgP2 G xs_1 x y)∧True else False else False)∧(Mg3 G xs_1 x x_2 n_15 (6:Int)→bif bdP (mgP2 G xs_1 x x_2) (6:Int) then bif decide ((vmP (mgP2 G xs_1 x x_2)).length≤(140737488355327:Nat)) then bif decide (rng .i64 (x_2+(1:Int))) then ∃ y,Mg2 G xs_1 x y∧u9 (mg10 G xs_1 f false n n_1 n_2 n_3 n_4 n_5
 s xs x) y x_2∧(c9 xs_1 x_2 y f G x)∧ZZ∧(H8 n s n_1 n_2 n_3 n_4 n_5 xs)∧(H9 n s n_1 n_2 n_3 n_4 n_5 G)∧(e9 (plF (List.take (x.toNat+(1:Nat)) G) [n_2,n_3,n_4,n_5])∧b9 G xs_1 x x_2 y 1∧b9 G xs_1 x x_2 y 2∧b9 G xs_1 x x_2 y 3∧b9 G xs_1 x x_2 y 4∧b9 G xs_1 x x_2 y 5∧true=bdP (mgP2 G xs_1 x y) (6:Int)∧b9 G xs_1 x x_2 y 7∧b9 G xs_1 x x_2 y 8∧b9 G xs_1 x x_2 y 9∧b9 G xs_1 x x_2 y 10∧b9 G xs_1 x x_2 y
 11∧True)∧mPut (vmP (mgP2 G xs_1 x x_2)) (6:Int) (AV.int .i64 n_15)=vmP (mgP2 G xs_1 x y)∧True else False else False else bif mHas (vmP (mgP2 G xs_1 x x_2)) (6:Int) then bif decide ((vmP (mgP2 G xs_1 x x_2)).length≤(140737488355327:Nat)) then bif decide (rng .i64 (x_2+(1:Int))) then ∃ y,Mg2 G xs_1 x y∧u9 (mg10 G xs_1 f false n n_1 n_2 n_3 n_4 n_5 s xs x) y x_2∧(c9 xs_1 x_2 y f G x)∧ZZ∧(H8 n s n_1
 n_2 n_3 n_4 n_5 xs)∧(H9 n s n_1 n_2 n_3 n_4 n_5 G)∧(e9 (plF (List.take (x.toNat+(1:Nat)) G) [n_2,n_3,n_4,n_5])∧b9 G xs_1 x x_2 y 1∧b9 G xs_1 x x_2 y 2∧b9 G xs_1 x x_2 y 3∧b9 G xs_1 x x_2 y 4∧b9 G xs_1 x x_2 y 5∧(decide ¬mInt (vmP (mgP2 G xs_1 x x_2)) (6:Int)=n_15)=bdP (mgP2 G xs_1 x y) (6:Int)∧b9 G xs_1 x x_2 y 7∧b9 G xs_1 x x_2 y 8∧b9 G xs_1 x x_2 y 9∧b9 G xs_1 x x_2 y 10∧b9 G xs_1 x x_2 y
 11∧True)∧mPut (vmP (mgP2 G xs_1 x x_2)) (6:Int) (AV.int .i64 n_15)=vmP (mgP2 G xs_1 x y)∧True else False else False else bif decide ((vmP (mgP2 G xs_1 x x_2)).length≤(140737488355327:Nat)) then bif decide (rng .i64 (x_2+(1:Int))) then ∃ y,Mg2 G xs_1 x y∧u9 (mg10 G xs_1 f false n n_1 n_2 n_3 n_4 n_5 s xs x) y x_2∧(c9 xs_1 x_2 y f G x)∧ZZ∧(H8 n s n_1 n_2 n_3 n_4 n_5 xs)∧(H9 n s n_1 n_2 n_3 n_4 n_5
 G)∧(e9 (plF (List.take (x.toNat+(1:Nat)) G) [n_2,n_3,n_4,n_5])∧b9 G xs_1 x x_2 y 1∧b9 G xs_1 x x_2 y 2∧b9 G xs_1 x x_2 y 3∧b9 G xs_1 x x_2 y 4∧b9 G xs_1 x x_2 y 5∧false=bdP (mgP2 G xs_1 x y) (6:Int)∧b9 G xs_1 x x_2 y 7∧b9 G xs_1 x x_2 y 8∧b9 G xs_1 x x_2 y 9∧b9 G xs_1 x x_2 y 10∧b9 G xs_1 x x_2 y 11∧True)∧mPut (vmP (mgP2 G xs_1 x x_2)) (6:Int) (AV.int .i64 n_15)=vmP (mgP2 G xs_1 x y)∧True else
 False else False)∧(Mg3 G xs_1 x x_2 n_15 (7:Int)→bif bdP (mgP2 G xs_1 x x_2) (7:Int) then bif decide ((vmP (mgP2 G xs_1 x x_2)).length≤(140737488355327:Nat)) then bif decide (rng .i64 (x_2+(1:Int))) then ∃ y,Mg2 G xs_1 x y∧u9 (mg10 G xs_1 f false n n_1 n_2 n_3 n_4 n_5 s xs x) y x_2∧(c9 xs_1 x_2 y f G x)∧ZZ∧(H8 n s n_1 n_2 n_3 n_4 n_5 xs)∧(H9 n s n_1 n_2 n_3 n_4 n_5 G)∧(e9 (plF (List.take
 (x.toNat+(1:Nat)) G) [n_2,n_3,n_4,n_5])∧b9 G xs_1 x x_2 y 1∧b9 G xs_1 x x_2 y 2∧b9 G xs_1 x x_2 y 3∧b9 G xs_1 x x_2 y 4∧b9 G xs_1 x x_2 y 5∧b9 G xs_1 x x_2 y 6∧true=bdP (mgP2 G xs_1 x y) (7:Int)∧b9 G xs_1 x x_2 y 8∧b9 G xs_1 x x_2 y 9∧b9 G xs_1 x x_2 y 10∧b9 G xs_1 x x_2 y 11∧True)∧mPut (vmP (mgP2 G xs_1 x x_2)) (7:Int) (AV.int .i64 n_15)=vmP (mgP2 G xs_1 x y)∧True else False else False else bif
 mHas (vmP (mgP2 G xs_1 x x_2)) (7:Int) then bif decide ((vmP (mgP2 G xs_1 x x_2)).length≤(140737488355327:Nat)) then bif decide (rng .i64 (x_2+(1:Int))) then ∃ y,Mg2 G xs_1 x y∧u9 (mg10 G xs_1 f false n n_1 n_2 n_3 n_4 n_5 s xs x) y x_2∧(c9 xs_1 x_2 y f G x)∧ZZ∧(H8 n s n_1 n_2 n_3 n_4 n_5 xs)∧(H9 n s n_1 n_2 n_3 n_4 n_5 G)∧(e9 (plF (List.take (x.toNat+(1:Nat)) G) [n_2,n_3,n_4,n_5])∧b9 G xs_1 x x_2
 y 1∧b9 G xs_1 x x_2 y 2∧b9 G xs_1 x x_2 y 3∧b9 G xs_1 x x_2 y 4∧b9 G xs_1 x x_2 y 5∧b9 G xs_1 x x_2 y 6∧(decide ¬mInt (vmP (mgP2 G xs_1 x x_2)) (7:Int)=n_15)=bdP (mgP2 G xs_1 x y) (7:Int)∧b9 G xs_1 x x_2 y 8∧b9 G xs_1 x x_2 y 9∧b9 G xs_1 x x_2 y 10∧b9 G xs_1 x x_2 y 11∧True)∧mPut (vmP (mgP2 G xs_1 x x_2)) (7:Int) (AV.int .i64 n_15)=vmP (mgP2 G xs_1 x y)∧True else False else False else bif decide
 ((vmP (mgP2 G xs_1 x x_2)).length≤(140737488355327:Nat)) then bif decide (rng .i64 (x_2+(1:Int))) then ∃ y,Mg2 G xs_1 x y∧u9 (mg10 G xs_1 f false n n_1 n_2 n_3 n_4 n_5 s xs x) y x_2∧(c9 xs_1 x_2 y f G x)∧ZZ∧(H8 n s n_1 n_2 n_3 n_4 n_5 xs)∧(H9 n s n_1 n_2 n_3 n_4 n_5 G)∧(e9 (plF (List.take (x.toNat+(1:Nat)) G) [n_2,n_3,n_4,n_5])∧b9 G xs_1 x x_2 y 1∧b9 G xs_1 x x_2 y 2∧b9 G xs_1 x x_2 y 3∧b9 G xs_1 x
 x_2 y 4∧b9 G xs_1 x x_2 y 5∧b9 G xs_1 x x_2 y 6∧false=bdP (mgP2 G xs_1 x y) (7:Int)∧b9 G xs_1 x x_2 y 8∧b9 G xs_1 x x_2 y 9∧b9 G xs_1 x x_2 y 10∧b9 G xs_1 x x_2 y 11∧True)∧mPut (vmP (mgP2 G xs_1 x x_2)) (7:Int) (AV.int .i64 n_15)=vmP (mgP2 G xs_1 x y)∧True else False else False)∧(Mg3 G xs_1 x x_2 n_15 (8:Int)→bif bdP (mgP2 G xs_1 x x_2) (8:Int) then bif decide ((vmP (mgP2 G xs_1 x
 x_2)).length≤(140737488355327:Nat)) then bif decide (rng .i64 (x_2+(1:Int))) then ∃ y,Mg2 G xs_1 x y∧u9 (mg10 G xs_1 f false n n_1 n_2 n_3 n_4 n_5 s xs x) y x_2∧(c9 xs_1 x_2 y f G x)∧ZZ∧(H8 n s n_1 n_2 n_3 n_4 n_5 xs)∧(H9 n s n_1 n_2 n_3 n_4 n_5 G)∧(e9 (plF (List.take (x.toNat+(1:Nat)) G) [n_2,n_3,n_4,n_5])∧b9 G xs_1 x x_2 y 1∧b9 G xs_1 x x_2 y 2∧b9 G xs_1 x x_2 y 3∧b9 G xs_1 x x_2 y 4∧b9 G xs_1 x
 x_2 y 5∧b9 G xs_1 x x_2 y 6∧b9 G xs_1 x x_2 y 7∧true=bdP (mgP2 G xs_1 x y) (8:Int)∧b9 G xs_1 x x_2 y 9∧b9 G xs_1 x x_2 y 10∧b9 G xs_1 x x_2 y 11∧True)∧mPut (vmP (mgP2 G xs_1 x x_2)) (8:Int) (AV.int .i64 n_15)=vmP (mgP2 G xs_1 x y)∧True else False else False else bif mHas (vmP (mgP2 G xs_1 x x_2)) (8:Int) then bif decide ((vmP (mgP2 G xs_1 x x_2)).length≤(140737488355327:Nat)) then bif decide (rng
 .i64 (x_2+(1:Int))) then ∃ y,Mg2 G xs_1 x y∧u9 (mg10 G xs_1 f false n n_1 n_2 n_3 n_4 n_5 s xs x) y x_2∧(c9 xs_1 x_2 y f G x)∧ZZ∧(H8 n s n_1 n_2 n_3 n_4 n_5 xs)∧(H9 n s n_1 n_2 n_3 n_4 n_5 G)∧(e9 (plF (List.take (x.toNat+(1:Nat)) G) [n_2,n_3,n_4,n_5])∧b9 G xs_1 x x_2 y 1∧b9 G xs_1 x x_2 y 2∧b9 G xs_1 x x_2 y 3∧b9 G xs_1 x x_2 y 4∧b9 G xs_1 x x_2 y 5∧b9 G xs_1 x x_2 y 6∧b9 G xs_1 x x_2 y 7∧(decide
 ¬mInt (vmP (mgP2 G xs_1 x x_2)) (8:Int)=n_15)=bdP (mgP2 G xs_1 x y) (8:Int)∧b9 G xs_1 x x_2 y 9∧b9 G xs_1 x x_2 y 10∧b9 G xs_1 x x_2 y 11∧True)∧mPut (vmP (mgP2 G xs_1 x x_2)) (8:Int) (AV.int .i64 n_15)=vmP (mgP2 G xs_1 x y)∧True else False else False else bif decide ((vmP (mgP2 G xs_1 x x_2)).length≤(140737488355327:Nat)) then bif decide (rng .i64 (x_2+(1:Int))) then ∃ y,Mg2 G xs_1 x y∧u9 (mg10 G
 xs_1 f false n n_1 n_2 n_3 n_4 n_5 s xs x) y x_2∧(c9 xs_1 x_2 y f G x)∧ZZ∧(H8 n s n_1 n_2 n_3 n_4 n_5 xs)∧(H9 n s n_1 n_2 n_3 n_4 n_5 G)∧(e9 (plF (List.take (x.toNat+(1:Nat)) G) [n_2,n_3,n_4,n_5])∧b9 G xs_1 x x_2 y 1∧b9 G xs_1 x x_2 y 2∧b9 G xs_1 x x_2 y 3∧b9 G xs_1 x x_2 y 4∧b9 G xs_1 x x_2 y 5∧b9 G xs_1 x x_2 y 6∧b9 G xs_1 x x_2 y 7∧false=bdP (mgP2 G xs_1 x y) (8:Int)∧b9 G xs_1 x x_2 y 9∧b9 G
 xs_1 x x_2 y 10∧b9 G xs_1 x x_2 y 11∧True)∧mPut (vmP (mgP2 G xs_1 x x_2)) (8:Int) (AV.int .i64 n_15)=vmP (mgP2 G xs_1 x y)∧True else False else False)∧(Mg3 G xs_1 x x_2 n_15 (9:Int)→bif bdP (mgP2 G xs_1 x x_2) (9:Int) then bif decide ((vmP (mgP2 G xs_1 x x_2)).length≤(140737488355327:Nat)) then bif decide (rng .i64 (x_2+(1:Int))) then ∃ y,Mg2 G xs_1 x y∧u9 (mg10 G xs_1 f false n n_1 n_2 n_3 n_4 n_5
 s xs x) y x_2∧(c9 xs_1 x_2 y f G x)∧ZZ∧(H8 n s n_1 n_2 n_3 n_4 n_5 xs)∧(H9 n s n_1 n_2 n_3 n_4 n_5 G)∧(e9 (plF (List.take (x.toNat+(1:Nat)) G) [n_2,n_3,n_4,n_5])∧b9 G xs_1 x x_2 y 1∧b9 G xs_1 x x_2 y 2∧b9 G xs_1 x x_2 y 3∧b9 G xs_1 x x_2 y 4∧b9 G xs_1 x x_2 y 5∧b9 G xs_1 x x_2 y 6∧b9 G xs_1 x x_2 y 7∧b9 G xs_1 x x_2 y 8∧true=bdP (mgP2 G xs_1 x y) (9:Int)∧b9 G xs_1 x x_2 y 10∧b9 G xs_1 x x_2 y
 11∧True)∧mPut (vmP (mgP2 G xs_1 x x_2)) (9:Int) (AV.int .i64 n_15)=vmP (mgP2 G xs_1 x y)∧True else False else False else bif mHas (vmP (mgP2 G xs_1 x x_2)) (9:Int) then bif decide ((vmP (mgP2 G xs_1 x x_2)).length≤(140737488355327:Nat)) then bif decide (rng .i64 (x_2+(1:Int))) then ∃ y,Mg2 G xs_1 x y∧u9 (mg10 G xs_1 f false n n_1 n_2 n_3 n_4 n_5 s xs x) y x_2∧(c9 xs_1 x_2 y f G x)∧ZZ∧(H8 n s n_1
 n_2 n_3 n_4 n_5 xs)∧(H9 n s n_1 n_2 n_3 n_4 n_5 G)∧(e9 (plF (List.take (x.toNat+(1:Nat)) G) [n_2,n_3,n_4,n_5])∧b9 G xs_1 x x_2 y 1∧b9 G xs_1 x x_2 y 2∧b9 G xs_1 x x_2 y 3∧b9 G xs_1 x x_2 y 4∧b9 G xs_1 x x_2 y 5∧b9 G xs_1 x x_2 y 6∧b9 G xs_1 x x_2 y 7∧b9 G xs_1 x x_2 y 8∧(decide ¬mInt (vmP (mgP2 G xs_1 x x_2)) (9:Int)=n_15)=bdP (mgP2 G xs_1 x y) (9:Int)∧b9 G xs_1 x x_2 y 10∧b9 G xs_1 x x_2 y
 11∧True)∧mPut (vmP (mgP2 G xs_1 x x_2)) (9:Int) (AV.int .i64 n_15)=vmP (mgP2 G xs_1 x y)∧True else False else False else bif decide ((vmP (mgP2 G xs_1 x x_2)).length≤(140737488355327:Nat)) then bif decide (rng .i64 (x_2+(1:Int))) then ∃ y,Mg2 G xs_1 x y∧u9 (mg10 G xs_1 f false n n_1 n_2 n_3 n_4 n_5 s xs x) y x_2∧(c9 xs_1 x_2 y f G x)∧ZZ∧(H8 n s n_1 n_2 n_3 n_4 n_5 xs)∧(H9 n s n_1 n_2 n_3 n_4 n_5
 G)∧(e9 (plF (List.take (x.toNat+(1:Nat)) G) [n_2,n_3,n_4,n_5])∧b9 G xs_1 x x_2 y 1∧b9 G xs_1 x x_2 y 2∧b9 G xs_1 x x_2 y 3∧b9 G xs_1 x x_2 y 4∧b9 G xs_1 x x_2 y 5∧b9 G xs_1 x x_2 y 6∧b9 G xs_1 x x_2 y 7∧b9 G xs_1 x x_2 y 8∧false=bdP (mgP2 G xs_1 x y) (9:Int)∧b9 G xs_1 x x_2 y 10∧b9 G xs_1 x x_2 y 11∧True)∧mPut (vmP (mgP2 G xs_1 x x_2)) (9:Int) (AV.int .i64 n_15)=vmP (mgP2 G xs_1 x y)∧True else
 False else False)∧(Mg3 G xs_1 x x_2 n_15 (10:Int)→bif bdP (mgP2 G xs_1 x x_2) (10:Int) then bif decide ((vmP (mgP2 G xs_1 x x_2)).length≤(140737488355327:Nat)) then bif decide (rng .i64 (x_2+(1:Int))) then ∃ y,Mg2 G xs_1 x y∧u9 (mg10 G xs_1 f false n n_1 n_2 n_3 n_4 n_5 s xs x) y x_2∧(c9 xs_1 x_2 y f G x)∧ZZ∧(H8 n s n_1 n_2 n_3 n_4 n_5 xs)∧(H9 n s n_1 n_2 n_3 n_4 n_5 G)∧(e9 (plF (List.take
 (x.toNat+(1:Nat)) G) [n_2,n_3,n_4,n_5])∧b9 G xs_1 x x_2 y 1∧b9 G xs_1 x x_2 y 2∧b9 G xs_1 x x_2 y 3∧b9 G xs_1 x x_2 y 4∧b9 G xs_1 x x_2 y 5∧b9 G xs_1 x x_2 y 6∧b9 G xs_1 x x_2 y 7∧b9 G xs_1 x x_2 y 8∧b9 G xs_1 x x_2 y 9∧true=bdP (mgP2 G xs_1 x y) (10:Int)∧b9 G xs_1 x x_2 y 11∧True)∧mPut (vmP (mgP2 G xs_1 x x_2)) (10:Int) (AV.int .i64 n_15)=vmP (mgP2 G xs_1 x y)∧True else False else False else bif
 mHas (vmP (mgP2 G xs_1 x x_2)) (10:Int) then bif decide ((vmP (mgP2 G xs_1 x x_2)).length≤(140737488355327:Nat)) then bif decide (rng .i64 (x_2+(1:Int))) then ∃ y,Mg2 G xs_1 x y∧u9 (mg10 G xs_1 f false n n_1 n_2 n_3 n_4 n_5 s xs x) y x_2∧(c9 xs_1 x_2 y f G x)∧ZZ∧(H8 n s n_1 n_2 n_3 n_4 n_5 xs)∧(H9 n s n_1 n_2 n_3 n_4 n_5 G)∧(e9 (plF (List.take (x.toNat+(1:Nat)) G) [n_2,n_3,n_4,n_5])∧b9 G xs_1 x x_2
 y 1∧b9 G xs_1 x x_2 y 2∧b9 G xs_1 x x_2 y 3∧b9 G xs_1 x x_2 y 4∧b9 G xs_1 x x_2 y 5∧b9 G xs_1 x x_2 y 6∧b9 G xs_1 x x_2 y 7∧b9 G xs_1 x x_2 y 8∧b9 G xs_1 x x_2 y 9∧(decide ¬mInt (vmP (mgP2 G xs_1 x x_2)) (10:Int)=n_15)=bdP (mgP2 G xs_1 x y) (10:Int)∧b9 G xs_1 x x_2 y 11∧True)∧mPut (vmP (mgP2 G xs_1 x x_2)) (10:Int) (AV.int .i64 n_15)=vmP (mgP2 G xs_1 x y)∧True else False else False else bif decide
 ((vmP (mgP2 G xs_1 x x_2)).length≤(140737488355327:Nat)) then bif decide (rng .i64 (x_2+(1:Int))) then ∃ y,Mg2 G xs_1 x y∧u9 (mg10 G xs_1 f false n n_1 n_2 n_3 n_4 n_5 s xs x) y x_2∧(c9 xs_1 x_2 y f G x)∧ZZ∧(H8 n s n_1 n_2 n_3 n_4 n_5 xs)∧(H9 n s n_1 n_2 n_3 n_4 n_5 G)∧(e9 (plF (List.take (x.toNat+(1:Nat)) G) [n_2,n_3,n_4,n_5])∧b9 G xs_1 x x_2 y 1∧b9 G xs_1 x x_2 y 2∧b9 G xs_1 x x_2 y 3∧b9 G xs_1 x
 x_2 y 4∧b9 G xs_1 x x_2 y 5∧b9 G xs_1 x x_2 y 6∧b9 G xs_1 x x_2 y 7∧b9 G xs_1 x x_2 y 8∧b9 G xs_1 x x_2 y 9∧false=bdP (mgP2 G xs_1 x y) (10:Int)∧b9 G xs_1 x x_2 y 11∧True)∧mPut (vmP (mgP2 G xs_1 x x_2)) (10:Int) (AV.int .i64 n_15)=vmP (mgP2 G xs_1 x y)∧True else False else False)∧(Mg3 G xs_1 x x_2 n_15 (11:Int)→bif bdP (mgP2 G xs_1 x x_2) (11:Int) then bif decide ((vmP (mgP2 G xs_1 x
 x_2)).length≤(140737488355327:Nat)) then bif decide (rng .i64 (x_2+(1:Int))) then ∃ y,Mg2 G xs_1 x y∧u9 (mg10 G xs_1 f false n n_1 n_2 n_3 n_4 n_5 s xs x) y x_2∧(c9 xs_1 x_2 y f G x)∧ZZ∧(H8 n s n_1 n_2 n_3 n_4 n_5 xs)∧(H9 n s n_1 n_2 n_3 n_4 n_5 G)∧(e9 (plF (List.take (x.toNat+(1:Nat)) G) [n_2,n_3,n_4,n_5])∧b9 G xs_1 x x_2 y 1∧b9 G xs_1 x x_2 y 2∧b9 G xs_1 x x_2 y 3∧b9 G xs_1 x x_2 y 4∧b9 G xs_1 x
 x_2 y 5∧b9 G xs_1 x x_2 y 6∧b9 G xs_1 x x_2 y 7∧b9 G xs_1 x x_2 y 8∧b9 G xs_1 x x_2 y 9∧b9 G xs_1 x x_2 y 10∧true=bdP (mgP2 G xs_1 x y) (11:Int)∧True)∧mPut (vmP (mgP2 G xs_1 x x_2)) (11:Int) (AV.int .i64 n_15)=vmP (mgP2 G xs_1 x y)∧True else False else False else bif mHas (vmP (mgP2 G xs_1 x x_2)) (11:Int) then bif decide ((vmP (mgP2 G xs_1 x x_2)).length≤(140737488355327:Nat)) then bif decide (rng
 .i64 (x_2+(1:Int))) then ∃ y,Mg2 G xs_1 x y∧u9 (mg10 G xs_1 f false n n_1 n_2 n_3 n_4 n_5 s xs x) y x_2∧(c9 xs_1 x_2 y f G x)∧ZZ∧(H8 n s n_1 n_2 n_3 n_4 n_5 xs)∧(H9 n s n_1 n_2 n_3 n_4 n_5 G)∧(e9 (plF (List.take (x.toNat+(1:Nat)) G) [n_2,n_3,n_4,n_5])∧b9 G xs_1 x x_2 y 1∧b9 G xs_1 x x_2 y 2∧b9 G xs_1 x x_2 y 3∧b9 G xs_1 x x_2 y 4∧b9 G xs_1 x x_2 y 5∧b9 G xs_1 x x_2 y 6∧b9 G xs_1 x x_2 y 7∧b9 G xs_1
 x x_2 y 8∧b9 G xs_1 x x_2 y 9∧b9 G xs_1 x x_2 y 10∧(decide ¬mInt (vmP (mgP2 G xs_1 x x_2)) (11:Int)=n_15)=bdP (mgP2 G xs_1 x y) (11:Int)∧True)∧mPut (vmP (mgP2 G xs_1 x x_2)) (11:Int) (AV.int .i64 n_15)=vmP (mgP2 G xs_1 x y)∧True else False else False else bif decide ((vmP (mgP2 G xs_1 x x_2)).length≤(140737488355327:Nat)) then bif decide (rng .i64 (x_2+(1:Int))) then ∃ y,Mg2 G xs_1 x y∧u9 (mg10 G
 xs_1 f false n n_1 n_2 n_3 n_4 n_5 s xs x) y x_2∧(c9 xs_1 x_2 y f G x)∧ZZ∧(H8 n s n_1 n_2 n_3 n_4 n_5 xs)∧(H9 n s n_1 n_2 n_3 n_4 n_5 G)∧(e9 (plF (List.take (x.toNat+(1:Nat)) G) [n_2,n_3,n_4,n_5])∧b9 G xs_1 x x_2 y 1∧b9 G xs_1 x x_2 y 2∧b9 G xs_1 x x_2 y 3∧b9 G xs_1 x x_2 y 4∧b9 G xs_1 x x_2 y 5∧b9 G xs_1 x x_2 y 6∧b9 G xs_1 x x_2 y 7∧b9 G xs_1 x x_2 y 8∧b9 G xs_1 x x_2 y 9∧b9 G xs_1 x x_2 y
 10∧false=bdP (mgP2 G xs_1 x y) (11:Int)∧True)∧mPut (vmP (mgP2 G xs_1 x x_2)) (11:Int) (AV.int .i64 n_15)=vmP (mgP2 G xs_1 x y)∧True else False else False)∧True else False else bif decide (rng .i64 (x+(1:Int))) then ∃ y,Mg1 G y∧u9 (mg6 G f n n_1 n_2 n_3 n_4 n_5 s xs) y x∧((0:Nat)=0∧(0:Nat)=0∧(0:Nat)=0∧True∧(0:Nat)=0∧((bif f then f=true else
 True)∧G=G)∧(↑G.length:Int)=(↑G.length:Int)∧x+(1:Int)=y∧True)∧ZZ∧(H8 n s n_1 n_2 n_3 n_4 n_5 xs)∧(H9 n s n_1 n_2 n_3 n_4 n_5 G)∧(plF (List.take (x.toNat+(1:Nat)) G) [n_2,n_3,n_4,n_5]=plF (List.take (Int.toNat y) G) [n_2,n_3,n_4,n_5]∧B11 (mgP2 G xs_1 x x_2) (rdsF (List.take (Int.toNat y) G)))∧vmP (mgP2 G xs_1 x x_2)=vmP (rdsF (List.take (Int.toNat y) G))∧True else False else False else (bif plF
 (List.take x.toNat G) [n_2,n_3,n_4,n_5] then ∃ x_1,OneM x_1∧((0:Nat)=0∧(0:Nat)=0∧True∧(0:Nat)=0∧True)∧ZZ∧(H8 n s n_1 n_2 n_3 n_4 n_5 xs)∧(n=n∧s=s∧n_1=n_1∧(0:Int)=mgI (plF G [n_2,n_3,n_4,n_5]) n_2∧(0:Int)=mgI (plF G [n_2,n_3,n_4,n_5]) n_3∧(0:Int)=mgI (plF G [n_2,n_3,n_4,n_5]) n_4∧(0:Int)=mgI (plF G [n_2,n_3,n_4,n_5]) n_5∧True∧(↑G.length:Int)=(↑G.length:Int)∧True∧True)∧(plF (List.take x.toNat G)
 [n_2,n_3,n_4,n_5]=plF G [n_2,n_3,n_4,n_5]∧B11 (rdsF (List.take x.toNat G)) (rdsF G))∧vmP (rdsF (List.take x.toNat G))=vmP (rdsF G)∧True else ∃ x_1,OneM x_1∧((0:Nat)=0∧(0:Nat)=0∧True∧(0:Nat)=0∧True)∧ZZ∧(H8 n s n_1 n_2 n_3 n_4 n_5 xs)∧(n=n∧s=s∧n_1=n_1∧n_2=mgI (plF G [n_2,n_3,n_4,n_5]) n_2∧n_3=mgI (plF G [n_2,n_3,n_4,n_5]) n_3∧n_4=mgI (plF G [n_2,n_3,n_4,n_5]) n_4∧n_5=mgI (plF G [n_2,n_3,n_4,n_5])
 n_5∧True∧(↑G.length:Int)=(↑G.length:Int)∧True∧True)∧(plF (List.take x.toNat G) [n_2,n_3,n_4,n_5]=plF G [n_2,n_3,n_4,n_5]∧B11 (rdsF (List.take x.toNat G)) (rdsF G))∧vmP (rdsF (List.take x.toNat G))=vmP (rdsF G)∧True)∧∀ (x:PUnit),OneM x→(∃ x,Mg4 G x∧((0:Nat)=0∧(0:Nat)=0∧True∧(e9 (plF G [n_2,n_3,n_4,n_5])∧B11 (rdsF G) (rdsF G))∧(0:Int)=x∧True)∧ZZ∧(H8 n s n_1 n_2 n_3 n_4 n_5 xs)∧(p9 n s n_1 (plF G
 [n_2,n_3,n_4,n_5]) n_2 n_3 n_4 n_5 ((0:Nat)=List.length (rdN G (Int.toNat x))∧(↑G.length:Int)=(↑G.length:Int)∧(0:Nat)=List.length (ctN G (Int.toNat x))∧True))∧vmP (rdsF G)=vmP (rdsF G)∧[]=rdN G (Int.toNat x)∧[]=ctN G (Int.toNat x)∧True)∧∀ (x:Int),Mg4 G x→(bif decide (x < (12:Int)) then ∃ x_1,Mg5 x x_1∧((0:Nat)=0∧(0:Nat)=0∧True∧(e9 (plF G [n_2,n_3,n_4,n_5])∧B11 (rdsF G) (rdsF
 G))∧x=x_1∧True)∧((0:Int)=0∧{ data:=#[] }=(⟨#[]⟩:ByteArray)∧(0:Int)=0∧(0:Int)=0∧(0:Int)=0∧(0:Int)=0∧(0:Int)=0∧True∧(0:Int)=0∧True∧True)∧(H8 n s n_1 n_2 n_3 n_4 n_5 xs)∧(p9 n s n_1 (plF G [n_2,n_3,n_4,n_5]) n_2 n_3 n_4 n_5 (List.length (rdN G x.toNat)=List.length (rdN G (Int.toNat x_1))∧(↑G.length:Int)=(↑G.length:Int)∧List.length (ctN G x.toNat)=List.length (ctN G (Int.toNat x_1))∧True))∧vmP
 (rdsF G)=vmP (rdsF G)∧rdN G x.toNat=rdN G (Int.toNat x_1)∧ctN G x.toNat=ctN G (Int.toNat x_1)∧True else bif decide (List.length (rdN G x.toNat)=List.length (rdN G x.toNat)) then bif decide (List.length (ctN G x.toNat)=List.length (ctN G x.toNat)) then n=gK G∧s=gN G∧n_1=gT G∧mgI (plF G [n_2,n_3,n_4,n_5]) n_2=gQ G (0:Nat)∧mgI (plF G [n_2,n_3,n_4,n_5]) n_3=gQ G (1:Nat)∧mgI (plF G [n_2,n_3,n_4,n_5])
 n_4=gQ G (2:Nat)∧mgI (plF G [n_2,n_3,n_4,n_5]) n_5=gQ G (3:Nat)∧(True∧rdN G x.toNat=gR G)∧(↑G.length:Int)=(↑G.length:Int)∧(True∧ctN G x.toNat=gC G)∧True else False else False)∧(∀ (x_1:Int),Mg5 x x_1→x_1=(0:Int)∨x_1=(1:Int)∨x_1=(2:Int)∨x_1=(3:Int)∨x_1=(4:Int)∨x_1=(5:Int)∨x_1=(6:Int)∨x_1=(7:Int)∨x_1=(8:Int)∨x_1=(9:Int)∨x_1=(10:Int)∨x_1=(11:Int)∨False)∧(Mg5 x (0:Int)→bif plF G
 [n_2,n_3,n_4,n_5] then ∃ y,Mg4 G y∧u9 (mg20 G n n_1 n_2 n_3 n_4 n_5 s xs) y x∧((0:Nat)=0∧(0:Nat)=0∧True∧(e9 (plF G [n_2,n_3,n_4,n_5])∧B11 (rdsF G) (rdsF G))∧(1:Int)=y∧True)∧ZZ∧(H8 n s n_1 n_2 n_3 n_4 n_5 xs)∧(p9 n s n_1 (plF G [n_2,n_3,n_4,n_5]) n_2 n_3 n_4 n_5 (List.length (rdN G (0:Nat))=List.length (rdN G (Int.toNat y))∧(↑G.length:Int)=(↑G.length:Int)∧(ctN G (0:Nat)++[[AV.int .i64
 (0:Int)]]).length=List.length (ctN G (Int.toNat y))∧True))∧vmP (rdsF G)=vmP (rdsF G)∧rdN G (0:Nat)=rdN G (Int.toNat y)∧ctN G (0:Nat)++[[AV.int .i64 (0:Int)]]=ctN G (Int.toNat y)∧True else bif mHas (vmP (rdsF G)) (0:Int) then ∃ y,Mg4 G y∧u9 (mg20 G n n_1 n_2 n_3 n_4 n_5 s xs) y x∧((0:Nat)=0∧(0:Nat)=0∧True∧(e9 (plF G [n_2,n_3,n_4,n_5])∧B11 (rdsF G) (rdsF G))∧(1:Int)=y∧True)∧ZZ∧(H8 n s n_1 n_2 n_3
 n_4 n_5 xs)∧(p9 n s n_1 (plF G [n_2,n_3,n_4,n_5]) n_2 n_3 n_4 n_5 ((rdN G (0:Nat)++[[AV.int .i64 (0:Int),.int .i64 (mInt (vmP (rdsF G)) (0:Int))]]).length=List.length (rdN G (Int.toNat y))∧(↑G.length:Int)=(↑G.length:Int)∧List.length (ctN G (0:Nat))=List.length (ctN G (Int.toNat y))∧True))∧vmP (rdsF G)=vmP (rdsF G)∧rdN G (0:Nat)++[[AV.int .i64 (0:Int),.int .i64 (mInt (vmP (rdsF G))
 (0:Int))]]=rdN G (Int.toNat y)∧ctN G (0:Nat)=ctN G (Int.toNat y)∧True else ∃ y,Mg4 G y∧u9 (mg20 G n n_1 n_2 n_3 n_4 n_5 s xs) y x∧((0:Nat)=0∧(0:Nat)=0∧True∧(e9 (plF G [n_2,n_3,n_4,n_5])∧B11 (rdsF G) (rdsF G))∧(1:Int)=y∧True)∧ZZ∧(H8 n s n_1 n_2 n_3 n_4 n_5 xs)∧(p9 n s n_1 (plF G [n_2,n_3,n_4,n_5]) n_2 n_3 n_4 n_5 (List.length (rdN G (0:Nat))=List.length (rdN G (Int.toNat
 y))∧(↑G.length:Int)=(↑G.length:Int)∧List.length (ctN G (0:Nat))=List.length (ctN G (Int.toNat y))∧True))∧vmP (rdsF G)=vmP (rdsF G)∧rdN G (0:Nat)=rdN G (Int.toNat y)∧ctN G (0:Nat)=ctN G (Int.toNat y)∧True)∧(Mg5 x (1:Int)→bif bdP (rdsF G) (1:Int) then bif decide (List.length (ctN G (1:Nat))=List.length (ctN G (1:Nat))∧List.length (ctN G (1:Nat))+(1:Nat)≤(9223372036854775807:Nat)∧(List.length (ctN G
 (1:Nat))+(1:Nat))*(8:Nat)≤(140737488355328:Nat)) then ∃ y,Mg4 G y∧u9 (mg20 G n n_1 n_2 n_3 n_4 n_5 s xs) y x∧((0:Nat)=0∧(0:Nat)=0∧True∧(e9 (plF G [n_2,n_3,n_4,n_5])∧B11 (rdsF G) (rdsF G))∧(2:Int)=y∧True)∧ZZ∧(H8 n s n_1 n_2 n_3 n_4 n_5 xs)∧(p9 n s n_1 (plF G [n_2,n_3,n_4,n_5]) n_2 n_3 n_4 n_5 (List.length (rdN G (1:Nat))=List.length (rdN G (Int.toNat y))∧(↑G.length:Int)=(↑G.length:Int)∧(ctN G
 (1:Nat)++[[AV.int .i64 (1:Int)]]).length=List.length (ctN G (Int.toNat y))∧True))∧vmP (rdsF G)=vmP (rdsF G)∧rdN G (1:Nat)=rdN G (Int.toNat y)∧ctN G (1:Nat)++[[AV.int .i64 (1:Int)]]=ctN G (Int.toNat y)∧True else False else bif mHas (vmP (rdsF G)) (1:Int) then bif decide (List.length (rdN G (1:Nat))=List.length (rdN G (1:Nat))∧List.length (rdN G (1:Nat))+[[AV.int .i64 (1:Int),.int .i64 (mInt
 (vmP (rdsF G)) (1:Int))]].length≤(9223372036854775807:Nat)∧(List.length (rdN G (1:Nat))+[[AV.int .i64 (1:Int),.int .i64 (mInt (vmP (rdsF G)) (1:Int))]].length)*(16:Nat)≤(140737488355328:Nat)) then ∃ y,Mg4 G y∧u9 (mg20 G n n_1 n_2 n_3 n_4 n_5 s xs) y x∧((0:Nat)=0∧(0:Nat)=0∧True∧(e9 (plF G [n_2,n_3,n_4,n_5])∧B11 (rdsF G) (rdsF G))∧(2:Int)=y∧True)∧ZZ∧(H8 n s n_1 n_2 n_3 n_4 n_5 xs)∧(p9 n s n_1
 (plF G [n_2,n_3,n_4,n_5]) n_2 n_3 n_4 n_5 ((rdN G (1:Nat)++[[AV.int .i64 (1:Int),.int .i64 (mInt (vmP (rdsF G)) (1:Int))]]).length=List.length (rdN G (Int.toNat y))∧(↑G.length:Int)=(↑G.length:Int)∧List.length (ctN G (1:Nat))=List.length (ctN G (Int.toNat y))∧True))∧vmP (rdsF G)=vmP (rdsF G)∧rdN G (1:Nat)++[[AV.int .i64 (1:Int),.int .i64 (mInt (vmP (rdsF G)) (1:Int))]]=rdN G (Int.toNat y)∧ctN G
 (1:Nat)=ctN G (Int.toNat y)∧True else False else ∃ y,Mg4 G y∧u9 (mg20 G n n_1 n_2 n_3 n_4 n_5 s xs) y x∧((0:Nat)=0∧(0:Nat)=0∧True∧(e9 (plF G [n_2,n_3,n_4,n_5])∧B11 (rdsF G) (rdsF G))∧(2:Int)=y∧True)∧ZZ∧(H8 n s n_1 n_2 n_3 n_4 n_5 xs)∧(p9 n s n_1 (plF G [n_2,n_3,n_4,n_5]) n_2 n_3 n_4 n_5 (List.length (rdN G (1:Nat))=List.length (rdN G (Int.toNat y))∧(↑G.length:Int)=(↑G.length:Int)∧List.length (ctN G
 (1:Nat))=List.length (ctN G (Int.toNat y))∧True))∧vmP (rdsF G)=vmP (rdsF G)∧rdN G (1:Nat)=rdN G (Int.toNat y)∧ctN G (1:Nat)=ctN G (Int.toNat y)∧True)∧(Mg5 x (2:Int)→bif bdP (rdsF G) (2:Int) then bif decide (List.length (ctN G (2:Nat))=List.length (ctN G (2:Nat))∧List.length (ctN G (2:Nat))+(1:Nat)≤(9223372036854775807:Nat)∧(List.length (ctN G (2:Nat))+(1:Nat))*(8:Nat)≤(140737488355328:Nat)) then
 ∃ y,Mg4 G y∧u9 (mg20 G n n_1 n_2 n_3 n_4 n_5 s xs) y x∧((0:Nat)=0∧(0:Nat)=0∧True∧(e9 (plF G [n_2,n_3,n_4,n_5])∧B11 (rdsF G) (rdsF G))∧(3:Int)=y∧True)∧ZZ∧(H8 n s n_1 n_2 n_3 n_4 n_5 xs)∧(p9 n s n_1 (plF G [n_2,n_3,n_4,n_5]) n_2 n_3 n_4 n_5 (List.length (rdN G (2:Nat))=List.length (rdN G (Int.toNat y))∧(↑G.length:Int)=(↑G.length:Int)∧(ctN G (2:Nat)++[[AV.int .i64 (2:Int)]]).length=List.length (ctN
 G (Int.toNat y))∧True))∧vmP (rdsF G)=vmP (rdsF G)∧rdN G (2:Nat)=rdN G (Int.toNat y)∧ctN G (2:Nat)++[[AV.int .i64 (2:Int)]]=ctN G (Int.toNat y)∧True else False else bif mHas (vmP (rdsF G)) (2:Int) then bif decide (List.length (rdN G (2:Nat))=List.length (rdN G (2:Nat))∧List.length (rdN G (2:Nat))+[[AV.int .i64 (2:Int),.int .i64 (mInt (vmP (rdsF G))
 (2:Int))]].length≤(9223372036854775807:Nat)∧(List.length (rdN G (2:Nat))+[[AV.int .i64 (2:Int),.int .i64 (mInt (vmP (rdsF G)) (2:Int))]].length)*(16:Nat)≤(140737488355328:Nat)) then ∃ y,Mg4 G y∧u9 (mg20 G n n_1 n_2 n_3 n_4 n_5 s xs) y x∧((0:Nat)=0∧(0:Nat)=0∧True∧(e9 (plF G [n_2,n_3,n_4,n_5])∧B11 (rdsF G) (rdsF G))∧(3:Int)=y∧True)∧ZZ∧(H8 n s n_1 n_2 n_3 n_4 n_5 xs)∧(p9 n s n_1 (plF G
 [n_2,n_3,n_4,n_5]) n_2 n_3 n_4 n_5 ((rdN G (2:Nat)++[[AV.int .i64 (2:Int),.int .i64 (mInt (vmP (rdsF G)) (2:Int))]]).length=List.length (rdN G (Int.toNat y))∧(↑G.length:Int)=(↑G.length:Int)∧List.length (ctN G (2:Nat))=List.length (ctN G (Int.toNat y))∧True))∧vmP (rdsF G)=vmP (rdsF G)∧rdN G (2:Nat)++[[AV.int .i64 (2:Int),.int .i64 (mInt (vmP (rdsF G)) (2:Int))]]=rdN G (Int.toNat y)∧ctN G
 (2:Nat)=ctN G (Int.toNat y)∧True else False else ∃ y,Mg4 G y∧u9 (mg20 G n n_1 n_2 n_3 n_4 n_5 s xs) y x∧((0:Nat)=0∧(0:Nat)=0∧True∧(e9 (plF G [n_2,n_3,n_4,n_5])∧B11 (rdsF G) (rdsF G))∧(3:Int)=y∧True)∧ZZ∧(H8 n s n_1 n_2 n_3 n_4 n_5 xs)∧(p9 n s n_1 (plF G [n_2,n_3,n_4,n_5]) n_2 n_3 n_4 n_5 (List.length (rdN G (2:Nat))=List.length (rdN G (Int.toNat y))∧(↑G.length:Int)=(↑G.length:Int)∧List.length (ctN G
 (2:Nat))=List.length (ctN G (Int.toNat y))∧True))∧vmP (rdsF G)=vmP (rdsF G)∧rdN G (2:Nat)=rdN G (Int.toNat y)∧ctN G (2:Nat)=ctN G (Int.toNat y)∧True)∧(Mg5 x (3:Int)→bif bdP (rdsF G) (3:Int) then bif decide (List.length (ctN G (3:Nat))=List.length (ctN G (3:Nat))∧List.length (ctN G (3:Nat))+(1:Nat)≤(9223372036854775807:Nat)∧(List.length (ctN G (3:Nat))+(1:Nat))*(8:Nat)≤(140737488355328:Nat)) then
 ∃ y,Mg4 G y∧u9 (mg20 G n n_1 n_2 n_3 n_4 n_5 s xs) y x∧((0:Nat)=0∧(0:Nat)=0∧True∧(e9 (plF G [n_2,n_3,n_4,n_5])∧B11 (rdsF G) (rdsF G))∧(4:Int)=y∧True)∧ZZ∧(H8 n s n_1 n_2 n_3 n_4 n_5 xs)∧(p9 n s n_1 (plF G [n_2,n_3,n_4,n_5]) n_2 n_3 n_4 n_5 (List.length (rdN G (3:Nat))=List.length (rdN G (Int.toNat y))∧(↑G.length:Int)=(↑G.length:Int)∧(ctN G (3:Nat)++[[AV.int .i64 (3:Int)]]).length=List.length (ctN
 G (Int.toNat y))∧True))∧vmP (rdsF G)=vmP (rdsF G)∧rdN G (3:Nat)=rdN G (Int.toNat y)∧ctN G (3:Nat)++[[AV.int .i64 (3:Int)]]=ctN G (Int.toNat y)∧True else False else bif mHas (vmP (rdsF G)) (3:Int) then bif decide (List.length (rdN G (3:Nat))=List.length (rdN G (3:Nat))∧List.length (rdN G (3:Nat))+[[AV.int .i64 (3:Int),.int .i64 (mInt (vmP (rdsF G))
 (3:Int))]].length≤(9223372036854775807:Nat)∧(List.length (rdN G (3:Nat))+[[AV.int .i64 (3:Int),.int .i64 (mInt (vmP (rdsF G)) (3:Int))]].length)*(16:Nat)≤(140737488355328:Nat)) then ∃ y,Mg4 G y∧u9 (mg20 G n n_1 n_2 n_3 n_4 n_5 s xs) y x∧((0:Nat)=0∧(0:Nat)=0∧True∧(e9 (plF G [n_2,n_3,n_4,n_5])∧B11 (rdsF G) (rdsF G))∧(4:Int)=y∧True)∧ZZ∧(H8 n s n_1 n_2 n_3 n_4 n_5 xs)∧(p9 n s n_1 (plF G
 [n_2,n_3,n_4,n_5]) n_2 n_3 n_4 n_5 ((rdN G (3:Nat)++[[AV.int .i64 (3:Int),.int .i64 (mInt (vmP (rdsF G)) (3:Int))]]).length=List.length (rdN G (Int.toNat y))∧(↑G.length:Int)=(↑G.length:Int)∧List.length (ctN G (3:Nat))=List.length (ctN G (Int.toNat y))∧True))∧vmP (rdsF G)=vmP (rdsF G)∧rdN G (3:Nat)++[[AV.int .i64 (3:Int),.int .i64 (mInt (vmP (rdsF G)) (3:Int))]]=rdN G (Int.toNat y)∧ctN G
 (3:Nat)=ctN G (Int.toNat y)∧True else False else ∃ y,Mg4 G y∧u9 (mg20 G n n_1 n_2 n_3 n_4 n_5 s xs) y x∧((0:Nat)=0∧(0:Nat)=0∧True∧(e9 (plF G [n_2,n_3,n_4,n_5])∧B11 (rdsF G) (rdsF G))∧(4:Int)=y∧True)∧ZZ∧(H8 n s n_1 n_2 n_3 n_4 n_5 xs)∧(p9 n s n_1 (plF G [n_2,n_3,n_4,n_5]) n_2 n_3 n_4 n_5 (List.length (rdN G (3:Nat))=List.length (rdN G (Int.toNat y))∧(↑G.length:Int)=(↑G.length:Int)∧List.length (ctN G
 (3:Nat))=List.length (ctN G (Int.toNat y))∧True))∧vmP (rdsF G)=vmP (rdsF G)∧rdN G (3:Nat)=rdN G (Int.toNat y)∧ctN G (3:Nat)=ctN G (Int.toNat y)∧True)∧(Mg5 x (4:Int)→bif bdP (rdsF G) (4:Int) then bif decide (List.length (ctN G (4:Nat))=List.length (ctN G (4:Nat))∧List.length (ctN G (4:Nat))+(1:Nat)≤(9223372036854775807:Nat)∧(List.length (ctN G (4:Nat))+(1:Nat))*(8:Nat)≤(140737488355328:Nat)) then
 ∃ y,Mg4 G y∧u9 (mg20 G n n_1 n_2 n_3 n_4 n_5 s xs) y x∧((0:Nat)=0∧(0:Nat)=0∧True∧(e9 (plF G [n_2,n_3,n_4,n_5])∧B11 (rdsF G) (rdsF G))∧(5:Int)=y∧True)∧ZZ∧(H8 n s n_1 n_2 n_3 n_4 n_5 xs)∧(p9 n s n_1 (plF G [n_2,n_3,n_4,n_5]) n_2 n_3 n_4 n_5 (List.length (rdN G (4:Nat))=List.length (rdN G (Int.toNat y))∧(↑G.length:Int)=(↑G.length:Int)∧(ctN G (4:Nat)++[[AV.int .i64 (4:Int)]]).length=List.length (ctN
 G (Int.toNat y))∧True))∧vmP (rdsF G)=vmP (rdsF G)∧rdN G (4:Nat)=rdN G (Int.toNat y)∧ctN G (4:Nat)++[[AV.int .i64 (4:Int)]]=ctN G (Int.toNat y)∧True else False else bif mHas (vmP (rdsF G)) (4:Int) then bif decide (List.length (rdN G (4:Nat))=List.length (rdN G (4:Nat))∧List.length (rdN G (4:Nat))+[[AV.int .i64 (4:Int),.int .i64 (mInt (vmP (rdsF G))
 (4:Int))]].length≤(9223372036854775807:Nat)∧(List.length (rdN G (4:Nat))+[[AV.int .i64 (4:Int),.int .i64 (mInt (vmP (rdsF G)) (4:Int))]].length)*(16:Nat)≤(140737488355328:Nat)) then ∃ y,Mg4 G y∧u9 (mg20 G n n_1 n_2 n_3 n_4 n_5 s xs) y x∧((0:Nat)=0∧(0:Nat)=0∧True∧(e9 (plF G [n_2,n_3,n_4,n_5])∧B11 (rdsF G) (rdsF G))∧(5:Int)=y∧True)∧ZZ∧(H8 n s n_1 n_2 n_3 n_4 n_5 xs)∧(p9 n s n_1 (plF G
 [n_2,n_3,n_4,n_5]) n_2 n_3 n_4 n_5 ((rdN G (4:Nat)++[[AV.int .i64 (4:Int),.int .i64 (mInt (vmP (rdsF G)) (4:Int))]]).length=List.length (rdN G (Int.toNat y))∧(↑G.length:Int)=(↑G.length:Int)∧List.length (ctN G (4:Nat))=List.length (ctN G (Int.toNat y))∧True))∧vmP (rdsF G)=vmP (rdsF G)∧rdN G (4:Nat)++[[AV.int .i64 (4:Int),.int .i64 (mInt (vmP (rdsF G)) (4:Int))]]=rdN G (Int.toNat y)∧ctN G
 (4:Nat)=ctN G (Int.toNat y)∧True else False else ∃ y,Mg4 G y∧u9 (mg20 G n n_1 n_2 n_3 n_4 n_5 s xs) y x∧((0:Nat)=0∧(0:Nat)=0∧True∧(e9 (plF G [n_2,n_3,n_4,n_5])∧B11 (rdsF G) (rdsF G))∧(5:Int)=y∧True)∧ZZ∧(H8 n s n_1 n_2 n_3 n_4 n_5 xs)∧(p9 n s n_1 (plF G [n_2,n_3,n_4,n_5]) n_2 n_3 n_4 n_5 (List.length (rdN G (4:Nat))=List.length (rdN G (Int.toNat y))∧(↑G.length:Int)=(↑G.length:Int)∧List.length (ctN G
 (4:Nat))=List.length (ctN G (Int.toNat y))∧True))∧vmP (rdsF G)=vmP (rdsF G)∧rdN G (4:Nat)=rdN G (Int.toNat y)∧ctN G (4:Nat)=ctN G (Int.toNat y)∧True)∧(Mg5 x (5:Int)→bif bdP (rdsF G) (5:Int) then bif decide (List.length (ctN G (5:Nat))=List.length (ctN G (5:Nat))∧List.length (ctN G (5:Nat))+(1:Nat)≤(9223372036854775807:Nat)∧(List.length (ctN G (5:Nat))+(1:Nat))*(8:Nat)≤(140737488355328:Nat)) then
 ∃ y,Mg4 G y∧u9 (mg20 G n n_1 n_2 n_3 n_4 n_5 s xs) y x∧((0:Nat)=0∧(0:Nat)=0∧True∧(e9 (plF G [n_2,n_3,n_4,n_5])∧B11 (rdsF G) (rdsF G))∧(6:Int)=y∧True)∧ZZ∧(H8 n s n_1 n_2 n_3 n_4 n_5 xs)∧(p9 n s n_1 (plF G [n_2,n_3,n_4,n_5]) n_2 n_3 n_4 n_5 (List.length (rdN G (5:Nat))=List.length (rdN G (Int.toNat y))∧(↑G.length:Int)=(↑G.length:Int)∧(ctN G (5:Nat)++[[AV.int .i64 (5:Int)]]).length=List.length (ctN
 G (Int.toNat y))∧True))∧vmP (rdsF G)=vmP (rdsF G)∧rdN G (5:Nat)=rdN G (Int.toNat y)∧ctN G (5:Nat)++[[AV.int .i64 (5:Int)]]=ctN G (Int.toNat y)∧True else False else bif mHas (vmP (rdsF G)) (5:Int) then bif decide (List.length (rdN G (5:Nat))=List.length (rdN G (5:Nat))∧List.length (rdN G (5:Nat))+[[AV.int .i64 (5:Int),.int .i64 (mInt (vmP (rdsF G))
 (5:Int))]].length≤(9223372036854775807:Nat)∧(List.length (rdN G (5:Nat))+[[AV.int .i64 (5:Int),.int .i64 (mInt (vmP (rdsF G)) (5:Int))]].length)*(16:Nat)≤(140737488355328:Nat)) then ∃ y,Mg4 G y∧u9 (mg20 G n n_1 n_2 n_3 n_4 n_5 s xs) y x∧((0:Nat)=0∧(0:Nat)=0∧True∧(e9 (plF G [n_2,n_3,n_4,n_5])∧B11 (rdsF G) (rdsF G))∧(6:Int)=y∧True)∧ZZ∧(H8 n s n_1 n_2 n_3 n_4 n_5 xs)∧(p9 n s n_1 (plF G
 [n_2,n_3,n_4,n_5]) n_2 n_3 n_4 n_5 ((rdN G (5:Nat)++[[AV.int .i64 (5:Int),.int .i64 (mInt (vmP (rdsF G)) (5:Int))]]).length=List.length (rdN G (Int.toNat y))∧(↑G.length:Int)=(↑G.length:Int)∧List.length (ctN G (5:Nat))=List.length (ctN G (Int.toNat y))∧True))∧vmP (rdsF G)=vmP (rdsF G)∧rdN G (5:Nat)++[[AV.int .i64 (5:Int),.int .i64 (mInt (vmP (rdsF G)) (5:Int))]]=rdN G (Int.toNat y)∧ctN G
 (5:Nat)=ctN G (Int.toNat y)∧True else False else ∃ y,Mg4 G y∧u9 (mg20 G n n_1 n_2 n_3 n_4 n_5 s xs) y x∧((0:Nat)=0∧(0:Nat)=0∧True∧(e9 (plF G [n_2,n_3,n_4,n_5])∧B11 (rdsF G) (rdsF G))∧(6:Int)=y∧True)∧ZZ∧(H8 n s n_1 n_2 n_3 n_4 n_5 xs)∧(p9 n s n_1 (plF G [n_2,n_3,n_4,n_5]) n_2 n_3 n_4 n_5 (List.length (rdN G (5:Nat))=List.length (rdN G (Int.toNat y))∧(↑G.length:Int)=(↑G.length:Int)∧List.length (ctN G
 (5:Nat))=List.length (ctN G (Int.toNat y))∧True))∧vmP (rdsF G)=vmP (rdsF G)∧rdN G (5:Nat)=rdN G (Int.toNat y)∧ctN G (5:Nat)=ctN G (Int.toNat y)∧True)∧(Mg5 x (6:Int)→bif bdP (rdsF G) (6:Int) then bif decide (List.length (ctN G (6:Nat))=List.length (ctN G (6:Nat))∧List.length (ctN G (6:Nat))+(1:Nat)≤(9223372036854775807:Nat)∧(List.length (ctN G (6:Nat))+(1:Nat))*(8:Nat)≤(140737488355328:Nat)) then
 ∃ y,Mg4 G y∧u9 (mg20 G n n_1 n_2 n_3 n_4 n_5 s xs) y x∧((0:Nat)=0∧(0:Nat)=0∧True∧(e9 (plF G [n_2,n_3,n_4,n_5])∧B11 (rdsF G) (rdsF G))∧(7:Int)=y∧True)∧ZZ∧(H8 n s n_1 n_2 n_3 n_4 n_5 xs)∧(p9 n s n_1 (plF G [n_2,n_3,n_4,n_5]) n_2 n_3 n_4 n_5 (List.length (rdN G (6:Nat))=List.length (rdN G (Int.toNat y))∧(↑G.length:Int)=(↑G.length:Int)∧(ctN G (6:Nat)++[[AV.int .i64 (6:Int)]]).length=List.length (ctN
 G (Int.toNat y))∧True))∧vmP (rdsF G)=vmP (rdsF G)∧rdN G (6:Nat)=rdN G (Int.toNat y)∧ctN G (6:Nat)++[[AV.int .i64 (6:Int)]]=ctN G (Int.toNat y)∧True else False else bif mHas (vmP (rdsF G)) (6:Int) then bif decide (List.length (rdN G (6:Nat))=List.length (rdN G (6:Nat))∧List.length (rdN G (6:Nat))+[[AV.int .i64 (6:Int),.int .i64 (mInt (vmP (rdsF G))
 (6:Int))]].length≤(9223372036854775807:Nat)∧(List.length (rdN G (6:Nat))+[[AV.int .i64 (6:Int),.int .i64 (mInt (vmP (rdsF G)) (6:Int))]].length)*(16:Nat)≤(140737488355328:Nat)) then ∃ y,Mg4 G y∧u9 (mg20 G n n_1 n_2 n_3 n_4 n_5 s xs) y x∧((0:Nat)=0∧(0:Nat)=0∧True∧(e9 (plF G [n_2,n_3,n_4,n_5])∧B11 (rdsF G) (rdsF G))∧(7:Int)=y∧True)∧ZZ∧(H8 n s n_1 n_2 n_3 n_4 n_5 xs)∧(p9 n s n_1 (plF G
 [n_2,n_3,n_4,n_5]) n_2 n_3 n_4 n_5 ((rdN G (6:Nat)++[[AV.int .i64 (6:Int),.int .i64 (mInt (vmP (rdsF G)) (6:Int))]]).length=List.length (rdN G (Int.toNat y))∧(↑G.length:Int)=(↑G.length:Int)∧List.length (ctN G (6:Nat))=List.length (ctN G (Int.toNat y))∧True))∧vmP (rdsF G)=vmP (rdsF G)∧rdN G (6:Nat)++[[AV.int .i64 (6:Int),.int .i64 (mInt (vmP (rdsF G)) (6:Int))]]=rdN G (Int.toNat y)∧ctN G
 (6:Nat)=ctN G (Int.toNat y)∧True else False else ∃ y,Mg4 G y∧u9 (mg20 G n n_1 n_2 n_3 n_4 n_5 s xs) y x∧((0:Nat)=0∧(0:Nat)=0∧True∧(e9 (plF G [n_2,n_3,n_4,n_5])∧B11 (rdsF G) (rdsF G))∧(7:Int)=y∧True)∧ZZ∧(H8 n s n_1 n_2 n_3 n_4 n_5 xs)∧(p9 n s n_1 (plF G [n_2,n_3,n_4,n_5]) n_2 n_3 n_4 n_5 (List.length (rdN G (6:Nat))=List.length (rdN G (Int.toNat y))∧(↑G.length:Int)=(↑G.length:Int)∧List.length (ctN G
 (6:Nat))=List.length (ctN G (Int.toNat y))∧True))∧vmP (rdsF G)=vmP (rdsF G)∧rdN G (6:Nat)=rdN G (Int.toNat y)∧ctN G (6:Nat)=ctN G (Int.toNat y)∧True)∧(Mg5 x (7:Int)→bif bdP (rdsF G) (7:Int) then bif decide (List.length (ctN G (7:Nat))=List.length (ctN G (7:Nat))∧List.length (ctN G (7:Nat))+(1:Nat)≤(9223372036854775807:Nat)∧(List.length (ctN G (7:Nat))+(1:Nat))*(8:Nat)≤(140737488355328:Nat)) then
 ∃ y,Mg4 G y∧u9 (mg20 G n n_1 n_2 n_3 n_4 n_5 s xs) y x∧((0:Nat)=0∧(0:Nat)=0∧True∧(e9 (plF G [n_2,n_3,n_4,n_5])∧B11 (rdsF G) (rdsF G))∧(8:Int)=y∧True)∧ZZ∧(H8 n s n_1 n_2 n_3 n_4 n_5 xs)∧(p9 n s n_1 (plF G [n_2,n_3,n_4,n_5]) n_2 n_3 n_4 n_5 (List.length (rdN G (7:Nat))=List.length (rdN G (Int.toNat y))∧(↑G.length:Int)=(↑G.length:Int)∧(ctN G (7:Nat)++[[AV.int .i64 (7:Int)]]).length=List.length (ctN
 G (Int.toNat y))∧True))∧vmP (rdsF G)=vmP (rdsF G)∧rdN G (7:Nat)=rdN G (Int.toNat y)∧ctN G (7:Nat)++[[AV.int .i64 (7:Int)]]=ctN G (Int.toNat y)∧True else False else bif mHas (vmP (rdsF G)) (7:Int) then bif decide (List.length (rdN G (7:Nat))=List.length (rdN G (7:Nat))∧List.length (rdN G (7:Nat))+[[AV.int .i64 (7:Int),.int .i64 (mInt (vmP (rdsF G))
 (7:Int))]].length≤(9223372036854775807:Nat)∧(List.length (rdN G (7:Nat))+[[AV.int .i64 (7:Int),.int .i64 (mInt (vmP (rdsF G)) (7:Int))]].length)*(16:Nat)≤(140737488355328:Nat)) then ∃ y,Mg4 G y∧u9 (mg20 G n n_1 n_2 n_3 n_4 n_5 s xs) y x∧((0:Nat)=0∧(0:Nat)=0∧True∧(e9 (plF G [n_2,n_3,n_4,n_5])∧B11 (rdsF G) (rdsF G))∧(8:Int)=y∧True)∧ZZ∧(H8 n s n_1 n_2 n_3 n_4 n_5 xs)∧(p9 n s n_1 (plF G
 [n_2,n_3,n_4,n_5]) n_2 n_3 n_4 n_5 ((rdN G (7:Nat)++[[AV.int .i64 (7:Int),.int .i64 (mInt (vmP (rdsF G)) (7:Int))]]).length=List.length (rdN G (Int.toNat y))∧(↑G.length:Int)=(↑G.length:Int)∧List.length (ctN G (7:Nat))=List.length (ctN G (Int.toNat y))∧True))∧vmP (rdsF G)=vmP (rdsF G)∧rdN G (7:Nat)++[[AV.int .i64 (7:Int),.int .i64 (mInt (vmP (rdsF G)) (7:Int))]]=rdN G (Int.toNat y)∧ctN G
 (7:Nat)=ctN G (Int.toNat y)∧True else False else ∃ y,Mg4 G y∧u9 (mg20 G n n_1 n_2 n_3 n_4 n_5 s xs) y x∧((0:Nat)=0∧(0:Nat)=0∧True∧(e9 (plF G [n_2,n_3,n_4,n_5])∧B11 (rdsF G) (rdsF G))∧(8:Int)=y∧True)∧ZZ∧(H8 n s n_1 n_2 n_3 n_4 n_5 xs)∧(p9 n s n_1 (plF G [n_2,n_3,n_4,n_5]) n_2 n_3 n_4 n_5 (List.length (rdN G (7:Nat))=List.length (rdN G (Int.toNat y))∧(↑G.length:Int)=(↑G.length:Int)∧List.length (ctN G
 (7:Nat))=List.length (ctN G (Int.toNat y))∧True))∧vmP (rdsF G)=vmP (rdsF G)∧rdN G (7:Nat)=rdN G (Int.toNat y)∧ctN G (7:Nat)=ctN G (Int.toNat y)∧True)∧(Mg5 x (8:Int)→bif bdP (rdsF G) (8:Int) then bif decide (List.length (ctN G (8:Nat))=List.length (ctN G (8:Nat))∧List.length (ctN G (8:Nat))+(1:Nat)≤(9223372036854775807:Nat)∧(List.length (ctN G (8:Nat))+(1:Nat))*(8:Nat)≤(140737488355328:Nat)) then
 ∃ y,Mg4 G y∧u9 (mg20 G n n_1 n_2 n_3 n_4 n_5 s xs) y x∧((0:Nat)=0∧(0:Nat)=0∧True∧(e9 (plF G [n_2,n_3,n_4,n_5])∧B11 (rdsF G) (rdsF G))∧(9:Int)=y∧True)∧ZZ∧(H8 n s n_1 n_2 n_3 n_4 n_5 xs)∧(p9 n s n_1 (plF G [n_2,n_3,n_4,n_5]) n_2 n_3 n_4 n_5 (List.length (rdN G (8:Nat))=List.length (rdN G (Int.toNat y))∧(↑G.length:Int)=(↑G.length:Int)∧(ctN G (8:Nat)++[[AV.int .i64 (8:Int)]]).length=List.length (ctN
 G (Int.toNat y))∧True))∧vmP (rdsF G)=vmP (rdsF G)∧rdN G (8:Nat)=rdN G (Int.toNat y)∧ctN G (8:Nat)++[[AV.int .i64 (8:Int)]]=ctN G (Int.toNat y)∧True else False else bif mHas (vmP (rdsF G)) (8:Int) then bif decide (List.length (rdN G (8:Nat))=List.length (rdN G (8:Nat))∧List.length (rdN G (8:Nat))+[[AV.int .i64 (8:Int),.int .i64 (mInt (vmP (rdsF G))
 (8:Int))]].length≤(9223372036854775807:Nat)∧(List.length (rdN G (8:Nat))+[[AV.int .i64 (8:Int),.int .i64 (mInt (vmP (rdsF G)) (8:Int))]].length)*(16:Nat)≤(140737488355328:Nat)) then ∃ y,Mg4 G y∧u9 (mg20 G n n_1 n_2 n_3 n_4 n_5 s xs) y x∧((0:Nat)=0∧(0:Nat)=0∧True∧(e9 (plF G [n_2,n_3,n_4,n_5])∧B11 (rdsF G) (rdsF G))∧(9:Int)=y∧True)∧ZZ∧(H8 n s n_1 n_2 n_3 n_4 n_5 xs)∧(p9 n s n_1 (plF G
 [n_2,n_3,n_4,n_5]) n_2 n_3 n_4 n_5 ((rdN G (8:Nat)++[[AV.int .i64 (8:Int),.int .i64 (mInt (vmP (rdsF G)) (8:Int))]]).length=List.length (rdN G (Int.toNat y))∧(↑G.length:Int)=(↑G.length:Int)∧List.length (ctN G (8:Nat))=List.length (ctN G (Int.toNat y))∧True))∧vmP (rdsF G)=vmP (rdsF G)∧rdN G (8:Nat)++[[AV.int .i64 (8:Int),.int .i64 (mInt (vmP (rdsF G)) (8:Int))]]=rdN G (Int.toNat y)∧ctN G
 (8:Nat)=ctN G (Int.toNat y)∧True else False else ∃ y,Mg4 G y∧u9 (mg20 G n n_1 n_2 n_3 n_4 n_5 s xs) y x∧((0:Nat)=0∧(0:Nat)=0∧True∧(e9 (plF G [n_2,n_3,n_4,n_5])∧B11 (rdsF G) (rdsF G))∧(9:Int)=y∧True)∧ZZ∧(H8 n s n_1 n_2 n_3 n_4 n_5 xs)∧(p9 n s n_1 (plF G [n_2,n_3,n_4,n_5]) n_2 n_3 n_4 n_5 (List.length (rdN G (8:Nat))=List.length (rdN G (Int.toNat y))∧(↑G.length:Int)=(↑G.length:Int)∧List.length (ctN G
 (8:Nat))=List.length (ctN G (Int.toNat y))∧True))∧vmP (rdsF G)=vmP (rdsF G)∧rdN G (8:Nat)=rdN G (Int.toNat y)∧ctN G (8:Nat)=ctN G (Int.toNat y)∧True)∧(Mg5 x (9:Int)→bif bdP (rdsF G) (9:Int) then bif decide (List.length (ctN G (9:Nat))=List.length (ctN G (9:Nat))∧List.length (ctN G (9:Nat))+(1:Nat)≤(9223372036854775807:Nat)∧(List.length (ctN G (9:Nat))+(1:Nat))*(8:Nat)≤(140737488355328:Nat)) then
 ∃ y,Mg4 G y∧u9 (mg20 G n n_1 n_2 n_3 n_4 n_5 s xs) y x∧((0:Nat)=0∧(0:Nat)=0∧True∧(e9 (plF G [n_2,n_3,n_4,n_5])∧B11 (rdsF G) (rdsF G))∧(10:Int)=y∧True)∧ZZ∧(H8 n s n_1 n_2 n_3 n_4 n_5 xs)∧(p9 n s n_1 (plF G [n_2,n_3,n_4,n_5]) n_2 n_3 n_4 n_5 (List.length (rdN G (9:Nat))=List.length (rdN G (Int.toNat y))∧(↑G.length:Int)=(↑G.length:Int)∧(ctN G (9:Nat)++[[AV.int .i64 (9:Int)]]).length=List.length (ctN
 G (Int.toNat y))∧True))∧vmP (rdsF G)=vmP (rdsF G)∧rdN G (9:Nat)=rdN G (Int.toNat y)∧ctN G (9:Nat)++[[AV.int .i64 (9:Int)]]=ctN G (Int.toNat y)∧True else False else bif mHas (vmP (rdsF G)) (9:Int) then bif decide (List.length (rdN G (9:Nat))=List.length (rdN G (9:Nat))∧List.length (rdN G (9:Nat))+[[AV.int .i64 (9:Int),.int .i64 (mInt (vmP (rdsF G))
 (9:Int))]].length≤(9223372036854775807:Nat)∧(List.length (rdN G (9:Nat))+[[AV.int .i64 (9:Int),.int .i64 (mInt (vmP (rdsF G)) (9:Int))]].length)*(16:Nat)≤(140737488355328:Nat)) then ∃ y,Mg4 G y∧u9 (mg20 G n n_1 n_2 n_3 n_4 n_5 s xs) y x∧((0:Nat)=0∧(0:Nat)=0∧True∧(e9 (plF G [n_2,n_3,n_4,n_5])∧B11 (rdsF G) (rdsF G))∧(10:Int)=y∧True)∧ZZ∧(H8 n s n_1 n_2 n_3 n_4 n_5 xs)∧(p9 n s n_1 (plF G
 [n_2,n_3,n_4,n_5]) n_2 n_3 n_4 n_5 ((rdN G (9:Nat)++[[AV.int .i64 (9:Int),.int .i64 (mInt (vmP (rdsF G)) (9:Int))]]).length=List.length (rdN G (Int.toNat y))∧(↑G.length:Int)=(↑G.length:Int)∧List.length (ctN G (9:Nat))=List.length (ctN G (Int.toNat y))∧True))∧vmP (rdsF G)=vmP (rdsF G)∧rdN G (9:Nat)++[[AV.int .i64 (9:Int),.int .i64 (mInt (vmP (rdsF G)) (9:Int))]]=rdN G (Int.toNat y)∧ctN G
 (9:Nat)=ctN G (Int.toNat y)∧True else False else ∃ y,Mg4 G y∧u9 (mg20 G n n_1 n_2 n_3 n_4 n_5 s xs) y x∧((0:Nat)=0∧(0:Nat)=0∧True∧(e9 (plF G [n_2,n_3,n_4,n_5])∧B11 (rdsF G) (rdsF G))∧(10:Int)=y∧True)∧ZZ∧(H8 n s n_1 n_2 n_3 n_4 n_5 xs)∧(p9 n s n_1 (plF G [n_2,n_3,n_4,n_5]) n_2 n_3 n_4 n_5 (List.length (rdN G (9:Nat))=List.length (rdN G (Int.toNat y))∧(↑G.length:Int)=(↑G.length:Int)∧List.length (ctN
 G (9:Nat))=List.length (ctN G (Int.toNat y))∧True))∧vmP (rdsF G)=vmP (rdsF G)∧rdN G (9:Nat)=rdN G (Int.toNat y)∧ctN G (9:Nat)=ctN G (Int.toNat y)∧True)∧(Mg5 x (10:Int)→bif bdP (rdsF G) (10:Int) then bif decide (List.length (ctN G (10:Nat))=List.length (ctN G (10:Nat))∧List.length (ctN G (10:Nat))+(1:Nat)≤(9223372036854775807:Nat)∧(List.length (ctN G (10:Nat))+(1:Nat)) *
 (8:Nat)≤(140737488355328:Nat)) then ∃ y,Mg4 G y∧u9 (mg20 G n n_1 n_2 n_3 n_4 n_5 s xs) y x∧((0:Nat)=0∧(0:Nat)=0∧True∧(e9 (plF G [n_2,n_3,n_4,n_5])∧B11 (rdsF G) (rdsF G))∧(11:Int)=y∧True)∧ZZ∧(H8 n s n_1 n_2 n_3 n_4 n_5 xs)∧(p9 n s n_1 (plF G [n_2,n_3,n_4,n_5]) n_2 n_3 n_4 n_5 (List.length (rdN G (10:Nat))=List.length (rdN G (Int.toNat y))∧(↑G.length:Int)=(↑G.length:Int)∧(ctN G (10:Nat)++[[AV.int
 .i64 (10:Int)]]).length=List.length (ctN G (Int.toNat y))∧True))∧vmP (rdsF G)=vmP (rdsF G)∧rdN G (10:Nat)=rdN G (Int.toNat y)∧ctN G (10:Nat)++[[AV.int .i64 (10:Int)]]=ctN G (Int.toNat y)∧True else False else bif mHas (vmP (rdsF G)) (10:Int) then bif decide (List.length (rdN G (10:Nat))=List.length (rdN G (10:Nat))∧List.length (rdN G (10:Nat))+[[AV.int .i64 (10:Int),.int .i64 (mInt (vmP (rdsF
 G)) (10:Int))]].length≤(9223372036854775807:Nat)∧(List.length (rdN G (10:Nat))+[[AV.int .i64 (10:Int),.int .i64 (mInt (vmP (rdsF G)) (10:Int))]].length)*(16:Nat)≤(140737488355328:Nat)) then ∃ y,Mg4 G y∧u9 (mg20 G n n_1 n_2 n_3 n_4 n_5 s xs) y x∧((0:Nat)=0∧(0:Nat)=0∧True∧(e9 (plF G [n_2,n_3,n_4,n_5])∧B11 (rdsF G) (rdsF G))∧(11:Int)=y∧True)∧ZZ∧(H8 n s n_1 n_2 n_3 n_4 n_5 xs)∧(p9 n s n_1 (plF G
 [n_2,n_3,n_4,n_5]) n_2 n_3 n_4 n_5 ((rdN G (10:Nat)++[[AV.int .i64 (10:Int),.int .i64 (mInt (vmP (rdsF G)) (10:Int))]]).length=List.length (rdN G (Int.toNat y))∧(↑G.length:Int)=(↑G.length:Int)∧List.length (ctN G (10:Nat))=List.length (ctN G (Int.toNat y))∧True))∧vmP (rdsF G)=vmP (rdsF G)∧rdN G (10:Nat)++[[AV.int .i64 (10:Int),.int .i64 (mInt (vmP (rdsF G)) (10:Int))]]=rdN G (Int.toNat y)∧ctN G
 (10:Nat)=ctN G (Int.toNat y)∧True else False else ∃ y,Mg4 G y∧u9 (mg20 G n n_1 n_2 n_3 n_4 n_5 s xs) y x∧((0:Nat)=0∧(0:Nat)=0∧True∧(e9 (plF G [n_2,n_3,n_4,n_5])∧B11 (rdsF G) (rdsF G))∧(11:Int)=y∧True)∧ZZ∧(H8 n s n_1 n_2 n_3 n_4 n_5 xs)∧(p9 n s n_1 (plF G [n_2,n_3,n_4,n_5]) n_2 n_3 n_4 n_5 (List.length (rdN G (10:Nat))=List.length (rdN G (Int.toNat y))∧(↑G.length:Int)=(↑G.length:Int)∧List.length
 (ctN G (10:Nat))=List.length (ctN G (Int.toNat y))∧True))∧vmP (rdsF G)=vmP (rdsF G)∧rdN G (10:Nat)=rdN G (Int.toNat y)∧ctN G (10:Nat)=ctN G (Int.toNat y)∧True)∧(Mg5 x (11:Int)→bif bdP (rdsF G) (11:Int) then bif decide (List.length (ctN G (11:Nat))=List.length (ctN G (11:Nat))∧List.length (ctN G (11:Nat))+(1:Nat)≤(9223372036854775807:Nat)∧(List.length (ctN G (11:Nat))+(1:Nat)) *
 (8:Nat)≤(140737488355328:Nat)) then ∃ y,Mg4 G y∧u9 (mg20 G n n_1 n_2 n_3 n_4 n_5 s xs) y x∧((0:Nat)=0∧(0:Nat)=0∧True∧(e9 (plF G [n_2,n_3,n_4,n_5])∧B11 (rdsF G) (rdsF G))∧(12:Int)=y∧True)∧ZZ∧(H8 n s n_1 n_2 n_3 n_4 n_5 xs)∧(p9 n s n_1 (plF G [n_2,n_3,n_4,n_5]) n_2 n_3 n_4 n_5 (List.length (rdN G (11:Nat))=List.length (rdN G (Int.toNat y))∧(↑G.length:Int)=(↑G.length:Int)∧(ctN G (11:Nat)++[[AV.int
 .i64 (11:Int)]]).length=List.length (ctN G (Int.toNat y))∧True))∧vmP (rdsF G)=vmP (rdsF G)∧rdN G (11:Nat)=rdN G (Int.toNat y)∧ctN G (11:Nat)++[[AV.int .i64 (11:Int)]]=ctN G (Int.toNat y)∧True else False else bif mHas (vmP (rdsF G)) (11:Int) then bif decide (List.length (rdN G (11:Nat))=List.length (rdN G (11:Nat))∧List.length (rdN G (11:Nat))+[[AV.int .i64 (11:Int),.int .i64 (mInt (vmP (rdsF
 G)) (11:Int))]].length≤(9223372036854775807:Nat)∧(List.length (rdN G (11:Nat))+[[AV.int .i64 (11:Int),.int .i64 (mInt (vmP (rdsF G)) (11:Int))]].length)*(16:Nat)≤(140737488355328:Nat)) then ∃ y,Mg4 G y∧u9 (mg20 G n n_1 n_2 n_3 n_4 n_5 s xs) y x∧((0:Nat)=0∧(0:Nat)=0∧True∧(e9 (plF G [n_2,n_3,n_4,n_5])∧B11 (rdsF G) (rdsF G))∧(12:Int)=y∧True)∧ZZ∧(H8 n s n_1 n_2 n_3 n_4 n_5 xs)∧(p9 n s n_1 (plF G
 [n_2,n_3,n_4,n_5]) n_2 n_3 n_4 n_5 ((rdN G (11:Nat)++[[AV.int .i64 (11:Int),.int .i64 (mInt (vmP (rdsF G)) (11:Int))]]).length=List.length (rdN G (Int.toNat y))∧(↑G.length:Int)=(↑G.length:Int)∧List.length (ctN G (11:Nat))=List.length (ctN G (Int.toNat y))∧True))∧vmP (rdsF G)=vmP (rdsF G)∧rdN G (11:Nat)++[[AV.int .i64 (11:Int),.int .i64 (mInt (vmP (rdsF G)) (11:Int))]]=rdN G (Int.toNat y)∧ctN G
 (11:Nat)=ctN G (Int.toNat y)∧True else False else ∃ y,Mg4 G y∧u9 (mg20 G n n_1 n_2 n_3 n_4 n_5 s xs) y x∧((0:Nat)=0∧(0:Nat)=0∧True∧(e9 (plF G [n_2,n_3,n_4,n_5])∧B11 (rdsF G) (rdsF G))∧(12:Int)=y∧True)∧ZZ∧(H8 n s n_1 n_2 n_3 n_4 n_5 xs)∧(p9 n s n_1 (plF G [n_2,n_3,n_4,n_5]) n_2 n_3 n_4 n_5 (List.length (rdN G (11:Nat))=List.length (rdN G (Int.toNat y))∧(↑G.length:Int)=(↑G.length:Int)∧List.length
 (ctN G (11:Nat))=List.length (ctN G (Int.toNat y))∧True))∧vmP (rdsF G)=vmP (rdsF G)∧rdN G (11:Nat)=rdN G (Int.toNat y)∧ctN G (11:Nat)=ctN G (Int.toNat y)∧True)∧True else False
theorem mgd_P:mgd_T gK gN gT gQ gR gC:=by
 unfold mgd_T
 intro gl G f h _
 have ln:=h.fl
 have l0:=h.f0
 have bf:cond f (f=true) True:=by cases f <;> trivial
 refine cd1 (by omega) ?_
 obtain ⟨k,nm,t,f0,a,b,c,rd0,co0,ar0,hr0,_⟩:=h.fr 0 l0
 have hhd:itPl (G.headD [])=[f0,a,b,c]:=by
  have e:G.headD []=G.getD 0 []:=by cases G <;> rfl
  rw [e,hr0]; rfl
 have hh0:G.headD []=itA k nm t f0 a b c rd0 co0 ar0:=by
  have e:G.headD []=G.getD 0 []:=by cases G <;> rfl
  rw [e,hr0]
 have pF:plF [] [f0,a,b,c]=false:=rfl
 have e0:rdsF (List.take 0 G)=[]:=rfl
 refine ⟨k,nm,t,f0,a,b,c,rd0,by rw [hr0]; rfl,⟨0,⟨by decide,by omega⟩,by (repeat' (first | exact trivial | exact rfl | assumption | apply And.intro))⟩,?_⟩
 rintro x ⟨x0,x1⟩
 refine csx (fun hx=>cd1 (by omega) ?_) (fun hx=>?_)
 ·obtain ⟨k2,nm2,t2,f2,a2,b2,c2,rd,co2,ar2,hr,hrd⟩:=h.fr x.toNat (by omega)
  have htk:=take_snoc (G:=G) (i:=x.toNat) (by omega)
  have hps:plF (G.take (x.toNat+1)) [f0,a,b,c]=(plF (G.take x.toNat) [f0,a,b,c]||!(decide (f2=f0)&&(decide (a2=a)&&(decide (b2=b)&&(decide (c2=c)&&true))))):=by
   rw [htk,plF_snoc,hr]
   congr 1
   rw [Bool.eq_iff_iff]
   simp [itA,itPl]
  refine ⟨k2,nm2,t2,f2,a2,b2,c2,rd,co2,ar2,by rw [hr]; rfl,csplit (fun hp=>⟨(),⟨trivial⟩,?_⟩) (fun hp=>⟨(),⟨trivial⟩,?_⟩),?_⟩
  ·rw [hps,hp,Bool.true_or]
   (repeat' (first | exact trivial | exact rfl | assumption | apply And.intro))
  ·rw [hps,hp,Bool.false_or]
   (repeat' (first | exact trivial | exact rfl | assumption | apply And.intro))
  clear hps
  rintro _ _
  have hrdE:rd=itRd (G.getD x.toNat []):=by rw [hr]; rfl
  have z0:mgP2 G rd x 0=rdsF (G.take x.toNat):=by unfold mgP2; simp
  refine ⟨⟨0,⟨⟨x0,hx⟩,hrdE,by decide,by omega⟩,by rw [z0]; (repeat' (first | exact trivial | exact rfl | assumption | apply And.intro))⟩,?_⟩
  intro q m2
  have q0:=m2.flo
  have q1:=m2.fhi
  have hlen:=mgP2_len h m2
  have lrd:=hrd.fl
  refine csx (fun hq=>cd1 (by omega) ?_) (fun hq=>cdI (by omega) ⟨x+1,⟨by omega,by omega⟩,by simp only [u9,mg6]; omega,?_⟩)
  ·obtain ⟨e,v,he,hb,_⟩:=hrd.fr q.toNat (by omega)
   have hm2:Mg2 G rd x (q+1):=⟨m2.fi,m2.fr,by omega,by omega⟩
   have hms:(mg10 G rd f false k t f0 a b c nm rd0 x).m (q+1) < (mg10 G rd f false k t f0 a b c nm rd0 x).m q:=by simp only [mg10]; omega
   refine ⟨e,v,by rw [he]; rfl,⟨e,⟨m2,hq,he,hb⟩,by (repeat' (first | exact trivial | exact rfl | assumption | apply And.intro))⟩,fun e' hm=>?_,?_,?_,?_,?_,?_,?_,?_,?_,?_,?_,?_,trivial⟩
   ·have:=hm.fb; omega
   ·intro hm
    have hP:=mgP2_snoc (G:=G) (i:=x) m2.flo hm.fk hm.fe
    refine csplit (fun hb=>cd1 hlen (cdI (by omega) ⟨q+1,hm2,hms,?_⟩)) (fun hb=>csplit (fun hh=>cd1 hlen (cdI (by omega) ⟨q+1,hm2,hms,?_⟩)) (fun hh=>cd1 hlen (cdI (by omega) ⟨q+1,hm2,hms,?_⟩)))
    ·try unfold b9
     rw [hP,bdP_ne (mgP2 G rd x q) 1 v 2 (by decide),bdP_ne (mgP2 G rd x q) 1 v 3 (by decide),bdP_ne (mgP2 G rd x q) 1 v 4 (by decide),bdP_ne (mgP2 G rd x q) 1 v 5 (by decide),bdP_ne (mgP2 G rd x q) 1 v 6 (by decide),bdP_ne (mgP2 G rd x q) 1 v 7 (by decide),bdP_ne (mgP2 G rd x q) 1 v 8 (by decide),bdP_ne (mgP2 G rd x q) 1 v 9 (by decide),bdP_ne (mgP2 G rd x q) 1 v 10 (by decide),bdP_ne (mgP2 G rd x q) 1 v 11 (by decide),bdP_same (mgP2 G rd x q) 1 v,vm_sn,hb,Bool.true_or]
     (repeat' (first | exact trivial | exact rfl | assumption | apply And.intro))
    ·try unfold b9
     rw [hP,bdP_ne (mgP2 G rd x q) 1 v 2 (by decide),bdP_ne (mgP2 G rd x q) 1 v 3 (by decide),bdP_ne (mgP2 G rd x q) 1 v 4 (by decide),bdP_ne (mgP2 G rd x q) 1 v 5 (by decide),bdP_ne (mgP2 G rd x q) 1 v 6 (by decide),bdP_ne (mgP2 G rd x q) 1 v 7 (by decide),bdP_ne (mgP2 G rd x q) 1 v 8 (by decide),bdP_ne (mgP2 G rd x q) 1 v 9 (by decide),bdP_ne (mgP2 G rd x q) 1 v 10 (by decide),bdP_ne (mgP2 G rd x q) 1 v 11 (by decide),bdP_same (mgP2 G rd x q) 1 v,vm_sn,hb,hh,Bool.false_or,Bool.true_and]
     (repeat' (first | exact trivial | exact rfl | assumption | apply And.intro))
    ·try unfold b9
     rw [hP,bdP_ne (mgP2 G rd x q) 1 v 2 (by decide),bdP_ne (mgP2 G rd x q) 1 v 3 (by decide),bdP_ne (mgP2 G rd x q) 1 v 4 (by decide),bdP_ne (mgP2 G rd x q) 1 v 5 (by decide),bdP_ne (mgP2 G rd x q) 1 v 6 (by decide),bdP_ne (mgP2 G rd x q) 1 v 7 (by decide),bdP_ne (mgP2 G rd x q) 1 v 8 (by decide),bdP_ne (mgP2 G rd x q) 1 v 9 (by decide),bdP_ne (mgP2 G rd x q) 1 v 10 (by decide),bdP_ne (mgP2 G rd x q) 1 v 11 (by decide),bdP_same (mgP2 G rd x q) 1 v,vm_sn,hb,hh,Bool.false_or,Bool.false_and]
     (repeat' (first | exact trivial | exact rfl | assumption | apply And.intro))
   ·intro hm
    have hP:=mgP2_snoc (G:=G) (i:=x) m2.flo hm.fk hm.fe
    refine csplit (fun hb=>cd1 hlen (cdI (by omega) ⟨q+1,hm2,hms,?_⟩)) (fun hb=>csplit (fun hh=>cd1 hlen (cdI (by omega) ⟨q+1,hm2,hms,?_⟩)) (fun hh=>cd1 hlen (cdI (by omega) ⟨q+1,hm2,hms,?_⟩)))
    ·try unfold b9
     rw [hP,bdP_ne (mgP2 G rd x q) 2 v 1 (by decide),bdP_ne (mgP2 G rd x q) 2 v 3 (by decide),bdP_ne (mgP2 G rd x q) 2 v 4 (by decide),bdP_ne (mgP2 G rd x q) 2 v 5 (by decide),bdP_ne (mgP2 G rd x q) 2 v 6 (by decide),bdP_ne (mgP2 G rd x q) 2 v 7 (by decide),bdP_ne (mgP2 G rd x q) 2 v 8 (by decide),bdP_ne (mgP2 G rd x q) 2 v 9 (by decide),bdP_ne (mgP2 G rd x q) 2 v 10 (by decide),bdP_ne (mgP2 G rd x q) 2 v 11 (by decide),bdP_same (mgP2 G rd x q) 2 v,vm_sn,hb,Bool.true_or]
     (repeat' (first | exact trivial | exact rfl | assumption | apply And.intro))
    ·try unfold b9
     rw [hP,bdP_ne (mgP2 G rd x q) 2 v 1 (by decide),bdP_ne (mgP2 G rd x q) 2 v 3 (by decide),bdP_ne (mgP2 G rd x q) 2 v 4 (by decide),bdP_ne (mgP2 G rd x q) 2 v 5 (by decide),bdP_ne (mgP2 G rd x q) 2 v 6 (by decide),bdP_ne (mgP2 G rd x q) 2 v 7 (by decide),bdP_ne (mgP2 G rd x q) 2 v 8 (by decide),bdP_ne (mgP2 G rd x q) 2 v 9 (by decide),bdP_ne (mgP2 G rd x q) 2 v 10 (by decide),bdP_ne (mgP2 G rd x q) 2 v 11 (by decide),bdP_same (mgP2 G rd x q) 2 v,vm_sn,hb,hh,Bool.false_or,Bool.true_and]
     (repeat' (first | exact trivial | exact rfl | assumption | apply And.intro))
    ·try unfold b9
     rw [hP,bdP_ne (mgP2 G rd x q) 2 v 1 (by decide),bdP_ne (mgP2 G rd x q) 2 v 3 (by decide),bdP_ne (mgP2 G rd x q) 2 v 4 (by decide),bdP_ne (mgP2 G rd x q) 2 v 5 (by decide),bdP_ne (mgP2 G rd x q) 2 v 6 (by decide),bdP_ne (mgP2 G rd x q) 2 v 7 (by decide),bdP_ne (mgP2 G rd x q) 2 v 8 (by decide),bdP_ne (mgP2 G rd x q) 2 v 9 (by decide),bdP_ne (mgP2 G rd x q) 2 v 10 (by decide),bdP_ne (mgP2 G rd x q) 2 v 11 (by decide),bdP_same (mgP2 G rd x q) 2 v,vm_sn,hb,hh,Bool.false_or,Bool.false_and]
     (repeat' (first | exact trivial | exact rfl | assumption | apply And.intro))
   ·intro hm
    have hP:=mgP2_snoc (G:=G) (i:=x) m2.flo hm.fk hm.fe
    refine csplit (fun hb=>cd1 hlen (cdI (by omega) ⟨q+1,hm2,hms,?_⟩)) (fun hb=>csplit (fun hh=>cd1 hlen (cdI (by omega) ⟨q+1,hm2,hms,?_⟩)) (fun hh=>cd1 hlen (cdI (by omega) ⟨q+1,hm2,hms,?_⟩)))
    ·try unfold b9
     rw [hP,bdP_ne (mgP2 G rd x q) 3 v 1 (by decide),bdP_ne (mgP2 G rd x q) 3 v 2 (by decide),bdP_ne (mgP2 G rd x q) 3 v 4 (by decide),bdP_ne (mgP2 G rd x q) 3 v 5 (by decide),bdP_ne (mgP2 G rd x q) 3 v 6 (by decide),bdP_ne (mgP2 G rd x q) 3 v 7 (by decide),bdP_ne (mgP2 G rd x q) 3 v 8 (by decide),bdP_ne (mgP2 G rd x q) 3 v 9 (by decide),bdP_ne (mgP2 G rd x q) 3 v 10 (by decide),bdP_ne (mgP2 G rd x q) 3 v 11 (by decide),bdP_same (mgP2 G rd x q) 3 v,vm_sn,hb,Bool.true_or]
     (repeat' (first | exact trivial | exact rfl | assumption | apply And.intro))
    ·try unfold b9
     rw [hP,bdP_ne (mgP2 G rd x q) 3 v 1 (by decide),bdP_ne (mgP2 G rd x q) 3 v 2 (by decide),bdP_ne (mgP2 G rd x q) 3 v 4 (by decide),bdP_ne (mgP2 G rd x q) 3 v 5 (by decide),bdP_ne (mgP2 G rd x q) 3 v 6 (by decide),bdP_ne (mgP2 G rd x q) 3 v 7 (by decide),bdP_ne (mgP2 G rd x q) 3 v 8 (by decide),bdP_ne (mgP2 G rd x q) 3 v 9 (by decide),bdP_ne (mgP2 G rd x q) 3 v 10 (by decide),bdP_ne (mgP2 G rd x q) 3 v 11 (by decide),bdP_same (mgP2 G rd x q) 3 v,vm_sn,hb,hh,Bool.false_or,Bool.true_and]
     (repeat' (first | exact trivial | exact rfl | assumption | apply And.intro))
    ·try unfold b9
     rw [hP,bdP_ne (mgP2 G rd x q) 3 v 1 (by decide),bdP_ne (mgP2 G rd x q) 3 v 2 (by decide),bdP_ne (mgP2 G rd x q) 3 v 4 (by decide),bdP_ne (mgP2 G rd x q) 3 v 5 (by decide),bdP_ne (mgP2 G rd x q) 3 v 6 (by decide),bdP_ne (mgP2 G rd x q) 3 v 7 (by decide),bdP_ne (mgP2 G rd x q) 3 v 8 (by decide),bdP_ne (mgP2 G rd x q) 3 v 9 (by decide),bdP_ne (mgP2 G rd x q) 3 v 10 (by decide),bdP_ne (mgP2 G rd x q) 3 v 11 (by decide),bdP_same (mgP2 G rd x q) 3 v,vm_sn,hb,hh,Bool.false_or,Bool.false_and]
     (repeat' (first | exact trivial | exact rfl | assumption | apply And.intro))
   ·intro hm
    have hP:=mgP2_snoc (G:=G) (i:=x) m2.flo hm.fk hm.fe
    refine csplit (fun hb=>cd1 hlen (cdI (by omega) ⟨q+1,hm2,hms,?_⟩)) (fun hb=>csplit (fun hh=>cd1 hlen (cdI (by omega) ⟨q+1,hm2,hms,?_⟩)) (fun hh=>cd1 hlen (cdI (by omega) ⟨q+1,hm2,hms,?_⟩)))
    ·try unfold b9
     rw [hP,bdP_ne (mgP2 G rd x q) 4 v 1 (by decide),bdP_ne (mgP2 G rd x q) 4 v 2 (by decide),bdP_ne (mgP2 G rd x q) 4 v 3 (by decide),bdP_ne (mgP2 G rd x q) 4 v 5 (by decide),bdP_ne (mgP2 G rd x q) 4 v 6 (by decide),bdP_ne (mgP2 G rd x q) 4 v 7 (by decide),bdP_ne (mgP2 G rd x q) 4 v 8 (by decide),bdP_ne (mgP2 G rd x q) 4 v 9 (by decide),bdP_ne (mgP2 G rd x q) 4 v 10 (by decide),bdP_ne (mgP2 G rd x q) 4 v 11 (by decide),bdP_same (mgP2 G rd x q) 4 v,vm_sn,hb,Bool.true_or]
     (repeat' (first | exact trivial | exact rfl | assumption | apply And.intro))
    ·try unfold b9
     rw [hP,bdP_ne (mgP2 G rd x q) 4 v 1 (by decide),bdP_ne (mgP2 G rd x q) 4 v 2 (by decide),bdP_ne (mgP2 G rd x q) 4 v 3 (by decide),bdP_ne (mgP2 G rd x q) 4 v 5 (by decide),bdP_ne (mgP2 G rd x q) 4 v 6 (by decide),bdP_ne (mgP2 G rd x q) 4 v 7 (by decide),bdP_ne (mgP2 G rd x q) 4 v 8 (by decide),bdP_ne (mgP2 G rd x q) 4 v 9 (by decide),bdP_ne (mgP2 G rd x q) 4 v 10 (by decide),bdP_ne (mgP2 G rd x q) 4 v 11 (by decide),bdP_same (mgP2 G rd x q) 4 v,vm_sn,hb,hh,Bool.false_or,Bool.true_and]
     (repeat' (first | exact trivial | exact rfl | assumption | apply And.intro))
    ·try unfold b9
     rw [hP,bdP_ne (mgP2 G rd x q) 4 v 1 (by decide),bdP_ne (mgP2 G rd x q) 4 v 2 (by decide),bdP_ne (mgP2 G rd x q) 4 v 3 (by decide),bdP_ne (mgP2 G rd x q) 4 v 5 (by decide),bdP_ne (mgP2 G rd x q) 4 v 6 (by decide),bdP_ne (mgP2 G rd x q) 4 v 7 (by decide),bdP_ne (mgP2 G rd x q) 4 v 8 (by decide),bdP_ne (mgP2 G rd x q) 4 v 9 (by decide),bdP_ne (mgP2 G rd x q) 4 v 10 (by decide),bdP_ne (mgP2 G rd x q) 4 v 11 (by decide),bdP_same (mgP2 G rd x q) 4 v,vm_sn,hb,hh,Bool.false_or,Bool.false_and]
     (repeat' (first | exact trivial | exact rfl | assumption | apply And.intro))
   ·intro hm
    have hP:=mgP2_snoc (G:=G) (i:=x) m2.flo hm.fk hm.fe
    refine csplit (fun hb=>cd1 hlen (cdI (by omega) ⟨q+1,hm2,hms,?_⟩)) (fun hb=>csplit (fun hh=>cd1 hlen (cdI (by omega) ⟨q+1,hm2,hms,?_⟩)) (fun hh=>cd1 hlen (cdI (by omega) ⟨q+1,hm2,hms,?_⟩)))
    ·try unfold b9
     rw [hP,bdP_ne (mgP2 G rd x q) 5 v 1 (by decide),bdP_ne (mgP2 G rd x q) 5 v 2 (by decide),bdP_ne (mgP2 G rd x q) 5 v 3 (by decide),bdP_ne (mgP2 G rd x q) 5 v 4 (by decide),bdP_ne (mgP2 G rd x q) 5 v 6 (by decide),bdP_ne (mgP2 G rd x q) 5 v 7 (by decide),bdP_ne (mgP2 G rd x q) 5 v 8 (by decide),bdP_ne (mgP2 G rd x q) 5 v 9 (by decide),bdP_ne (mgP2 G rd x q) 5 v 10 (by decide),bdP_ne (mgP2 G rd x q) 5 v 11 (by decide),bdP_same (mgP2 G rd x q) 5 v,vm_sn,hb,Bool.true_or]
     (repeat' (first | exact trivial | exact rfl | assumption | apply And.intro))
    ·try unfold b9
     rw [hP,bdP_ne (mgP2 G rd x q) 5 v 1 (by decide),bdP_ne (mgP2 G rd x q) 5 v 2 (by decide),bdP_ne (mgP2 G rd x q) 5 v 3 (by decide),bdP_ne (mgP2 G rd x q) 5 v 4 (by decide),bdP_ne (mgP2 G rd x q) 5 v 6 (by decide),bdP_ne (mgP2 G rd x q) 5 v 7 (by decide),bdP_ne (mgP2 G rd x q) 5 v 8 (by decide),bdP_ne (mgP2 G rd x q) 5 v 9 (by decide),bdP_ne (mgP2 G rd x q) 5 v 10 (by decide),bdP_ne (mgP2 G rd x q) 5 v 11 (by decide),bdP_same (mgP2 G rd x q) 5 v,vm_sn,hb,hh,Bool.false_or,Bool.true_and]
     (repeat' (first | exact trivial | exact rfl | assumption | apply And.intro))
    ·try unfold b9
     rw [hP,bdP_ne (mgP2 G rd x q) 5 v 1 (by decide),bdP_ne (mgP2 G rd x q) 5 v 2 (by decide),bdP_ne (mgP2 G rd x q) 5 v 3 (by decide),bdP_ne (mgP2 G rd x q) 5 v 4 (by decide),bdP_ne (mgP2 G rd x q) 5 v 6 (by decide),bdP_ne (mgP2 G rd x q) 5 v 7 (by decide),bdP_ne (mgP2 G rd x q) 5 v 8 (by decide),bdP_ne (mgP2 G rd x q) 5 v 9 (by decide),bdP_ne (mgP2 G rd x q) 5 v 10 (by decide),bdP_ne (mgP2 G rd x q) 5 v 11 (by decide),bdP_same (mgP2 G rd x q) 5 v,vm_sn,hb,hh,Bool.false_or,Bool.false_and]
     (repeat' (first | exact trivial | exact rfl | assumption | apply And.intro))
   ·intro hm
    have hP:=mgP2_snoc (G:=G) (i:=x) m2.flo hm.fk hm.fe
    refine csplit (fun hb=>cd1 hlen (cdI (by omega) ⟨q+1,hm2,hms,?_⟩)) (fun hb=>csplit (fun hh=>cd1 hlen (cdI (by omega) ⟨q+1,hm2,hms,?_⟩)) (fun hh=>cd1 hlen (cdI (by omega) ⟨q+1,hm2,hms,?_⟩)))
    ·try unfold b9
     rw [hP,bdP_ne (mgP2 G rd x q) 6 v 1 (by decide),bdP_ne (mgP2 G rd x q) 6 v 2 (by decide),bdP_ne (mgP2 G rd x q) 6 v 3 (by decide),bdP_ne (mgP2 G rd x q) 6 v 4 (by decide),bdP_ne (mgP2 G rd x q) 6 v 5 (by decide),bdP_ne (mgP2 G rd x q) 6 v 7 (by decide),bdP_ne (mgP2 G rd x q) 6 v 8 (by decide),bdP_ne (mgP2 G rd x q) 6 v 9 (by decide),bdP_ne (mgP2 G rd x q) 6 v 10 (by decide),bdP_ne (mgP2 G rd x q) 6 v 11 (by decide),bdP_same (mgP2 G rd x q) 6 v,vm_sn,hb,Bool.true_or]
     (repeat' (first | exact trivial | exact rfl | assumption | apply And.intro))
    ·try unfold b9
     rw [hP,bdP_ne (mgP2 G rd x q) 6 v 1 (by decide),bdP_ne (mgP2 G rd x q) 6 v 2 (by decide),bdP_ne (mgP2 G rd x q) 6 v 3 (by decide),bdP_ne (mgP2 G rd x q) 6 v 4 (by decide),bdP_ne (mgP2 G rd x q) 6 v 5 (by decide),bdP_ne (mgP2 G rd x q) 6 v 7 (by decide),bdP_ne (mgP2 G rd x q) 6 v 8 (by decide),bdP_ne (mgP2 G rd x q) 6 v 9 (by decide),bdP_ne (mgP2 G rd x q) 6 v 10 (by decide),bdP_ne (mgP2 G rd x q) 6 v 11 (by decide),bdP_same (mgP2 G rd x q) 6 v,vm_sn,hb,hh,Bool.false_or,Bool.true_and]
     (repeat' (first | exact trivial | exact rfl | assumption | apply And.intro))
    ·try unfold b9
     rw [hP,bdP_ne (mgP2 G rd x q) 6 v 1 (by decide),bdP_ne (mgP2 G rd x q) 6 v 2 (by decide),bdP_ne (mgP2 G rd x q) 6 v 3 (by decide),bdP_ne (mgP2 G rd x q) 6 v 4 (by decide),bdP_ne (mgP2 G rd x q) 6 v 5 (by decide),bdP_ne (mgP2 G rd x q) 6 v 7 (by decide),bdP_ne (mgP2 G rd x q) 6 v 8 (by decide),bdP_ne (mgP2 G rd x q) 6 v 9 (by decide),bdP_ne (mgP2 G rd x q) 6 v 10 (by decide),bdP_ne (mgP2 G rd x q) 6 v 11 (by decide),bdP_same (mgP2 G rd x q) 6 v,vm_sn,hb,hh,Bool.false_or,Bool.false_and]
     (repeat' (first | exact trivial | exact rfl | assumption | apply And.intro))
   ·intro hm
    have hP:=mgP2_snoc (G:=G) (i:=x) m2.flo hm.fk hm.fe
    refine csplit (fun hb=>cd1 hlen (cdI (by omega) ⟨q+1,hm2,hms,?_⟩)) (fun hb=>csplit (fun hh=>cd1 hlen (cdI (by omega) ⟨q+1,hm2,hms,?_⟩)) (fun hh=>cd1 hlen (cdI (by omega) ⟨q+1,hm2,hms,?_⟩)))
    ·try unfold b9
     rw [hP,bdP_ne (mgP2 G rd x q) 7 v 1 (by decide),bdP_ne (mgP2 G rd x q) 7 v 2 (by decide),bdP_ne (mgP2 G rd x q) 7 v 3 (by decide),bdP_ne (mgP2 G rd x q) 7 v 4 (by decide),bdP_ne (mgP2 G rd x q) 7 v 5 (by decide),bdP_ne (mgP2 G rd x q) 7 v 6 (by decide),bdP_ne (mgP2 G rd x q) 7 v 8 (by decide),bdP_ne (mgP2 G rd x q) 7 v 9 (by decide),bdP_ne (mgP2 G rd x q) 7 v 10 (by decide),bdP_ne (mgP2 G rd x q) 7 v 11 (by decide),bdP_same (mgP2 G rd x q) 7 v,vm_sn,hb,Bool.true_or]
     (repeat' (first | exact trivial | exact rfl | assumption | apply And.intro))
    ·try unfold b9
     rw [hP,bdP_ne (mgP2 G rd x q) 7 v 1 (by decide),bdP_ne (mgP2 G rd x q) 7 v 2 (by decide),bdP_ne (mgP2 G rd x q) 7 v 3 (by decide),bdP_ne (mgP2 G rd x q) 7 v 4 (by decide),bdP_ne (mgP2 G rd x q) 7 v 5 (by decide),bdP_ne (mgP2 G rd x q) 7 v 6 (by decide),bdP_ne (mgP2 G rd x q) 7 v 8 (by decide),bdP_ne (mgP2 G rd x q) 7 v 9 (by decide),bdP_ne (mgP2 G rd x q) 7 v 10 (by decide),bdP_ne (mgP2 G rd x q) 7 v 11 (by decide),bdP_same (mgP2 G rd x q) 7 v,vm_sn,hb,hh,Bool.false_or,Bool.true_and]
     (repeat' (first | exact trivial | exact rfl | assumption | apply And.intro))
    ·try unfold b9
     rw [hP,bdP_ne (mgP2 G rd x q) 7 v 1 (by decide),bdP_ne (mgP2 G rd x q) 7 v 2 (by decide),bdP_ne (mgP2 G rd x q) 7 v 3 (by decide),bdP_ne (mgP2 G rd x q) 7 v 4 (by decide),bdP_ne (mgP2 G rd x q) 7 v 5 (by decide),bdP_ne (mgP2 G rd x q) 7 v 6 (by decide),bdP_ne (mgP2 G rd x q) 7 v 8 (by decide),bdP_ne (mgP2 G rd x q) 7 v 9 (by decide),bdP_ne (mgP2 G rd x q) 7 v 10 (by decide),bdP_ne (mgP2 G rd x q) 7 v 11 (by decide),bdP_same (mgP2 G rd x q) 7 v,vm_sn,hb,hh,Bool.false_or,Bool.false_and]
     (repeat' (first | exact trivial | exact rfl | assumption | apply And.intro))
   ·intro hm
    have hP:=mgP2_snoc (G:=G) (i:=x) m2.flo hm.fk hm.fe
    refine csplit (fun hb=>cd1 hlen (cdI (by omega) ⟨q+1,hm2,hms,?_⟩)) (fun hb=>csplit (fun hh=>cd1 hlen (cdI (by omega) ⟨q+1,hm2,hms,?_⟩)) (fun hh=>cd1 hlen (cdI (by omega) ⟨q+1,hm2,hms,?_⟩)))
    ·try unfold b9
     rw [hP,bdP_ne (mgP2 G rd x q) 8 v 1 (by decide),bdP_ne (mgP2 G rd x q) 8 v 2 (by decide),bdP_ne (mgP2 G rd x q) 8 v 3 (by decide),bdP_ne (mgP2 G rd x q) 8 v 4 (by decide),bdP_ne (mgP2 G rd x q) 8 v 5 (by decide),bdP_ne (mgP2 G rd x q) 8 v 6 (by decide),bdP_ne (mgP2 G rd x q) 8 v 7 (by decide),bdP_ne (mgP2 G rd x q) 8 v 9 (by decide),bdP_ne (mgP2 G rd x q) 8 v 10 (by decide),bdP_ne (mgP2 G rd x q) 8 v 11 (by decide),bdP_same (mgP2 G rd x q) 8 v,vm_sn,hb,Bool.true_or]
     (repeat' (first | exact trivial | exact rfl | assumption | apply And.intro))
    ·try unfold b9
     rw [hP,bdP_ne (mgP2 G rd x q) 8 v 1 (by decide),bdP_ne (mgP2 G rd x q) 8 v 2 (by decide),bdP_ne (mgP2 G rd x q) 8 v 3 (by decide),bdP_ne (mgP2 G rd x q) 8 v 4 (by decide),bdP_ne (mgP2 G rd x q) 8 v 5 (by decide),bdP_ne (mgP2 G rd x q) 8 v 6 (by decide),bdP_ne (mgP2 G rd x q) 8 v 7 (by decide),bdP_ne (mgP2 G rd x q) 8 v 9 (by decide),bdP_ne (mgP2 G rd x q) 8 v 10 (by decide),bdP_ne (mgP2 G rd x q) 8 v 11 (by decide),bdP_same (mgP2 G rd x q) 8 v,vm_sn,hb,hh,Bool.false_or,Bool.true_and]
     (repeat' (first | exact trivial | exact rfl | assumption | apply And.intro))
    ·try unfold b9
     rw [hP,bdP_ne (mgP2 G rd x q) 8 v 1 (by decide),bdP_ne (mgP2 G rd x q) 8 v 2 (by decide),bdP_ne (mgP2 G rd x q) 8 v 3 (by decide),bdP_ne (mgP2 G rd x q) 8 v 4 (by decide),bdP_ne (mgP2 G rd x q) 8 v 5 (by decide),bdP_ne (mgP2 G rd x q) 8 v 6 (by decide),bdP_ne (mgP2 G rd x q) 8 v 7 (by decide),bdP_ne (mgP2 G rd x q) 8 v 9 (by decide),bdP_ne (mgP2 G rd x q) 8 v 10 (by decide),bdP_ne (mgP2 G rd x q) 8 v 11 (by decide),bdP_same (mgP2 G rd x q) 8 v,vm_sn,hb,hh,Bool.false_or,Bool.false_and]
     (repeat' (first | exact trivial | exact rfl | assumption | apply And.intro))
   ·intro hm
    have hP:=mgP2_snoc (G:=G) (i:=x) m2.flo hm.fk hm.fe
    refine csplit (fun hb=>cd1 hlen (cdI (by omega) ⟨q+1,hm2,hms,?_⟩)) (fun hb=>csplit (fun hh=>cd1 hlen (cdI (by omega) ⟨q+1,hm2,hms,?_⟩)) (fun hh=>cd1 hlen (cdI (by omega) ⟨q+1,hm2,hms,?_⟩)))
    ·try unfold b9
     rw [hP,bdP_ne (mgP2 G rd x q) 9 v 1 (by decide),bdP_ne (mgP2 G rd x q) 9 v 2 (by decide),bdP_ne (mgP2 G rd x q) 9 v 3 (by decide),bdP_ne (mgP2 G rd x q) 9 v 4 (by decide),bdP_ne (mgP2 G rd x q) 9 v 5 (by decide),bdP_ne (mgP2 G rd x q) 9 v 6 (by decide),bdP_ne (mgP2 G rd x q) 9 v 7 (by decide),bdP_ne (mgP2 G rd x q) 9 v 8 (by decide),bdP_ne (mgP2 G rd x q) 9 v 10 (by decide),bdP_ne (mgP2 G rd x q) 9 v 11 (by decide),bdP_same (mgP2 G rd x q) 9 v,vm_sn,hb,Bool.true_or]
     (repeat' (first | exact trivial | exact rfl | assumption | apply And.intro))
    ·try unfold b9
     rw [hP,bdP_ne (mgP2 G rd x q) 9 v 1 (by decide),bdP_ne (mgP2 G rd x q) 9 v 2 (by decide),bdP_ne (mgP2 G rd x q) 9 v 3 (by decide),bdP_ne (mgP2 G rd x q) 9 v 4 (by decide),bdP_ne (mgP2 G rd x q) 9 v 5 (by decide),bdP_ne (mgP2 G rd x q) 9 v 6 (by decide),bdP_ne (mgP2 G rd x q) 9 v 7 (by decide),bdP_ne (mgP2 G rd x q) 9 v 8 (by decide),bdP_ne (mgP2 G rd x q) 9 v 10 (by decide),bdP_ne (mgP2 G rd x q) 9 v 11 (by decide),bdP_same (mgP2 G rd x q) 9 v,vm_sn,hb,hh,Bool.false_or,Bool.true_and]
     (repeat' (first | exact trivial | exact rfl | assumption | apply And.intro))
    ·try unfold b9
     rw [hP,bdP_ne (mgP2 G rd x q) 9 v 1 (by decide),bdP_ne (mgP2 G rd x q) 9 v 2 (by decide),bdP_ne (mgP2 G rd x q) 9 v 3 (by decide),bdP_ne (mgP2 G rd x q) 9 v 4 (by decide),bdP_ne (mgP2 G rd x q) 9 v 5 (by decide),bdP_ne (mgP2 G rd x q) 9 v 6 (by decide),bdP_ne (mgP2 G rd x q) 9 v 7 (by decide),bdP_ne (mgP2 G rd x q) 9 v 8 (by decide),bdP_ne (mgP2 G rd x q) 9 v 10 (by decide),bdP_ne (mgP2 G rd x q) 9 v 11 (by decide),bdP_same (mgP2 G rd x q) 9 v,vm_sn,hb,hh,Bool.false_or,Bool.false_and]
     (repeat' (first | exact trivial | exact rfl | assumption | apply And.intro))
   ·intro hm
    have hP:=mgP2_snoc (G:=G) (i:=x) m2.flo hm.fk hm.fe
    refine csplit (fun hb=>cd1 hlen (cdI (by omega) ⟨q+1,hm2,hms,?_⟩)) (fun hb=>csplit (fun hh=>cd1 hlen (cdI (by omega) ⟨q+1,hm2,hms,?_⟩)) (fun hh=>cd1 hlen (cdI (by omega) ⟨q+1,hm2,hms,?_⟩)))
    ·try unfold b9
     rw [hP,bdP_ne (mgP2 G rd x q) 10 v 1 (by decide),bdP_ne (mgP2 G rd x q) 10 v 2 (by decide),bdP_ne (mgP2 G rd x q) 10 v 3 (by decide),bdP_ne (mgP2 G rd x q) 10 v 4 (by decide),bdP_ne (mgP2 G rd x q) 10 v 5 (by decide),bdP_ne (mgP2 G rd x q) 10 v 6 (by decide),bdP_ne (mgP2 G rd x q) 10 v 7 (by decide),bdP_ne (mgP2 G rd x q) 10 v 8 (by decide),bdP_ne (mgP2 G rd x q) 10 v 9 (by decide),bdP_ne (mgP2 G rd x q) 10 v 11 (by decide),bdP_same (mgP2 G rd x q) 10 v,vm_sn,hb,Bool.true_or]
     (repeat' (first | exact trivial | exact rfl | assumption | apply And.intro))
    ·try unfold b9
     rw [hP,bdP_ne (mgP2 G rd x q) 10 v 1 (by decide),bdP_ne (mgP2 G rd x q) 10 v 2 (by decide),bdP_ne (mgP2 G rd x q) 10 v 3 (by decide),bdP_ne (mgP2 G rd x q) 10 v 4 (by decide),bdP_ne (mgP2 G rd x q) 10 v 5 (by decide),bdP_ne (mgP2 G rd x q) 10 v 6 (by decide),bdP_ne (mgP2 G rd x q) 10 v 7 (by decide),bdP_ne (mgP2 G rd x q) 10 v 8 (by decide),bdP_ne (mgP2 G rd x q) 10 v 9 (by decide),bdP_ne (mgP2 G rd x q) 10 v 11 (by decide),bdP_same (mgP2 G rd x q) 10 v,vm_sn,hb,hh,Bool.false_or,Bool.true_and]
     (repeat' (first | exact trivial | exact rfl | assumption | apply And.intro))
    ·try unfold b9
     rw [hP,bdP_ne (mgP2 G rd x q) 10 v 1 (by decide),bdP_ne (mgP2 G rd x q) 10 v 2 (by decide),bdP_ne (mgP2 G rd x q) 10 v 3 (by decide),bdP_ne (mgP2 G rd x q) 10 v 4 (by decide),bdP_ne (mgP2 G rd x q) 10 v 5 (by decide),bdP_ne (mgP2 G rd x q) 10 v 6 (by decide),bdP_ne (mgP2 G rd x q) 10 v 7 (by decide),bdP_ne (mgP2 G rd x q) 10 v 8 (by decide),bdP_ne (mgP2 G rd x q) 10 v 9 (by decide),bdP_ne (mgP2 G rd x q) 10 v 11 (by decide),bdP_same (mgP2 G rd x q) 10 v,vm_sn,hb,hh,Bool.false_or,Bool.false_and]
     (repeat' (first | exact trivial | exact rfl | assumption | apply And.intro))
   ·intro hm
    have hP:=mgP2_snoc (G:=G) (i:=x) m2.flo hm.fk hm.fe
    refine csplit (fun hb=>cd1 hlen (cdI (by omega) ⟨q+1,hm2,hms,?_⟩)) (fun hb=>csplit (fun hh=>cd1 hlen (cdI (by omega) ⟨q+1,hm2,hms,?_⟩)) (fun hh=>cd1 hlen (cdI (by omega) ⟨q+1,hm2,hms,?_⟩)))
    ·try unfold b9
     rw [hP,bdP_ne (mgP2 G rd x q) 11 v 1 (by decide),bdP_ne (mgP2 G rd x q) 11 v 2 (by decide),bdP_ne (mgP2 G rd x q) 11 v 3 (by decide),bdP_ne (mgP2 G rd x q) 11 v 4 (by decide),bdP_ne (mgP2 G rd x q) 11 v 5 (by decide),bdP_ne (mgP2 G rd x q) 11 v 6 (by decide),bdP_ne (mgP2 G rd x q) 11 v 7 (by decide),bdP_ne (mgP2 G rd x q) 11 v 8 (by decide),bdP_ne (mgP2 G rd x q) 11 v 9 (by decide),bdP_ne (mgP2 G rd x q) 11 v 10 (by decide),bdP_same (mgP2 G rd x q) 11 v,vm_sn,hb,Bool.true_or]
     (repeat' (first | exact trivial | exact rfl | assumption | apply And.intro))
    ·try unfold b9
     rw [hP,bdP_ne (mgP2 G rd x q) 11 v 1 (by decide),bdP_ne (mgP2 G rd x q) 11 v 2 (by decide),bdP_ne (mgP2 G rd x q) 11 v 3 (by decide),bdP_ne (mgP2 G rd x q) 11 v 4 (by decide),bdP_ne (mgP2 G rd x q) 11 v 5 (by decide),bdP_ne (mgP2 G rd x q) 11 v 6 (by decide),bdP_ne (mgP2 G rd x q) 11 v 7 (by decide),bdP_ne (mgP2 G rd x q) 11 v 8 (by decide),bdP_ne (mgP2 G rd x q) 11 v 9 (by decide),bdP_ne (mgP2 G rd x q) 11 v 10 (by decide),bdP_same (mgP2 G rd x q) 11 v,vm_sn,hb,hh,Bool.false_or,Bool.true_and]
     (repeat' (first | exact trivial | exact rfl | assumption | apply And.intro))
    ·try unfold b9
     rw [hP,bdP_ne (mgP2 G rd x q) 11 v 1 (by decide),bdP_ne (mgP2 G rd x q) 11 v 2 (by decide),bdP_ne (mgP2 G rd x q) 11 v 3 (by decide),bdP_ne (mgP2 G rd x q) 11 v 4 (by decide),bdP_ne (mgP2 G rd x q) 11 v 5 (by decide),bdP_ne (mgP2 G rd x q) 11 v 6 (by decide),bdP_ne (mgP2 G rd x q) 11 v 7 (by decide),bdP_ne (mgP2 G rd x q) 11 v 8 (by decide),bdP_ne (mgP2 G rd x q) 11 v 9 (by decide),bdP_ne (mgP2 G rd x q) 11 v 10 (by decide),bdP_same (mgP2 G rd x q) 11 v,vm_sn,hb,hh,Bool.false_or,Bool.false_and]
     (repeat' (first | exact trivial | exact rfl | assumption | apply And.intro))
  ·have z1:mgP2 G rd x q=rdsF (G.take (x.toNat+1)):=by
    unfold mgP2
    rw [htk,rdsF_snoc,← hrdE,List.take_of_length_le (l:=rd) (by omega)]
   rw [z1,show (x+1).toNat=x.toNat+1 by omega]
   (repeat' (first | exact trivial | exact rfl | assumption | apply And.intro))
 ·have hG:G.take x.toNat=G:=List.take_of_length_le (by omega)
  rw [hG]
  refine ⟨csplit (fun hp=>⟨(),⟨trivial⟩,?_⟩) (fun hp=>⟨(),⟨trivial⟩,?_⟩),?_⟩
  ·have:∀ n:Int,0=mgI (plF G [f0,a,b,c]) n:=fun n=>by unfold mgI; rw [if_pos hp]
   rw [← this,← this,← this,← this]
   (repeat' (first | exact trivial | exact rfl | assumption | apply And.intro))
  ·have:∀ n:Int,n=mgI (plF G [f0,a,b,c]) n:=fun n=>by unfold mgI; rw [if_neg (by rw [hp]; simp)]
   rw [← this,← this,← this,← this]
   (repeat' (first | exact trivial | exact rfl | assumption | apply And.intro))
  rintro _ _
  refine ⟨⟨0,⟨by decide,by decide⟩,by (repeat' (first | exact trivial | exact rfl | assumption | apply And.intro))⟩,?_⟩
  rintro x ⟨x0,x1⟩
  refine ⟨csx (fun hx=>⟨x,⟨rfl,x0,hx⟩,by (repeat' (first | exact trivial | exact rfl | assumption | apply And.intro))⟩) (fun hx=>cd1 rfl (cd1 rfl ?_)),fun n hm=>?_,?_,?_,?_,?_,?_,?_,?_,?_,?_,?_,?_,?_,trivial⟩
  ·have e12:x.toNat=12:=by omega
   rw [e12]
   unfold gK gN gT gQ gR gC
   rw [hh0]
   (repeat' (first | exact trivial | exact rfl | assumption | apply And.intro))
  ·have:=hm.flo; have:=hm.fhi; omega
  ·intro hm
   have en:=hm.fe
   have lc:=ctN_len G 0
   have lr:=rdN_len G 0
   refine csplit (fun hb=>⟨1,⟨by decide,by decide⟩,by simp only [u9,mg20]; omega,?_⟩) (fun hb=>csplit (fun hh=>⟨1,⟨by decide,by decide⟩,by simp only [u9,mg20]; omega,?_⟩) (fun hh=>⟨1,⟨by decide,by decide⟩,by simp only [u9,mg20]; omega,?_⟩))
   ·obtain ⟨c1,c2⟩:=ct_t (G:=G) (n:=0) (by unfold badC; rw [if_pos rfl,hhd]; exact hb)
    rw [show Int.toNat (1:Int)=1 from rfl,c1,c2]
    (repeat' (first | exact trivial | exact rfl | assumption | apply And.intro))
   ·obtain ⟨c1,c2⟩:=ct_h (G:=G) (n:=0) (by unfold badC; rw [if_pos rfl,hhd]; exact hb) hh
    rw [show Int.toNat (1:Int)=1 from rfl,c1,c2]
    (repeat' (first | exact trivial | exact rfl | assumption | apply And.intro))
   ·obtain ⟨c1,c2⟩:=ct_f (G:=G) (n:=0) (by unfold badC; rw [if_pos rfl,hhd]; exact hb) hh
    rw [show Int.toNat (1:Int)=1 from rfl,c1,c2]
    (repeat' (first | exact trivial | exact rfl | assumption | apply And.intro))
  ·intro hm
   have en:=hm.fe
   have lc:=ctN_len G 1
   have lr:=rdN_len G 1
   refine csplit (fun hb=>cd1 ⟨rfl,by omega,by omega⟩ ⟨2,⟨by decide,by decide⟩,by simp only [u9,mg20]; omega,?_⟩) (fun hb=>csplit (fun hh=>cd1 ⟨rfl,by simp only [List.length_cons,List.length_nil]; omega,by simp only [List.length_cons,List.length_nil]; omega⟩ ⟨2,⟨by decide,by decide⟩,by simp only [u9,mg20]; omega,?_⟩) (fun hh=>⟨2,⟨by decide,by decide⟩,by simp only [u9,mg20]; omega,?_⟩))
   ·obtain ⟨c1,c2⟩:=ct_t (G:=G) (n:=1) (by unfold badC; rw [if_neg (by decide)]; exact hb)
    rw [show Int.toNat (2:Int)=2 from rfl,c1,c2]
    simp only [List.length_append,List.length_singleton]
    (repeat' (first | exact trivial | exact rfl | assumption | apply And.intro))
   ·obtain ⟨c1,c2⟩:=ct_h (G:=G) (n:=1) (by unfold badC; rw [if_neg (by decide)]; exact hb) hh
    rw [show Int.toNat (2:Int)=2 from rfl,c1,c2]
    simp only [List.length_append,List.length_singleton]
    (repeat' (first | exact trivial | exact rfl | assumption | apply And.intro))
   ·obtain ⟨c1,c2⟩:=ct_f (G:=G) (n:=1) (by unfold badC; rw [if_neg (by decide)]; exact hb) hh
    rw [show Int.toNat (2:Int)=2 from rfl,c1,c2]
    (repeat' (first | exact trivial | exact rfl | assumption | apply And.intro))
  ·intro hm
   have en:=hm.fe
   have lc:=ctN_len G 2
   have lr:=rdN_len G 2
   refine csplit (fun hb=>cd1 ⟨rfl,by omega,by omega⟩ ⟨3,⟨by decide,by decide⟩,by simp only [u9,mg20]; omega,?_⟩) (fun hb=>csplit (fun hh=>cd1 ⟨rfl,by simp only [List.length_cons,List.length_nil]; omega,by simp only [List.length_cons,List.length_nil]; omega⟩ ⟨3,⟨by decide,by decide⟩,by simp only [u9,mg20]; omega,?_⟩) (fun hh=>⟨3,⟨by decide,by decide⟩,by simp only [u9,mg20]; omega,?_⟩))
   ·obtain ⟨c1,c2⟩:=ct_t (G:=G) (n:=2) (by unfold badC; rw [if_neg (by decide)]; exact hb)
    rw [show Int.toNat (3:Int)=3 from rfl,c1,c2]
    simp only [List.length_append,List.length_singleton]
    (repeat' (first | exact trivial | exact rfl | assumption | apply And.intro))
   ·obtain ⟨c1,c2⟩:=ct_h (G:=G) (n:=2) (by unfold badC; rw [if_neg (by decide)]; exact hb) hh
    rw [show Int.toNat (3:Int)=3 from rfl,c1,c2]
    simp only [List.length_append,List.length_singleton]
    (repeat' (first | exact trivial | exact rfl | assumption | apply And.intro))
   ·obtain ⟨c1,c2⟩:=ct_f (G:=G) (n:=2) (by unfold badC; rw [if_neg (by decide)]; exact hb) hh
    rw [show Int.toNat (3:Int)=3 from rfl,c1,c2]
    (repeat' (first | exact trivial | exact rfl | assumption | apply And.intro))
  ·intro hm
   have en:=hm.fe
   have lc:=ctN_len G 3
   have lr:=rdN_len G 3
   refine csplit (fun hb=>cd1 ⟨rfl,by omega,by omega⟩ ⟨4,⟨by decide,by decide⟩,by simp only [u9,mg20]; omega,?_⟩) (fun hb=>csplit (fun hh=>cd1 ⟨rfl,by simp only [List.length_cons,List.length_nil]; omega,by simp only [List.length_cons,List.length_nil]; omega⟩ ⟨4,⟨by decide,by decide⟩,by simp only [u9,mg20]; omega,?_⟩) (fun hh=>⟨4,⟨by decide,by decide⟩,by simp only [u9,mg20]; omega,?_⟩))
   ·obtain ⟨c1,c2⟩:=ct_t (G:=G) (n:=3) (by unfold badC; rw [if_neg (by decide)]; exact hb)
    rw [show Int.toNat (4:Int)=4 from rfl,c1,c2]
    simp only [List.length_append,List.length_singleton]
    (repeat' (first | exact trivial | exact rfl | assumption | apply And.intro))
   ·obtain ⟨c1,c2⟩:=ct_h (G:=G) (n:=3) (by unfold badC; rw [if_neg (by decide)]; exact hb) hh
    rw [show Int.toNat (4:Int)=4 from rfl,c1,c2]
    simp only [List.length_append,List.length_singleton]
    (repeat' (first | exact trivial | exact rfl | assumption | apply And.intro))
   ·obtain ⟨c1,c2⟩:=ct_f (G:=G) (n:=3) (by unfold badC; rw [if_neg (by decide)]; exact hb) hh
    rw [show Int.toNat (4:Int)=4 from rfl,c1,c2]
    (repeat' (first | exact trivial | exact rfl | assumption | apply And.intro))
  ·intro hm
   have en:=hm.fe
   have lc:=ctN_len G 4
   have lr:=rdN_len G 4
   refine csplit (fun hb=>cd1 ⟨rfl,by omega,by omega⟩ ⟨5,⟨by decide,by decide⟩,by simp only [u9,mg20]; omega,?_⟩) (fun hb=>csplit (fun hh=>cd1 ⟨rfl,by simp only [List.length_cons,List.length_nil]; omega,by simp only [List.length_cons,List.length_nil]; omega⟩ ⟨5,⟨by decide,by decide⟩,by simp only [u9,mg20]; omega,?_⟩) (fun hh=>⟨5,⟨by decide,by decide⟩,by simp only [u9,mg20]; omega,?_⟩))
   ·obtain ⟨c1,c2⟩:=ct_t (G:=G) (n:=4) (by unfold badC; rw [if_neg (by decide)]; exact hb)
    rw [show Int.toNat (5:Int)=5 from rfl,c1,c2]
    simp only [List.length_append,List.length_singleton]
    (repeat' (first | exact trivial | exact rfl | assumption | apply And.intro))
   ·obtain ⟨c1,c2⟩:=ct_h (G:=G) (n:=4) (by unfold badC; rw [if_neg (by decide)]; exact hb) hh
    rw [show Int.toNat (5:Int)=5 from rfl,c1,c2]
    simp only [List.length_append,List.length_singleton]
    (repeat' (first | exact trivial | exact rfl | assumption | apply And.intro))
   ·obtain ⟨c1,c2⟩:=ct_f (G:=G) (n:=4) (by unfold badC; rw [if_neg (by decide)]; exact hb) hh
    rw [show Int.toNat (5:Int)=5 from rfl,c1,c2]
    (repeat' (first | exact trivial | exact rfl | assumption | apply And.intro))
  ·intro hm
   have en:=hm.fe
   have lc:=ctN_len G 5
   have lr:=rdN_len G 5
   refine csplit (fun hb=>cd1 ⟨rfl,by omega,by omega⟩ ⟨6,⟨by decide,by decide⟩,by simp only [u9,mg20]; omega,?_⟩) (fun hb=>csplit (fun hh=>cd1 ⟨rfl,by simp only [List.length_cons,List.length_nil]; omega,by simp only [List.length_cons,List.length_nil]; omega⟩ ⟨6,⟨by decide,by decide⟩,by simp only [u9,mg20]; omega,?_⟩) (fun hh=>⟨6,⟨by decide,by decide⟩,by simp only [u9,mg20]; omega,?_⟩))
   ·obtain ⟨c1,c2⟩:=ct_t (G:=G) (n:=5) (by unfold badC; rw [if_neg (by decide)]; exact hb)
    rw [show Int.toNat (6:Int)=6 from rfl,c1,c2]
    simp only [List.length_append,List.length_singleton]
    (repeat' (first | exact trivial | exact rfl | assumption | apply And.intro))
   ·obtain ⟨c1,c2⟩:=ct_h (G:=G) (n:=5) (by unfold badC; rw [if_neg (by decide)]; exact hb) hh
    rw [show Int.toNat (6:Int)=6 from rfl,c1,c2]
    simp only [List.length_append,List.length_singleton]
    (repeat' (first | exact trivial | exact rfl | assumption | apply And.intro))
   ·obtain ⟨c1,c2⟩:=ct_f (G:=G) (n:=5) (by unfold badC; rw [if_neg (by decide)]; exact hb) hh
    rw [show Int.toNat (6:Int)=6 from rfl,c1,c2]
    (repeat' (first | exact trivial | exact rfl | assumption | apply And.intro))
  ·intro hm
   have en:=hm.fe
   have lc:=ctN_len G 6
   have lr:=rdN_len G 6
   refine csplit (fun hb=>cd1 ⟨rfl,by omega,by omega⟩ ⟨7,⟨by decide,by decide⟩,by simp only [u9,mg20]; omega,?_⟩) (fun hb=>csplit (fun hh=>cd1 ⟨rfl,by simp only [List.length_cons,List.length_nil]; omega,by simp only [List.length_cons,List.length_nil]; omega⟩ ⟨7,⟨by decide,by decide⟩,by simp only [u9,mg20]; omega,?_⟩) (fun hh=>⟨7,⟨by decide,by decide⟩,by simp only [u9,mg20]; omega,?_⟩))
   ·obtain ⟨c1,c2⟩:=ct_t (G:=G) (n:=6) (by unfold badC; rw [if_neg (by decide)]; exact hb)
    rw [show Int.toNat (7:Int)=7 from rfl,c1,c2]
    simp only [List.length_append,List.length_singleton]
    (repeat' (first | exact trivial | exact rfl | assumption | apply And.intro))
   ·obtain ⟨c1,c2⟩:=ct_h (G:=G) (n:=6) (by unfold badC; rw [if_neg (by decide)]; exact hb) hh
    rw [show Int.toNat (7:Int)=7 from rfl,c1,c2]
    simp only [List.length_append,List.length_singleton]
    (repeat' (first | exact trivial | exact rfl | assumption | apply And.intro))
   ·obtain ⟨c1,c2⟩:=ct_f (G:=G) (n:=6) (by unfold badC; rw [if_neg (by decide)]; exact hb) hh
    rw [show Int.toNat (7:Int)=7 from rfl,c1,c2]
    (repeat' (first | exact trivial | exact rfl | assumption | apply And.intro))
  ·intro hm
   have en:=hm.fe
   have lc:=ctN_len G 7
   have lr:=rdN_len G 7
   refine csplit (fun hb=>cd1 ⟨rfl,by omega,by omega⟩ ⟨8,⟨by decide,by decide⟩,by simp only [u9,mg20]; omega,?_⟩) (fun hb=>csplit (fun hh=>cd1 ⟨rfl,by simp only [List.length_cons,List.length_nil]; omega,by simp only [List.length_cons,List.length_nil]; omega⟩ ⟨8,⟨by decide,by decide⟩,by simp only [u9,mg20]; omega,?_⟩) (fun hh=>⟨8,⟨by decide,by decide⟩,by simp only [u9,mg20]; omega,?_⟩))
   ·obtain ⟨c1,c2⟩:=ct_t (G:=G) (n:=7) (by unfold badC; rw [if_neg (by decide)]; exact hb)
    rw [show Int.toNat (8:Int)=8 from rfl,c1,c2]
    simp only [List.length_append,List.length_singleton]
    (repeat' (first | exact trivial | exact rfl | assumption | apply And.intro))
   ·obtain ⟨c1,c2⟩:=ct_h (G:=G) (n:=7) (by unfold badC; rw [if_neg (by decide)]; exact hb) hh
    rw [show Int.toNat (8:Int)=8 from rfl,c1,c2]
    simp only [List.length_append,List.length_singleton]
    (repeat' (first | exact trivial | exact rfl | assumption | apply And.intro))
   ·obtain ⟨c1,c2⟩:=ct_f (G:=G) (n:=7) (by unfold badC; rw [if_neg (by decide)]; exact hb) hh
    rw [show Int.toNat (8:Int)=8 from rfl,c1,c2]
    (repeat' (first | exact trivial | exact rfl | assumption | apply And.intro))
  ·intro hm
   have en:=hm.fe
   have lc:=ctN_len G 8
   have lr:=rdN_len G 8
   refine csplit (fun hb=>cd1 ⟨rfl,by omega,by omega⟩ ⟨9,⟨by decide,by decide⟩,by simp only [u9,mg20]; omega,?_⟩) (fun hb=>csplit (fun hh=>cd1 ⟨rfl,by simp only [List.length_cons,List.length_nil]; omega,by simp only [List.length_cons,List.length_nil]; omega⟩ ⟨9,⟨by decide,by decide⟩,by simp only [u9,mg20]; omega,?_⟩) (fun hh=>⟨9,⟨by decide,by decide⟩,by simp only [u9,mg20]; omega,?_⟩))
   ·obtain ⟨c1,c2⟩:=ct_t (G:=G) (n:=8) (by unfold badC; rw [if_neg (by decide)]; exact hb)
    rw [show Int.toNat (9:Int)=9 from rfl,c1,c2]
    simp only [List.length_append,List.length_singleton]
    (repeat' (first | exact trivial | exact rfl | assumption | apply And.intro))
   ·obtain ⟨c1,c2⟩:=ct_h (G:=G) (n:=8) (by unfold badC; rw [if_neg (by decide)]; exact hb) hh
    rw [show Int.toNat (9:Int)=9 from rfl,c1,c2]
    simp only [List.length_append,List.length_singleton]
    (repeat' (first | exact trivial | exact rfl | assumption | apply And.intro))
   ·obtain ⟨c1,c2⟩:=ct_f (G:=G) (n:=8) (by unfold badC; rw [if_neg (by decide)]; exact hb) hh
    rw [show Int.toNat (9:Int)=9 from rfl,c1,c2]
    (repeat' (first | exact trivial | exact rfl | assumption | apply And.intro))
  ·intro hm
   have en:=hm.fe
   have lc:=ctN_len G 9
   have lr:=rdN_len G 9
   refine csplit (fun hb=>cd1 ⟨rfl,by omega,by omega⟩ ⟨10,⟨by decide,by decide⟩,by simp only [u9,mg20]; omega,?_⟩) (fun hb=>csplit (fun hh=>cd1 ⟨rfl,by simp only [List.length_cons,List.length_nil]; omega,by simp only [List.length_cons,List.length_nil]; omega⟩ ⟨10,⟨by decide,by decide⟩,by simp only [u9,mg20]; omega,?_⟩) (fun hh=>⟨10,⟨by decide,by decide⟩,by simp only [u9,mg20]; omega,?_⟩))
   ·obtain ⟨c1,c2⟩:=ct_t (G:=G) (n:=9) (by unfold badC; rw [if_neg (by decide)]; exact hb)
    rw [show Int.toNat (10:Int)=10 from rfl,c1,c2]
    simp only [List.length_append,List.length_singleton]
    (repeat' (first | exact trivial | exact rfl | assumption | apply And.intro))
   ·obtain ⟨c1,c2⟩:=ct_h (G:=G) (n:=9) (by unfold badC; rw [if_neg (by decide)]; exact hb) hh
    rw [show Int.toNat (10:Int)=10 from rfl,c1,c2]
    simp only [List.length_append,List.length_singleton]
    (repeat' (first | exact trivial | exact rfl | assumption | apply And.intro))
   ·obtain ⟨c1,c2⟩:=ct_f (G:=G) (n:=9) (by unfold badC; rw [if_neg (by decide)]; exact hb) hh
    rw [show Int.toNat (10:Int)=10 from rfl,c1,c2]
    (repeat' (first | exact trivial | exact rfl | assumption | apply And.intro))
  ·intro hm
   have en:=hm.fe
   have lc:=ctN_len G 10
   have lr:=rdN_len G 10
   refine csplit (fun hb=>cd1 ⟨rfl,by omega,by omega⟩ ⟨11,⟨by decide,by decide⟩,by simp only [u9,mg20]; omega,?_⟩) (fun hb=>csplit (fun hh=>cd1 ⟨rfl,by simp only [List.length_cons,List.length_nil]; omega,by simp only [List.length_cons,List.length_nil]; omega⟩ ⟨11,⟨by decide,by decide⟩,by simp only [u9,mg20]; omega,?_⟩) (fun hh=>⟨11,⟨by decide,by decide⟩,by simp only [u9,mg20]; omega,?_⟩))
   ·obtain ⟨c1,c2⟩:=ct_t (G:=G) (n:=10) (by unfold badC; rw [if_neg (by decide)]; exact hb)
    rw [show Int.toNat (11:Int)=11 from rfl,c1,c2]
    simp only [List.length_append,List.length_singleton]
    (repeat' (first | exact trivial | exact rfl | assumption | apply And.intro))
   ·obtain ⟨c1,c2⟩:=ct_h (G:=G) (n:=10) (by unfold badC; rw [if_neg (by decide)]; exact hb) hh
    rw [show Int.toNat (11:Int)=11 from rfl,c1,c2]
    simp only [List.length_append,List.length_singleton]
    (repeat' (first | exact trivial | exact rfl | assumption | apply And.intro))
   ·obtain ⟨c1,c2⟩:=ct_f (G:=G) (n:=10) (by unfold badC; rw [if_neg (by decide)]; exact hb) hh
    rw [show Int.toNat (11:Int)=11 from rfl,c1,c2]
    (repeat' (first | exact trivial | exact rfl | assumption | apply And.intro))
  ·intro hm
   have en:=hm.fe
   have lc:=ctN_len G 11
   have lr:=rdN_len G 11
   refine csplit (fun hb=>cd1 ⟨rfl,by omega,by omega⟩ ⟨12,⟨by decide,by decide⟩,by simp only [u9,mg20]; omega,?_⟩) (fun hb=>csplit (fun hh=>cd1 ⟨rfl,by simp only [List.length_cons,List.length_nil]; omega,by simp only [List.length_cons,List.length_nil]; omega⟩ ⟨12,⟨by decide,by decide⟩,by simp only [u9,mg20]; omega,?_⟩) (fun hh=>⟨12,⟨by decide,by decide⟩,by simp only [u9,mg20]; omega,?_⟩))
   ·obtain ⟨c1,c2⟩:=ct_t (G:=G) (n:=11) (by unfold badC; rw [if_neg (by decide)]; exact hb)
    rw [show Int.toNat (12:Int)=12 from rfl,c1,c2]
    simp only [List.length_append,List.length_singleton]
    (repeat' (first | exact trivial | exact rfl | assumption | apply And.intro))
   ·obtain ⟨c1,c2⟩:=ct_h (G:=G) (n:=11) (by unfold badC; rw [if_neg (by decide)]; exact hb) hh
    rw [show Int.toNat (12:Int)=12 from rfl,c1,c2]
    simp only [List.length_append,List.length_singleton]
    (repeat' (first | exact trivial | exact rfl | assumption | apply And.intro))
   ·obtain ⟨c1,c2⟩:=ct_f (G:=G) (n:=11) (by unfold badC; rw [if_neg (by decide)]; exact hb) hh
    rw [show Int.toNat (12:Int)=12 from rfl,c1,c2]
    (repeat' (first | exact trivial | exact rfl | assumption | apply And.intro))
def mgd_S (gK:LLA→Int) (gN:LLA→ByteArray) (gT:LLA→Int) (gQ:LLA→Nat→Int) (gR:LLA→LLA) (gC:LLA→LLA):Prop:=∀ (gl:Glob) (G:List (List AV)) (f:Bool),MgP G→fnK Tryz.prog { glob:=gl,spec:=lk [],specH:=lk [],shape:=[20,39,58],slz:=[(20,[2]),(39,[2])],nowf:=true } { nt:=127,drop:=drp [(1,1966080),(2,8587837440),(3,8589934592),(7,824633720832),(8,2250700302057472),(9,6755399441055744),(11,432345564227567616),(12,73210515542534782976),(13,4835629491482221860618240),(14,149906801632214017663565824),(15,154742504910672534362390528),(16,309485009821345068724781056),(17,618970019642690137449562112),(18,17331160549995323848587739136),(21,475368975085586025561263702016),(22,39930993907189226147146150969344),(23,81129638414606681695789005144064),(24,10222334440240441893669414648152064),(25,20769187434139310514121985316880384),(26,42493757490249029311893581958337265664),(27,42535295865117307932921825928971026432),(28,85070591730234615865843651857942052864)],tys:=[24],emp:=fun id=>cond (Nat.beq id 19) [(1000407,501,63,2),(1000409,502,3,1)] [] } (mgJ G f) 20 Tryz.f43 [.sl 10 f G] (.agg [.int .i64 (gK G),.str (gN G),.int .i64 (gT G),.int .i64 (gQ G 0),.int .i64 (gQ G 1),.int .i64 (gQ G 2),.int .i64 (gQ G 3),.sl 2 false (gR G),.int .i64 G.length,.sl 1 false (gC G)])
theorem mgd_e (gK:LLA→Int) (gN:LLA→ByteArray) (gT:LLA→Int) (gQ:LLA→Nat→Int) (gR:LLA→LLA) (gC:LLA→LLA):mgd_T gK gN gT gQ gR gC=mgd_S gK gN gT gQ gR gC:=by kernel_rfl
theorem mgd_v:mgd_S gK gN gT gQ gR gC:=Eq.mp (mgd_e ..) (mgd_P)
theorem mgd_ok (gl:Glob):SOK Tryz.prog gl 43 (mgd_s gK gN gT gQ gR gC):=by
 refine ⟨fok Tryz.func43 (by kernel_rfl) (by kernel_rfl),?_⟩
 intro xs pre r h hp
 unfold mgd_s at h
 split at h
 ·simp only [Option.some.injEq,Prod.mk.injEq] at h
  obtain ⟨h1,h2⟩:=h
  subst h1 h2
  exact fnK_sound (tyOf (by kernel_rfl)) (by exact specOK rfl rfl trivial trivial) (by kernel_rfl) Tryz.func43 rfl (mgd_v gl _ _ hp)
 ·cases h
end Go.Proofs.YtgnnafneglannaaGreatDoor
namespace Go.Proofs.YtgnnafneglannaaGreatDoor
open Go
set_option linter.unusedVariables false
set_option linter.unusedSimpArgs false
theorem vd_rdE {rd:LLA} (hp:RdsP rd) (h:vdE rd=0):RdE rd:=by
 have h4:ckA 4 rd=false:=by
  cases e:ckA 4 rd with
  | false=>rfl
  | true=>unfold vdE at h; rw [if_pos e] at h; cases h
 have hasc:ascB rd=true:=by
  unfold vdE at h
  rw [h4] at h
  cases e:ascB rd with
  | true=>rfl
  | false =>
   rw [e] at h
   cases e2:ckA 1 rd <;> rw [e2] at h <;> simp at h
 have hel:∀ i,i < rd.length→1≤rE (rd.getD i [])∧rE (rd.getD i [])≤11:=fun i hi=>by
  unfold ckA at h4
  rw [List.any_eq_false] at h4
  have:=h4 _ (List.getElem_mem hi)
  rw [← getD_lt hi] at this
  unfold ckP at this
  have hk:¬ ck (rE (rd.getD i [])) (rV (rd.getD i []))=4:=by simpa using this
  unfold ck at hk
  cases ho:okC (rE (rd.getD i [])) with
  | true=>exact of_decide_eq_true ho
  | false=>rw [ho] at hk; exact absurd rfl hk
 unfold ascB at hasc
 have hasc:=of_decide_eq_true hasc
 have hge:∀ i,i < rd.length→(i:Int)+1≤rE (rd.getD i []):=by
  intro i
  induction i with
  | zero=>intro hi; have:=(hel 0 hi).1; omega
  | succ i ih =>
   intro hi
   have:=ih (by omega)
   rcases hasc (i+1) hi with z | z
   ·omega
   ·rw [show i+1 - 1=i by omega] at z; omega
 refine ⟨fun i hi=>?_,?_⟩
 ·obtain ⟨e,v,he,_,hv⟩:=hp.row i hi
  have:=hel i hi
  rw [he] at this
  exact ⟨e,v,he,this,hv⟩
 ·by_cases hz:rd.length=0
  ·omega
  ·have h1:=hge (rd.length - 1) (by omega)
   have h2:=(hel (rd.length - 1) (by omega)).2
   omega
theorem ck_rdE {k:Int} {nm:ByteArray} {t f a b c:Int} {rd:LLA} {co ar:Int} (hp:RdsP rd) (h:ckR (itA k nm t f a b c rd co ar)=0):RdE rd∧0≤co:=by
 rw [ckR_it] at h
 unfold itE at h
 split at h
 ·next e =>
  split at h
  ·cases h
  ·next e2 =>
   refine ⟨vd_rdE hp ?_,by omega⟩
   unfold gpE at e
   split at e
   ·cases e
   ·split at e
    ·cases e
    ·split at e
     ·cases e
     ·exact e
 ·next e=>exact absurd h e
structure OkL (l:LLA):Prop where
 fp:ItsP l
 fv:inV l=0
theorem OkL.row {l:LLA} (h:OkL l) {x:List AV} (hx:x ∈ l):∃ (k:Int) (nm:ByteArray) (t f a b c:Int) (rd:LLA) (co ar:Int),x=itA k nm t f a b c rd co ar∧RdsP rd∧RdE rd∧0≤co:=by
 obtain ⟨i,hi,rfl⟩:=List.mem_iff_getElem.1 hx
 obtain ⟨k,nm,t,f,a,b,c,rd,co,ar,h1,h2⟩:=h.fp.fr i hi
 rw [getD_lt hi] at h1
 have:=firE_all (inV_ok h.fv).2.1 _ (List.getElem_mem hi)
 rw [h1] at this
 obtain ⟨h3,h4⟩:=ck_rdE h2 this
 exact ⟨k,nm,t,f,a,b,c,rd,co,ar,h1,h2,h3,h4⟩
theorem OkL.mgp {l g:LLA} (h:OkL l) (hs:∀ x ∈ g,x ∈ l) (hl:g.length≤900) (h0:g≠[]):MgP g:=by
 refine ⟨fun i hi=>?_,hl,List.length_pos_iff.2 h0⟩
 obtain ⟨k,nm,t,f,a,b,c,rd,co,ar,h1,_,h3,_⟩:=h.row (hs _ (List.getElem_mem hi))
 exact ⟨k,nm,t,f,a,b,c,rd,co,ar,by rw [getD_lt hi]; exact h1,h3⟩
theorem OkL.gd {l:LLA} (h:OkL l):GdL l:=⟨fun r hr=>by
 obtain ⟨k,nm,t,f,a,b,c,rd,co,ar,h1,h2,h3,_⟩:=h.row hr
 exact ⟨k,nm,t,f,a,b,c,rd,co,ar,h1,h2,h3.fl⟩,by have:=(inV_ok h.fv).1; omega⟩
theorem gs_sub:∀ F:LLA,(∀ x ∈ (gsF F).2,x ∈ F)∧(gsF F).2.length≤F.length∧(gsF F).1.length≤F.length∧((gsF F).2≠[]→(gsF F).1.length+1≤F.length) :=
 snoc_ind ⟨by simp [gsF],by simp [gsF],by simp [gsF],by simp [gsF]⟩ fun l x ⟨h1,h2,h3,h4⟩=>by
  rw [gsF_snoc]
  generalize gsF l=s at *
  obtain ⟨o,g⟩:=s
  simp only at h1 h2 h3 h4
  cases g with
  | nil =>
   refine ⟨fun y hy=>?_,by simp [gs1],by simp [gs1]; omega,fun _=>by simp [gs1]; omega⟩
   simp [gs1] at hy
   simp [hy]
  | cons y g =>
   have h4:=h4 (by simp)
   simp only [gs1]
   split
   ·split
    ·exact ⟨fun z hz=>by simp at hz; simp [hz],by simp,by simp; omega,fun _=>by simp; omega⟩
    ·refine ⟨fun z hz=>?_,by simp at h2 ⊢; omega,by simp; omega,fun _=>by simp; omega⟩
     rcases List.mem_append.1 hz with hz | hz
     ·exact List.mem_append_left _ (h1 z hz)
     ·exact List.mem_append_right _ hz
   ·exact ⟨fun z hz=>by simp at hz; simp [hz],by simp,by simp; omega,fun _=>by simp; omega⟩
def mgRow (G:LLA):List AV:=[.int .i64 (gK G),.str (gN G),.int .i64 (gT G),.int .i64 (gQ G 0),.int .i64 (gQ G 1),.int .i64 (gQ G 2),.int .i64 (gQ G 3),.sl 2 false (gR G),.int .i64 G.length,.sl 1 false (gC G)]
def ouL (grp out:LLA):LLA:=match grp with
 | []=>out
 | y::g=>out++[mgRow (y::g)]
structure FlP (grp out:LLA) (m q:Nat):Prop where
 fm:m=grp.length
 fq:q=out.length
 fg:grp≠[]→MgP grp
 fo:out.length≤900
def iflush_s (gK:LLA→Int) (gN:LLA→ByteArray) (gT:LLA→Int) (gQ:LLA→Nat→Int) (gR:LLA→LLA) (gC:LLA→LLA) (ouL:LLA→LLA→LLA):SpH
 | [.ptr 0 0,.ptr 1 0],[.cells [.rw 2 10 m],.cells [.rw 3 10 q],.row 29 10 grp,.row 66 10 out]=>some (FlP grp out m q,.tup [],[.cells [.nils],.cells [.rw 3 10 (ouL grp out).length],.gone,.row 66 10 (ouL grp out)])
 | _,_=>none
def iflush_T (gK:LLA→Int) (gN:LLA→ByteArray) (gT:LLA→Int) (gQ:LLA→Nat→Int) (gR:LLA→LLA) (gC:LLA→LLA) (ouL:LLA→LLA→LLA):Prop :=
  ∀ (gl:Glob) (grp out:List (List AV)) (m q:Nat),FlP grp out m q→True→True→True→True→bif decide ((0:Int) < (↑m:Int)) then bif decide (m=grp.length) then MgP grp∧bif decide (q=out.length∧out.length+[[AV.int .i64 (gK grp),.str (gN grp),.int .i64 (gT grp),.int .i64 (gQ grp (0:Nat)),.int .i64 (gQ grp (1:Nat)),.int .i64 (gQ grp (2:Nat)),.int .i64 (gQ grp (3:Nat)),.sl (2:Nat) false (gR grp),.int
 .i64 (↑grp.length:Int),.sl (1:Nat) false (gC grp)]].length≤(9223372036854775807:Nat)∧(out.length+[[AV.int .i64 (gK grp),.str (gN grp),.int .i64 (gT grp),.int .i64 (gQ grp (0:Nat)),.int .i64 (gQ grp (1:Nat)),.int .i64 (gQ grp (2:Nat)),.int .i64 (gQ grp (3:Nat)),.sl (2:Nat) false (gR grp),.int .i64 (↑grp.length:Int),.sl (1:Nat) false (gC grp)]].length)*(120:Nat)≤(140737488355328:Nat)) then
 True∧(True∧True)∧((out++[[AV.int .i64 (gK grp),.str (gN grp),.int .i64 (gT grp),.int .i64 (gQ grp (0:Nat)),.int .i64 (gQ grp (1:Nat)),.int .i64 (gQ grp (2:Nat)),.int .i64 (gQ grp (3:Nat)),.sl (2:Nat) false (gR grp),.int .i64 (↑grp.length:Int),.sl (1:Nat) false (gC grp)]]).length=List.length (ouL grp out)∧True)∧True∧out++[[AV.int .i64 (gK grp),.str (gN grp),.int .i64 (gT grp),.int .i64 (gQ grp
 (0:Nat)),.int .i64 (gQ grp (1:Nat)),.int .i64 (gQ grp (2:Nat)),.int .i64 (gQ grp (3:Nat)),.sl (2:Nat) false (gR grp),.int .i64 (↑grp.length:Int),.sl (1:Nat) false (gC grp)]]=ouL grp out∧True else False else False else True∧(True∧True)∧(q=List.length (ouL grp out)∧True)∧True∧out=ouL grp out∧True
theorem iflush_P:iflush_T gK gN gT gQ gR gC ouL:=by
 unfold iflush_T
 intro gl grp out m q ⟨fm,fq,fg,fo⟩ _ _ _ _
 subst fm fq
 cases grp with
 | nil=>exact cd0 (by simp) ⟨trivial,⟨trivial,trivial⟩,⟨rfl,trivial⟩,trivial,rfl,trivial⟩
 | cons y g =>
  refine cd1 (by simp only [List.length_cons]; omega) (cd1 rfl ⟨fg (by simp),cd1 ⟨rfl,by simp only [List.length_cons,List.length_nil]; omega,by simp only [List.length_cons,List.length_nil]; omega⟩ ⟨trivial,⟨trivial,trivial⟩,⟨rfl,trivial⟩,trivial,rfl,trivial⟩⟩)
def iflush_S (gK:LLA→Int) (gN:LLA→ByteArray) (gT:LLA→Int) (gQ:LLA→Nat→Int) (gR:LLA→LLA) (gC:LLA→LLA) (ouL:LLA→LLA→LLA):Prop:=∀ (gl:Glob) (grp out:List (List AV)) (m q:Nat),FlP grp out m q→fnH Tryz.prog { glob:=gl,spec:=lk [(43,(mgd_s gK gN gT gQ gR gC))],specH:=lk [],nowf:=true } { nt:=10,drop:=drp [(0,12),(1,992)],fr:=1000,kp:=[0,1,2,3],own:=true } (fun _ _=>none) 6 Tryz.f42 [.ptr 0 0,.ptr 1 0] [.cells [.rw 2 10 m],.cells [.rw 3 10 q],.row 29 10 grp,.row 66 10 out] (.tup []) [.cells [.nils],.cells [.rw 3 10 (ouL grp out).length],.gone,.row 66 10 (ouL grp out)]
theorem iflush_e (gK:LLA→Int) (gN:LLA→ByteArray) (gT:LLA→Int) (gQ:LLA→Nat→Int) (gR:LLA→LLA) (gC:LLA→LLA) (ouL:LLA→LLA→LLA):iflush_T gK gN gT gQ gR gC ouL=iflush_S gK gN gT gQ gR gC ouL:=by kernel_rfl
theorem iflush_v:iflush_S gK gN gT gQ gR gC ouL:=Eq.mp (iflush_e ..) (iflush_P)
theorem iflush_ok (gl:Glob):HOK Tryz.prog gl 42 (iflush_s gK gN gT gQ gR gC ouL):=by
 refine ⟨fok Tryz.func42 (by kernel_rfl) (by kernel_rfl),?_⟩
 intro xs bs pre r bs2 h hp
 unfold iflush_s at h
 split at h
 ·simp only [Option.some.injEq,Prod.mk.injEq] at h
  obtain ⟨h1,h2,h3⟩:=h
  subst h1 h2 h3
  exact fnH_sound tyNil (by exact specOK rfl rfl ⟨(mgd_ok gl),trivial⟩ trivial) (by kernel_rfl) Tryz.func42 (iflush_v gl _ _ _ _ hp)
 ·cases h
def cntd (fr to cut:Int) (x:List AV):Bool:=decide (itAr x≤cut)&&(decide (fr≤itTm x)&&decide (itTm x≤to))
def mrF (l:LLA) (fr to cut:Int):LLA:=l.filter (cntd fr to cut)
def mrR (F:LLA):LLA:=(gsF F).1.map mgRow
def mrG (F:LLA):LLA:=(gsF F).2
def mrE (l:LLA) (fr to:Int):Int:=if inV l=0 then (if to < fr then 1 else 0) else inV l
def mrO (l:LLA) (fr to cut:Int):LLA:=if mrE l fr to=0 then (grF (mrF l fr to cut)).map mgRow else []
def imT (l:LLA) (f:Bool) (i:Int):List (Nat × AV):=[(0,.sl 10 f l),(3,.ptr 3 0),(4,.nils),(5,.int .i64 0),(7,.ptr 7 0),(8,.ptr 8 0),(9,.fn 42 [.ptr 8 0,.ptr 7 0]),(23,.sl 10 f l),(24,.int .i64 l.length),(25,.int .i64 i)]
structure ImP (l:LLA) (i:Int):Prop where
 flo:0≤i
 fhi:i≤l.length
def im10 (l:LLA) (f:Bool) (fr to cut:Int):LInv:=⟨Int,fun i=>⟨imT l f i,[(3,.cells [.int .i64 fr,.int .i64 to,.int .i64 cut]),(7,.cells [.rw 701 10 (mrR (mrF (l.take i.toNat) fr to cut)).length]),(8,.cells [.rw 700 10 (mrG (mrF (l.take i.toNat) fr to cut)).length]),(700,.row 29 10 (mrG (mrF (l.take i.toNat) fr to cut))),(701,.row 66 10 (mrR (mrF (l.take i.toNat) fr to cut)))]⟩,ImP l,fun i=>(l.length - i).toNat,none⟩
theorem ky_su {k k2 t t2 f f2 a a2 b b2 c c2 co co2 ar ar2:Int} {nm nm2:ByteArray} {rd rd2:LLA}:suC k nm t k2 nm2 t2=0↔itKy (itA k nm t f a b c rd co ar)=itKy (itA k2 nm2 t2 f2 a2 b2 c2 rd2 co2 ar2):=by
 rw [← lexI_eq]
 simp only [itKy,itA,lex_cons,lex_nm]
 rw [show lexI ([]:List Int) []=0 from rfl,orI_z]
 exact Iff.rfl
theorem mrF_step {l:LLA} {fr to cut:Int} {i:Nat} (h:i < l.length):mrF (l.take (i+1)) fr to cut=mrF (l.take i) fr to cut++if cntd fr to cut (l.getD i []) then [l.getD i []] else []:=by
 unfold mrF
 rw [List.take_add_one,List.filter_append,List.getElem?_eq_getElem h,getD_lt h]
 cases hp:cntd fr to cut l[i] <;> simp [hp]
theorem mrF_f {l:LLA} {fr to cut:Int} {i:Nat} (h:i < l.length) (hc:cntd fr to cut (l.getD i [])=false):mrF (l.take (i+1)) fr to cut=mrF (l.take i) fr to cut:=by
 rw [mrF_step h,hc]; simp
theorem mrF_t {l:LLA} {fr to cut:Int} {i:Nat} (h:i < l.length) (hc:cntd fr to cut (l.getD i [])=true):mrF (l.take (i+1)) fr to cut=mrF (l.take i) fr to cut++[l.getD i []]:=by
 rw [mrF_step h,hc]; simp
theorem mr_new {F:LLA} {x:List AV} (h:mrG F=[]):mrG (F++[x])=[x]∧mrR (F++[x])=mrR F:=by
 unfold mrG mrR at *
 rw [gsF_snoc]; unfold gs1; rw [h]; exact ⟨rfl,rfl⟩
theorem mr_dif {F g:LLA} {x y:List AV} (h:mrG F=y::g) (hk:itKy y≠itKy x):mrG (F++[x])=[x]∧mrR (F++[x])=ouL (mrG F) (mrR F):=by
 unfold mrG mrR at *
 rw [gsF_snoc]; unfold gs1; rw [h]; simp only; rw [if_neg hk]; exact ⟨rfl,by simp [ouL]⟩
theorem mr_up {F g:LLA} {x y:List AV} (h:mrG F=y::g) (hk:itKy y=itKy x) (hc:itCo y < itCo x):mrG (F++[x])=[x]∧mrR (F++[x])=mrR F:=by
 unfold mrG mrR at *
 rw [gsF_snoc]; unfold gs1; rw [h]; simp only; rw [if_pos hk,if_pos hc]; exact ⟨rfl,rfl⟩
theorem mr_add {F g:LLA} {x y:List AV} (h:mrG F=y::g) (hk:itKy y=itKy x) (hc:¬ itCo y < itCo x):mrG (F++[x])=mrG F++[x]∧mrR (F++[x])=mrR F:=by
 unfold mrG mrR at *
 rw [gsF_snoc]; unfold gs1; rw [h]; simp only; rw [if_pos hk,if_neg hc]; exact ⟨rfl,rfl⟩
theorem mr_end (F:LLA):(grF F).map mgRow=ouL (mrG F) (mrR F):=by
 unfold grF mrG mrR
 generalize gsF F=s
 obtain ⟨o,g⟩:=s
 cases g <;> simp [grS,ouL]
theorem mr_fl {l:LLA} {fr to cut:Int} (h:OkL l) (i:Nat):FlP (mrG (mrF (l.take i) fr to cut)) (mrR (mrF (l.take i) fr to cut)) (mrG (mrF (l.take i) fr to cut)).length (mrR (mrF (l.take i) fr to cut)).length:=by
 have h9:l.length≤150:=(inV_ok h.fv).1
 have hF:(mrF (l.take i) fr to cut).length≤l.length:=Nat.le_trans (List.length_filter_le _ _) (by simp; omega)
 have hs:∀ x ∈ mrF (l.take i) fr to cut,x ∈ l:=fun x hx=>List.mem_of_mem_take (List.mem_filter.1 hx).1
 obtain ⟨g1,g2,g3,_⟩:=gs_sub (mrF (l.take i) fr to cut)
 refine ⟨rfl,rfl,fun hn=>h.mgp (fun x hx=>hs x (g1 x hx)) ?_ hn,?_⟩
 ·unfold mrG; omega
 ·unfold mrR; rw [List.length_map]; omega
def imJ (l:LLA) (f:Bool) (fr to cut:Int) (id:Nat) (st:St):Option LInv:=cond (Nat.beq id 10) (some (im10 l f fr to cut)) none
def imerge_s (inV:LLA→Int) (suC:Int→ByteArray→Int→Int→ByteArray→Int→Int) (ouL:LLA→LLA→LLA) (mrE:LLA→Int→Int→Int) (mrO:LLA→Int→Int→Int→LLA):Sp
 | [.sl 10 f l,.agg [.int .i64 fr,.int .i64 to,.int .i64 cut]]=>some (ItsP l,.tup [.sl 10 false (mrO l fr to cut),.int .i64 (mrE l fr to)])
 | _=>none
def imerge_T (inV:LLA→Int) (suC:Int→ByteArray→Int→Int→ByteArray→Int→Int) (ouL:LLA→LLA→LLA) (mrE:LLA→Int→Int→Int) (mrO:LLA→Int→Int→Int→LLA) (itC:List AV→List AV→Int) (itE:Int→ByteArray→Int→Int→Int→Int→Int→LLA→Int→Int→Int) (cmpI:Int→Int→Int) (orL:List (List AV)→Int) (cmpS:ByteArray→ByteArray→Int) (gK:LLA→Int) (gN:LLA→ByteArray) (gT:LLA→Int) (gQ:LLA→Nat→Int) (gR:LLA→LLA) (gC:LLA→LLA):Prop :=
  ∀ (l:List (List AV)) (f:Bool) (fr to cut:Int),ItsP l→True→(IR9 fr)∧(IR9 to)∧(IR9 cut)∧True→ItsP l∧bif decide ¬inV l=(0:Int) then mrO l fr to cut=[]∧inV l=mrE l fr to∧True else bif decide (to < fr) then mrO l fr to
 cut=[]∧(1:Int)=mrE l fr to∧True else (∃ x,ImP l x∧(((bif f then f=true else True)∧l=l)∧(0:Nat)=0∧True∧(0:Int)=0∧(0:Nat)=0∧(0:Nat)=0∧((0:Nat)=0∧(0:Nat)=0∧True)∧((bif f then f=true else True)∧l=l)∧(↑l.length:Int)=(↑l.length:Int)∧(0:Int)=x∧True)∧(fr=fr∧to=to∧cut=cut∧True)∧((0:Nat)=List.length (mrR (mrF (List.take (Int.toNat x) l) fr to cut))∧True)∧((0:Nat)=List.length (mrG (mrF (List.take (Int.toNat
 x) l) fr to cut))∧True)∧[]=mrG (mrF (List.take (Int.toNat x) l) fr to cut)∧[]=mrR (mrF (List.take (Int.toNat x) l) fr to cut)∧True)∧∀ (x:Int),ImP l x→bif decide (x < (↑l.length:Int)) then bif decide (0≤x∧x < (↑l.length:Int)) then ∃ n s n_1 n_2 n_3 n_4 n_5 xs n_6 n_7,List.take [AV.int .i64 n,.str s,.int .i64 n_1,.int .i64 n_2,.int .i64 n_3,.int .i64 n_4,.int .i64 n_5,.sl (2:Nat) false
 xs,.int .i64 n_6,.int .i64 n_7].length (l.getD x.toNat [])=[AV.int .i64 n,.str s,.int .i64 n_1,.int .i64 n_2,.int .i64 n_3,.int .i64 n_4,.int .i64 n_5,.sl (2:Nat) false xs,.int .i64 n_6,.int .i64 n_7]∧bif decide (cut < n_7) then bif decide (rng .i64 (x+(1:Int))) then ∃ y,ImP l y∧(im10 l f fr to cut).m y < (im10 l f fr to cut).m x∧(((bif f then f=true else
 True)∧l=l)∧(0:Nat)=0∧True∧(0:Int)=0∧(0:Nat)=0∧(0:Nat)=0∧((0:Nat)=0∧(0:Nat)=0∧True)∧((bif f then f=true else True)∧l=l)∧(↑l.length:Int)=(↑l.length:Int)∧x+(1:Int)=y∧True)∧(fr=fr∧to=to∧cut=cut∧True)∧(List.length (mrR (mrF (List.take x.toNat l) fr to cut))=List.length (mrR (mrF (List.take (Int.toNat y) l) fr to cut))∧True)∧(List.length (mrG (mrF (List.take x.toNat l) fr to cut))=List.length (mrG (mrF
 (List.take (Int.toNat y) l) fr to cut))∧True)∧mrG (mrF (List.take x.toNat l) fr to cut)=mrG (mrF (List.take (Int.toNat y) l) fr to cut)∧mrR (mrF (List.take x.toNat l) fr to cut)=mrR (mrF (List.take (Int.toNat y) l) fr to cut)∧True else False else bif decide (n_1 < fr) then bif decide (rng .i64 (x+(1:Int))) then ∃ y,ImP l y∧(im10 l f fr to cut).m y < (im10 l f fr to cut).m x∧(((bif f then f=true
 else True)∧l=l)∧(0:Nat)=0∧True∧(0:Int)=0∧(0:Nat)=0∧(0:Nat)=0∧((0:Nat)=0∧(0:Nat)=0∧True)∧((bif f then f=true else True)∧l=l)∧(↑l.length:Int)=(↑l.length:Int)∧x+(1:Int)=y∧True)∧(fr=fr∧to=to∧cut=cut∧True)∧(List.length (mrR (mrF (List.take x.toNat l) fr to cut))=List.length (mrR (mrF (List.take (Int.toNat y) l) fr to cut))∧True)∧(List.length (mrG (mrF (List.take x.toNat l) fr to cut))=List.length (mrG
 (mrF (List.take (Int.toNat y) l) fr to cut))∧True)∧mrG (mrF (List.take x.toNat l) fr to cut)=mrG (mrF (List.take (Int.toNat y) l) fr to cut)∧mrR (mrF (List.take x.toNat l) fr to cut)=mrR (mrF (List.take (Int.toNat y) l) fr to cut)∧True else False else bif decide (to < n_1) then bif decide (rng .i64 (x+(1:Int))) then ∃ y,ImP l y∧(im10 l f fr to cut).m y < (im10 l f fr to cut).m x∧(((bif f then
 f=true else True)∧l=l)∧(0:Nat)=0∧True∧(0:Int)=0∧(0:Nat)=0∧(0:Nat)=0∧((0:Nat)=0∧(0:Nat)=0∧True)∧((bif f then f=true else True)∧l=l)∧(↑l.length:Int)=(↑l.length:Int)∧x+(1:Int)=y∧True)∧(fr=fr∧to=to∧cut=cut∧True)∧(List.length (mrR (mrF (List.take x.toNat l) fr to cut))=List.length (mrR (mrF (List.take (Int.toNat y) l) fr to cut))∧True)∧(List.length (mrG (mrF (List.take x.toNat l) fr to
 cut))=List.length (mrG (mrF (List.take (Int.toNat y) l) fr to cut))∧True)∧mrG (mrF (List.take x.toNat l) fr to cut)=mrG (mrF (List.take (Int.toNat y) l) fr to cut)∧mrR (mrF (List.take x.toNat l) fr to cut)=mrR (mrF (List.take (Int.toNat y) l) fr to cut)∧True else False else bif decide ((0:Int) < (↑(List.length (mrG (mrF (List.take x.toNat l) fr to cut))):Int)) then bif decide ((0:Int) ≤
 (0:Int)∧(0:Int) < (↑(List.length (mrG (mrF (List.take x.toNat l) fr to cut))):Int)) then bif decide (List.length (mrG (mrF (List.take x.toNat l) fr to cut))=List.length (mrG (mrF (List.take x.toNat l) fr to cut))∧0 < List.length (mrG (mrF (List.take x.toNat l) fr to cut))) then ∃ n_8 s_1 n_9 n_10 n_11 n_12 n_13 xs_1,List.take [AV.int .i64 n_8,.str s_1,.int .i64 n_9,.int .i64 n_10,.int .i64
 n_11,.int .i64 n_12,.int .i64 n_13,.sl (2:Nat) false xs_1].length (List.drop (0:Nat) (List.getD (mrG (mrF (List.take x.toNat l) fr to cut)) (0:Nat) []))=[AV.int .i64 n_8,.str s_1,.int .i64 n_9,.int .i64 n_10,.int .i64 n_11,.int .i64 n_12,.int .i64 n_13,.sl (2:Nat) false xs_1]∧True∧bif decide ¬suC n_8 s_1 n_9 n s n_1=(0:Int) then FlP (mrG (mrF (List.take x.toNat l) fr to cut)) (mrR (mrF (List.take
 x.toNat l) fr to cut)) (List.length (mrG (mrF (List.take x.toNat l) fr to cut))) (List.length (mrR (mrF (List.take x.toNat l) fr to cut)))∧bif decide (rng .i64 (x+(1:Int))) then ∃ y,ImP l y∧(im10 l f fr to cut).m y < (im10 l f fr to cut).m x∧(((bif f then f=true else True)∧l=l)∧(0:Nat)=0∧True∧(0:Int)=0∧(0:Nat)=0∧(0:Nat)=0∧((0:Nat)=0∧(0:Nat)=0∧True)∧((bif f then f=true else
 True)∧l=l)∧(↑l.length:Int)=(↑l.length:Int)∧x+(1:Int)=y∧True)∧(fr=fr∧to=to∧cut=cut∧True)∧(List.length (ouL (mrG (mrF (List.take x.toNat l) fr to cut)) (mrR (mrF (List.take x.toNat l) fr to cut)))=List.length (mrR (mrF (List.take (Int.toNat y) l) fr to cut))∧True)∧(([]++[[AV.int .i64 n,.str s,.int .i64 n_1,.int .i64 n_2,.int .i64 n_3,.int .i64 n_4,.int .i64 n_5,.sl (2:Nat) false xs,.int .i64
 n_6,.int .i64 n_7]]).length=List.length (mrG (mrF (List.take (Int.toNat y) l) fr to cut))∧True)∧[]++[[AV.int .i64 n,.str s,.int .i64 n_1,.int .i64 n_2,.int .i64 n_3,.int .i64 n_4,.int .i64 n_5,.sl (2:Nat) false xs,.int .i64 n_6,.int .i64 n_7]]=mrG (mrF (List.take (Int.toNat y) l) fr to cut)∧ouL (mrG (mrF (List.take x.toNat l) fr to cut)) (mrR (mrF (List.take x.toNat l) fr to cut))=mrR (mrF
 (List.take (Int.toNat y) l) fr to cut)∧True else False else bif decide ((0:Int) < (↑(List.length (mrG (mrF (List.take x.toNat l) fr to cut))):Int)) then bif decide ((0:Int)≤(0:Int)∧(0:Int) < (↑(List.length (mrG (mrF (List.take x.toNat l) fr to cut))):Int)) then bif decide (List.length (mrG (mrF (List.take x.toNat l) fr to cut))=List.length (mrG (mrF (List.take x.toNat l) fr to cut))∧(0:Nat) <
 List.length (mrG (mrF (List.take x.toNat l) fr to cut))) then ∃ n_14,List.take [AV.int .i64 n_14].length (List.drop (8:Nat) (List.getD (mrG (mrF (List.take x.toNat l) fr to cut)) (0:Nat) []))=[AV.int .i64 n_14]∧bif decide (n_14 < n_6) then bif decide (rng .i64 (x+(1:Int))) then ∃ y,ImP l y∧(im10 l f fr to cut).m y < (im10 l f fr to cut).m x∧(((bif f then f=true else
 True)∧l=l)∧(0:Nat)=0∧True∧(0:Int)=0∧(0:Nat)=0∧(0:Nat)=0∧((0:Nat)=0∧(0:Nat)=0∧True)∧((bif f then f=true else True)∧l=l)∧(↑l.length:Int)=(↑l.length:Int)∧x+(1:Int)=y∧True)∧(fr=fr∧to=to∧cut=cut∧True)∧(List.length (mrR (mrF (List.take x.toNat l) fr to cut))=List.length (mrR (mrF (List.take (Int.toNat y) l) fr to cut))∧True)∧(([]++[[AV.int .i64 n,.str s,.int .i64 n_1,.int .i64 n_2,.int .i64 n_3,.int
 .i64 n_4,.int .i64 n_5,.sl (2:Nat) false xs,.int .i64 n_6,.int .i64 n_7]]).length=List.length (mrG (mrF (List.take (Int.toNat y) l) fr to cut))∧True)∧[]++[[AV.int .i64 n,.str s,.int .i64 n_1,.int .i64 n_2,.int .i64 n_3,.int .i64 n_4,.int .i64 n_5,.sl (2:Nat) false xs,.int .i64 n_6,.int .i64 n_7]]=mrG (mrF (List.take (Int.toNat y) l) fr to cut)∧mrR (mrF (List.take x.toNat l) fr to cut)=mrR (mrF
 (List.take (Int.toNat y) l) fr to cut)∧True else False else bif decide (List.length (mrG (mrF (List.take x.toNat l) fr to cut))=List.length (mrG (mrF (List.take x.toNat l) fr to cut))∧List.length (mrG (mrF (List.take x.toNat l) fr to cut))+[[AV.int .i64 n,.str s,.int .i64 n_1,.int .i64 n_2,.int .i64 n_3,.int .i64 n_4,.int .i64 n_5,.sl (2:Nat) false xs,.int .i64 n_6,.int .i64 n_7]].length ≤
 (9223372036854775807:Nat)∧(List.length (mrG (mrF (List.take x.toNat l) fr to cut))+[[AV.int .i64 n,.str s,.int .i64 n_1,.int .i64 n_2,.int .i64 n_3,.int .i64 n_4,.int .i64 n_5,.sl (2:Nat) false xs,.int .i64 n_6,.int .i64 n_7]].length)*(104:Nat)≤(140737488355328:Nat)) then bif decide (rng .i64 (x+(1:Int))) then ∃ y,ImP l y∧(im10 l f fr to cut).m y < (im10 l f fr to cut).m x∧(((bif f then
 f=true else True)∧l=l)∧(0:Nat)=0∧True∧(0:Int)=0∧(0:Nat)=0∧(0:Nat)=0∧((0:Nat)=0∧(0:Nat)=0∧True)∧((bif f then f=true else True)∧l=l)∧(↑l.length:Int)=(↑l.length:Int)∧x+(1:Int)=y∧True)∧(fr=fr∧to=to∧cut=cut∧True)∧(List.length (mrR (mrF (List.take x.toNat l) fr to cut))=List.length (mrR (mrF (List.take (Int.toNat y) l) fr to cut))∧True)∧((mrG (mrF (List.take x.toNat l) fr to cut)++[[AV.int .i64
 n,.str s,.int .i64 n_1,.int .i64 n_2,.int .i64 n_3,.int .i64 n_4,.int .i64 n_5,.sl (2:Nat) false xs,.int .i64 n_6,.int .i64 n_7]]).length=List.length (mrG (mrF (List.take (Int.toNat y) l) fr to cut))∧True)∧mrG (mrF (List.take x.toNat l) fr to cut)++[[AV.int .i64 n,.str s,.int .i64 n_1,.int .i64 n_2,.int .i64 n_3,.int .i64 n_4,.int .i64 n_5,.sl (2:Nat) false xs,.int .i64 n_6,.int .i64 n_7]]=mrG
 (mrF (List.take (Int.toNat y) l) fr to cut)∧mrR (mrF (List.take x.toNat l) fr to cut)=mrR (mrF (List.take (Int.toNat y) l) fr to cut)∧True else False else False else False else False else bif decide (List.length (mrG (mrF (List.take x.toNat l) fr to cut))=List.length (mrG (mrF (List.take x.toNat l) fr to cut))∧List.length (mrG (mrF (List.take x.toNat l) fr to cut))+[[AV.int .i64 n,.str s,.int
 .i64 n_1,.int .i64 n_2,.int .i64 n_3,.int .i64 n_4,.int .i64 n_5,.sl (2:Nat) false xs,.int .i64 n_6,.int .i64 n_7]].length≤(9223372036854775807:Nat)∧(List.length (mrG (mrF (List.take x.toNat l) fr to cut))+[[AV.int .i64 n,.str s,.int .i64 n_1,.int .i64 n_2,.int .i64 n_3,.int .i64 n_4,.int .i64 n_5,.sl (2:Nat) false xs,.int .i64 n_6,.int .i64 n_7]].length)*(104:Nat)≤(140737488355328:Nat))
 then bif decide (rng .i64 (x+(1:Int))) then ∃ y,ImP l y∧(im10 l f fr to cut).m y < (im10 l f fr to cut).m x∧(((bif f then f=true else True)∧l=l)∧(0:Nat)=0∧True∧(0:Int)=0∧(0:Nat)=0∧(0:Nat)=0∧((0:Nat)=0∧(0:Nat)=0∧True)∧((bif f then f=true else True)∧l=l)∧(↑l.length:Int)=(↑l.length:Int)∧x+(1:Int)=y∧True)∧(fr=fr∧to=to∧cut=cut∧True)∧(List.length (mrR (mrF (List.take x.toNat l) fr to
 cut))=List.length (mrR (mrF (List.take (Int.toNat y) l) fr to cut))∧True)∧((mrG (mrF (List.take x.toNat l) fr to cut)++[[AV.int .i64 n,.str s,.int .i64 n_1,.int .i64 n_2,.int .i64 n_3,.int .i64 n_4,.int .i64 n_5,.sl (2:Nat) false xs,.int .i64 n_6,.int .i64 n_7]]).length=List.length (mrG (mrF (List.take (Int.toNat y) l) fr to cut))∧True)∧mrG (mrF (List.take x.toNat l) fr to cut)++[[AV.int .i64
 n,.str s,.int .i64 n_1,.int .i64 n_2,.int .i64 n_3,.int .i64 n_4,.int .i64 n_5,.sl (2:Nat) false xs,.int .i64 n_6,.int .i64 n_7]]=mrG (mrF (List.take (Int.toNat y) l) fr to cut)∧mrR (mrF (List.take x.toNat l) fr to cut)=mrR (mrF (List.take (Int.toNat y) l) fr to cut)∧True else False else False else False else False else bif decide ((0:Int) < (↑(List.length (mrG (mrF (List.take x.toNat l) fr to
 cut))):Int)) then bif decide ((0:Int)≤(0:Int)∧(0:Int) < (↑(List.length (mrG (mrF (List.take x.toNat l) fr to cut))):Int)) then bif decide (List.length (mrG (mrF (List.take x.toNat l) fr to cut))=List.length (mrG (mrF (List.take x.toNat l) fr to cut))∧0 < List.length (mrG (mrF (List.take x.toNat l) fr to cut))) then ∃ n_8,List.take [AV.int .i64 n_8].length (List.drop (8:Nat) (List.getD (mrG
 (mrF (List.take x.toNat l) fr to cut)) (0:Nat) []))=[AV.int .i64 n_8]∧bif decide (n_8 < n_6) then bif decide (rng .i64 (x+(1:Int))) then ∃ y,ImP l y∧(im10 l f fr to cut).m y < (im10 l f fr to cut).m x∧(((bif f then f=true else True)∧l=l)∧(0:Nat)=0∧True∧(0:Int)=0∧(0:Nat)=0∧(0:Nat)=0∧((0:Nat)=0∧(0:Nat)=0∧True)∧((bif f then f=true else True)∧l=l)∧(↑l.length:Int)=(↑l.length:Int)∧x +
 (1:Int)=y∧True)∧(fr=fr∧to=to∧cut=cut∧True)∧(List.length (mrR (mrF (List.take x.toNat l) fr to cut))=List.length (mrR (mrF (List.take (Int.toNat y) l) fr to cut))∧True)∧(([]++[[AV.int .i64 n,.str s,.int .i64 n_1,.int .i64 n_2,.int .i64 n_3,.int .i64 n_4,.int .i64 n_5,.sl (2:Nat) false xs,.int .i64 n_6,.int .i64 n_7]]).length=List.length (mrG (mrF (List.take (Int.toNat y) l) fr to cut))∧True)∧[] ++
 [[AV.int .i64 n,.str s,.int .i64 n_1,.int .i64 n_2,.int .i64 n_3,.int .i64 n_4,.int .i64 n_5,.sl (2:Nat) false xs,.int .i64 n_6,.int .i64 n_7]]=mrG (mrF (List.take (Int.toNat y) l) fr to cut)∧mrR (mrF (List.take x.toNat l) fr to cut)=mrR (mrF (List.take (Int.toNat y) l) fr to cut)∧True else False else bif decide (List.length (mrG (mrF (List.take x.toNat l) fr to cut))=List.length (mrG (mrF
 (List.take x.toNat l) fr to cut))∧List.length (mrG (mrF (List.take x.toNat l) fr to cut))+[[AV.int .i64 n,.str s,.int .i64 n_1,.int .i64 n_2,.int .i64 n_3,.int .i64 n_4,.int .i64 n_5,.sl (2:Nat) false xs,.int .i64 n_6,.int .i64 n_7]].length≤(9223372036854775807:Nat)∧(List.length (mrG (mrF (List.take x.toNat l) fr to cut))+[[AV.int .i64 n,.str s,.int .i64 n_1,.int .i64 n_2,.int .i64 n_3,.int
 .i64 n_4,.int .i64 n_5,.sl (2:Nat) false xs,.int .i64 n_6,.int .i64 n_7]].length)*(104:Nat)≤(140737488355328:Nat)) then bif decide (rng .i64 (x+(1:Int))) then ∃ y,ImP l y∧(im10 l f fr to cut).m y < (im10 l f fr to cut).m x∧(((bif f then f=true else True)∧l=l)∧(0:Nat)=0∧True∧(0:Int)=0∧(0:Nat)=0∧(0:Nat)=0∧((0:Nat)=0∧(0:Nat)=0∧True)∧((bif f then f=true else
 True)∧l=l)∧(↑l.length:Int)=(↑l.length:Int)∧x+(1:Int)=y∧True)∧(fr=fr∧to=to∧cut=cut∧True)∧(List.length (mrR (mrF (List.take x.toNat l) fr to cut))=List.length (mrR (mrF (List.take (Int.toNat y) l) fr to cut))∧True)∧((mrG (mrF (List.take x.toNat l) fr to cut)++[[AV.int .i64 n,.str s,.int .i64 n_1,.int .i64 n_2,.int .i64 n_3,.int .i64 n_4,.int .i64 n_5,.sl (2:Nat) false xs,.int .i64 n_6,.int .i64
 n_7]]).length=List.length (mrG (mrF (List.take (Int.toNat y) l) fr to cut))∧True)∧mrG (mrF (List.take x.toNat l) fr to cut)++[[AV.int .i64 n,.str s,.int .i64 n_1,.int .i64 n_2,.int .i64 n_3,.int .i64 n_4,.int .i64 n_5,.sl (2:Nat) false xs,.int .i64 n_6,.int .i64 n_7]]=mrG (mrF (List.take (Int.toNat y) l) fr to cut)∧mrR (mrF (List.take x.toNat l) fr to cut)=mrR (mrF (List.take (Int.toNat y) l) fr
 to cut)∧True else False else False else False else False else bif decide (List.length (mrG (mrF (List.take x.toNat l) fr to cut))=List.length (mrG (mrF (List.take x.toNat l) fr to cut))∧List.length (mrG (mrF (List.take x.toNat l) fr to cut))+[[AV.int .i64 n,.str s,.int .i64 n_1,.int .i64 n_2,.int .i64 n_3,.int .i64 n_4,.int .i64 n_5,.sl (2:Nat) false xs,.int .i64 n_6,.int .i64 n_7]].length ≤
 (9223372036854775807:Nat)∧(List.length (mrG (mrF (List.take x.toNat l) fr to cut))+[[AV.int .i64 n,.str s,.int .i64 n_1,.int .i64 n_2,.int .i64 n_3,.int .i64 n_4,.int .i64 n_5,.sl (2:Nat) false xs,.int .i64 n_6,.int .i64 n_7]].length)*(104:Nat)≤(140737488355328:Nat)) then bif decide (rng .i64 (x+(1:Int))) then ∃ y,ImP l y∧(im10 l f fr to cut).m y < (im10 l f fr to cut).m x∧(((bif f then
 f=true else True)∧l=l)∧(0:Nat)=0∧True∧(0:Int)=0∧(0:Nat)=0∧(0:Nat)=0∧((0:Nat)=0∧(0:Nat)=0∧True)∧((bif f then f=true else True)∧l=l)∧(↑l.length:Int)=(↑l.length:Int)∧x+(1:Int)=y∧True)∧(fr=fr∧to=to∧cut=cut∧True)∧(List.length (mrR (mrF (List.take x.toNat l) fr to cut))=List.length (mrR (mrF (List.take (Int.toNat y) l) fr to cut))∧True)∧((mrG (mrF (List.take x.toNat l) fr to cut)++[[AV.int .i64
 n,.str s,.int .i64 n_1,.int .i64 n_2,.int .i64 n_3,.int .i64 n_4,.int .i64 n_5,.sl (2:Nat) false xs,.int .i64 n_6,.int .i64 n_7]]).length=List.length (mrG (mrF (List.take (Int.toNat y) l) fr to cut))∧True)∧mrG (mrF (List.take x.toNat l) fr to cut)++[[AV.int .i64 n,.str s,.int .i64 n_1,.int .i64 n_2,.int .i64 n_3,.int .i64 n_4,.int .i64 n_5,.sl (2:Nat) false xs,.int .i64 n_6,.int .i64 n_7]]=mrG
 (mrF (List.take (Int.toNat y) l) fr to cut)∧mrR (mrF (List.take x.toNat l) fr to cut)=mrR (mrF (List.take (Int.toNat y) l) fr to cut)∧True else False else False else False else FlP (mrG (mrF (List.take x.toNat l) fr to cut)) (mrR (mrF (List.take x.toNat l) fr to cut)) (List.length (mrG (mrF (List.take x.toNat l) fr to cut))) (List.length (mrR (mrF (List.take x.toNat l) fr to cut)))∧bif decide
 (List.length (ouL (mrG (mrF (List.take x.toNat l) fr to cut)) (mrR (mrF (List.take x.toNat l) fr to cut)))=List.length (ouL (mrG (mrF (List.take x.toNat l) fr to cut)) (mrR (mrF (List.take x.toNat l) fr to cut)))) then (True∧ouL (mrG (mrF (List.take x.toNat l) fr to cut)) (mrR (mrF (List.take x.toNat l) fr to cut))=mrO l fr to cut)∧(0:Int)=mrE l fr to∧True else False
theorem imerge_P:imerge_T inV suC ouL mrE mrO itC itE cmpI orL cmpS gK gN gT gQ gR gC:=by
 unfold imerge_T
 intro l f fr to cut hp _ _
 have bf:cond f (f=true) True:=by cases f <;> trivial
 refine ⟨hp,csx (fun q=>?_) (fun q=>?_)⟩
 ·have e:mrE l fr to=inV l:=by unfold mrE; rw [if_neg q]
  exact ⟨by unfold mrO; rw [e,if_neg q],e.symm,trivial⟩
 have q:=Decidable.not_not.1 q
 refine csx (fun q2=>?_) (fun q2=>?_)
 ·have e:mrE l fr to=1:=by unfold mrE; rw [if_pos q,if_pos q2]
  exact ⟨by unfold mrO; rw [e]; rfl,e.symm,trivial⟩
 have e0:mrE l fr to=0:=by unfold mrE; rw [if_pos q,if_neg q2]
 have ok:OkL l:=⟨hp,q⟩
 have h9:=(inV_ok q).1
 refine ⟨⟨0,⟨by decide,by omega⟩,⟨⟨bf,rfl⟩,rfl,trivial,rfl,rfl,rfl,⟨rfl,rfl,trivial⟩,⟨bf,rfl⟩,rfl,rfl,trivial⟩,⟨rfl,rfl,rfl,trivial⟩,⟨rfl,trivial⟩,⟨rfl,trivial⟩,rfl,rfl,trivial⟩,?_⟩
 rintro i ⟨i0,i1⟩
 refine csx (fun hi=>cd1 (by omega) ?_) (fun hi=>?_)
 ·have hil:i.toNat < l.length:=by omega
  have hm:l.getD i.toNat [] ∈ l:=by rw [getD_lt hil]; exact List.getElem_mem _
  obtain ⟨k,nm,t,f2,a,b,c,rd,co,ar,h1,h2,h3,h4⟩:=ok.row hm
  have fin:∀ (G R:LLA),mrG (mrF (l.take (i.toNat+1)) fr to cut)=G→mrR (mrF (l.take (i.toNat+1)) fr to cut)=R→cond (decide (rng .i64 (i+1))) (∃ y:Int,ImP l y∧(im10 l f fr to cut).m y < (im10 l f fr to cut).m i∧((cond f (f=true) True∧l=l)∧(0:Nat)=0∧True∧(0:Int)=0∧(0:Nat)=0∧(0:Nat)=0∧((0:Nat)=0∧(0:Nat)=0∧True)∧(cond f (f=true) True∧l=l)∧(l.length:Int)=l.length∧i+1=y∧True)∧(fr=fr∧to=to∧cut=cut∧True)∧(R.length=(mrR (mrF (l.take y.toNat) fr to cut)).length∧True)∧(G.length=(mrG (mrF (l.take y.toNat) fr to cut)).length∧True)∧G=mrG (mrF (l.take y.toNat) fr to cut)∧R=mrR (mrF (l.take y.toNat) fr to cut)∧True) False:=fun G R e1 e2 =>
   cdI (by omega) ⟨i+1,⟨by omega,by omega⟩,by simp only [im10]; omega,⟨⟨bf,rfl⟩,rfl,trivial,rfl,rfl,rfl,⟨rfl,rfl,trivial⟩,⟨bf,rfl⟩,rfl,rfl,trivial⟩,⟨rfl,rfl,rfl,trivial⟩,by
    rw [show (i+1).toNat=i.toNat+1 by omega,e1,e2]; exact ⟨⟨rfl,trivial⟩,⟨rfl,trivial⟩,rfl,rfl,trivial⟩⟩
  refine ⟨k,nm,t,f2,a,b,c,rd,co,ar,by rw [h1]; rfl,?_⟩
  have hc:cntd fr to cut (l.getD i.toNat [])=(decide (ar≤cut)&&(decide (fr≤t)&&decide (t≤to))):=by rw [h1]; rfl
  have hF:(cut < ar∨t < fr∨to < t)→mrF (l.take (i.toNat+1)) fr to cut=mrF (l.take i.toNat) fr to cut:=fun z=>mrF_f hil (by
   rw [hc]; simp only [Bool.and_eq_false_iff,decide_eq_false_iff_not]; omega)
  refine csx (fun z=>fin _ _ (by rw [hF (.inl z)]) (by rw [hF (.inl z)])) (fun z1=>csx (fun z=>fin _ _ (by rw [hF (.inr (.inl z))]) (by rw [hF (.inr (.inl z))])) (fun z2=>csx (fun z=>fin _ _ (by rw [hF (.inr (.inr z))]) (by rw [hF (.inr (.inr z))])) (fun z3=>?_)))
  have hT:mrF (l.take (i.toNat+1)) fr to cut=mrF (l.take i.toNat) fr to cut++[itA k nm t f2 a b c rd co ar]:=by
   rw [mrF_t hil (by rw [hc]; simp only [Bool.and_eq_true,decide_eq_true_eq]; omega),h1]
  rw [hT] at fin
  clear hF hT hc h1 hm
  have hfl:=@mr_fl l fr to cut ok i.toNat
  have hFl:(mrF (l.take i.toNat) fr to cut).length≤l.length:=Nat.le_trans (List.length_filter_le _ _) (by simp; omega)
  have hFs:∀ x ∈ mrF (l.take i.toNat) fr to cut,x ∈ l:=fun x hx=>List.mem_of_mem_take (List.mem_filter.1 hx).1
  generalize mrF (l.take i.toNat) fr to cut=F at *
  obtain ⟨g1,g2,_,_⟩:=gs_sub F
  have g1:∀ x ∈ mrG F,x ∈ F:=g1
  have g2:(mrG F).length≤F.length:=g2
  have new:=@mr_new F
  have dif:=@mr_dif F
  have up:=@mr_up F
  have add:=@mr_add F
  generalize mrG F=G at *
  cases G with
  | nil =>
   refine csx (fun w=>absurd w (by simp)) (fun _=>csx (fun w=>absurd w (by simp)) (fun _=>cd1 ⟨rfl,by simp,by simp⟩ (fin _ _ (new rfl).1 (new rfl).2)))
  | cons y g =>
   obtain ⟨k2,nm2,t2,f3,a2,b2,c2,rd2,co2,ar2,rfl,_,_,_⟩:=ok.row (hFs _ (g1 y (by simp)))
   have hg:(itA k2 nm2 t2 f3 a2 b2 c2 rd2 co2 ar2::g).length≤150:=by omega
   have hgp:(0:Int) < ((itA k2 nm2 t2 f3 a2 b2 c2 rd2 co2 ar2::g).length:Nat):=by simp only [List.length_cons]; omega
   have hgn:0 < (itA k2 nm2 t2 f3 a2 b2 c2 rd2 co2 ar2::g).length:=by simp
   refine cd1 hgp (cd1 ⟨by decide,hgp⟩ (cd1 ⟨rfl,hgn⟩ ⟨k2,nm2,t2,f3,a2,b2,c2,rd2,rfl,trivial,csx (fun w=>?_) (fun w=>?_)⟩))
   ·have hk:itKy (itA k2 nm2 t2 f3 a2 b2 c2 rd2 co2 ar2)≠itKy (itA k nm t f2 a b c rd co ar):=fun e=>w (ky_su.2 e)
    exact ⟨hfl,fin _ _ (dif rfl hk).1 (dif rfl hk).2⟩
   ·have hk:itKy (itA k2 nm2 t2 f3 a2 b2 c2 rd2 co2 ar2)=itKy (itA k nm t f2 a b c rd co ar):=ky_su.1 (Decidable.not_not.1 w)
    refine cd1 hgp (cd1 ⟨by decide,hgp⟩ (cd1 ⟨rfl,hgn⟩ ⟨co2,rfl,csx (fun v=>?_) (fun v=>?_)⟩))
    ·exact fin _ _ (up rfl hk v).1 (up rfl hk v).2
    ·exact cd1 ⟨rfl,by simp only [List.length_cons,List.length_nil] at hg ⊢; omega,by simp only [List.length_cons,List.length_nil] at hg ⊢; omega⟩ (fin _ _ (add rfl hk v).1 (add rfl hk v).2)
 ·refine ⟨mr_fl ok _,cd1 rfl ⟨⟨trivial,?_⟩,e0.symm,trivial⟩⟩
  unfold mrO
  rw [if_pos e0,mr_end,List.take_of_length_le (by omega)]
def imerge_S (inV:LLA→Int) (suC:Int→ByteArray→Int→Int→ByteArray→Int→Int) (ouL:LLA→LLA→LLA) (mrE:LLA→Int→Int→Int) (mrO:LLA→Int→Int→Int→LLA) (itC:List AV→List AV→Int) (itE:Int→ByteArray→Int→Int→Int→Int→Int→LLA→Int→Int→Int) (cmpI:Int→Int→Int) (orL:List (List AV)→Int) (cmpS:ByteArray→ByteArray→Int) (gK:LLA→Int) (gN:LLA→ByteArray) (gT:LLA→Int) (gQ:LLA→Nat→Int) (gR:LLA→LLA) (gC:LLA→LLA):Prop:=∀ (l:List (List AV)) (f:Bool) (fr to cut:Int),ItsP l→fnK Tryz.prog { glob:=glb,spec:=lk [(15,(ivalid_s inV itC itE)),(44,(subj_s cmpI orL cmpS suC))],specH:=lk [(42,(iflush_s gK gN gT gQ gR gC ouL))],shape:=[28,57,74],slz:=[(28,[2]),(57,[2])],nowf:=true } { nt:=85,drop:=drp [(1,12288),(2,16384),(3,65536),(4,1966080),(8,4194304),(11,402653184),(12,562949416550400),(13,4610560118520545280),(14,9223372036854775808),(15,75520970237766904315904),(17,2266735911777429702574080),(18,2417851639229258349412352),(19,4835703278458516698824704),(20,19342813113834066795298816)],emp:=fun id=>cond (Nat.beq id 9) [(1000700,701,66,10),(1000800,700,29,10)] (cond (Nat.beq id 17) [(1000800,700,29,10),(1000800,700,29,10)] []) } (imJ l f fr to cut) 6 Tryz.f24 [.sl 10 f l,.agg [.int .i64 fr,.int .i64 to,.int .i64 cut]] (.tup [.sl 10 false (mrO l fr to cut),.int .i64 (mrE l fr to)])
theorem imerge_e (inV:LLA→Int) (suC:Int→ByteArray→Int→Int→ByteArray→Int→Int) (ouL:LLA→LLA→LLA) (mrE:LLA→Int→Int→Int) (mrO:LLA→Int→Int→Int→LLA) (itC:List AV→List AV→Int) (itE:Int→ByteArray→Int→Int→Int→Int→Int→LLA→Int→Int→Int) (cmpI:Int→Int→Int) (orL:List (List AV)→Int) (cmpS:ByteArray→ByteArray→Int) (gK:LLA→Int) (gN:LLA→ByteArray) (gT:LLA→Int) (gQ:LLA→Nat→Int) (gR:LLA→LLA) (gC:LLA→LLA):imerge_T inV suC ouL mrE mrO itC itE cmpI orL cmpS gK gN gT gQ gR gC=imerge_S inV suC ouL mrE mrO itC itE cmpI orL cmpS gK gN gT gQ gR gC:=by kernel_rfl
theorem imerge_v:imerge_S inV suC ouL mrE mrO itC itE cmpI orL cmpS gK gN gT gQ gR gC:=Eq.mp (imerge_e ..) (imerge_P)
theorem imerge_ok:SOK Tryz.prog glb 24 (imerge_s inV suC ouL mrE mrO):=by
 refine ⟨fok Tryz.func24 (by kernel_rfl) (by kernel_rfl),?_⟩
 intro xs pre r h hp
 unfold imerge_s at h
 split at h
 ·simp only [Option.some.injEq,Prod.mk.injEq] at h
  obtain ⟨h1,h2⟩:=h
  subst h1 h2
  exact fnK_sound tyNil (by exact specOK rfl rfl ⟨(ivalid_ok),(subj_ok glb),trivial⟩ ⟨(iflush_ok glb),trivial⟩) (by kernel_rfl) Tryz.func24 rfl (imerge_v  _ _ _ _ _ hp)
 ·cases h
end Go.Proofs.YtgnnafneglannaaGreatDoor
namespace Go.Proofs.YtgnnafneglannaaGreatDoor
open Go
set_option linter.unusedVariables false
set_option linter.unusedSimpArgs false
def intsEq (xs ys:List (List AV)):Bool:=decide (xs.length=ys.length∧∀ j,j < xs.length→cellI (xs.getD j [])=cellI (ys.getD j []))
theorem intsB_at {xs:List (List AV)} (h:IntsB xs) {i:Nat} (hi:i < xs.length):List.take 1 (xs.getD i [])=[.int .i64 (cellI (xs.getD i []))]:=by
 have e:xs.getD i []=xs[i]:=by rw [List.getD_eq_getElem?_getD,List.getElem?_eq_getElem hi]; rfl
 rw [e]
 obtain ⟨n,hn,_⟩:=h.fi _ (List.getElem_mem hi)
 rw [hn]; rfl
structure IntsP (xs ys:List (List AV)) (i:Int):Prop where
 flo:0≤i
 fhi:i≤xs.length
 fe:∀ j:Nat,(j:Int) < i→cellI (xs.getD j [])=cellI (ys.getD j [])
def intsL (f g:Bool) (xs ys:List (List AV)):LInv:=⟨Int,fun i=>⟨[(0,.sl 1 f xs),(1,.sl 1 g ys),(5,.int .i64 i)],[]⟩,IntsP xs ys,fun i=>(xs.length - i).toNat,none⟩
structure Ln (xs:List (List AV)):Prop where
 fl:xs.length≤9223372036854775807
def kints_s:Sp
 | [.sl 1 f xs,.sl 1 g ys]=>some ((IntsB xs∧IntsB ys)∧Ln xs∧Ln ys,.bool (intsEq xs ys))
 | _=>none
def kints_T:Prop :=
 ∀ (gl:Glob) (f g:Bool) (xs ys:List (List AV)),(IntsB xs∧IntsB ys)∧Ln xs∧Ln ys→True→True→bif decide ¬(↑xs.length:Int)=(↑ys.length:Int) then false=intsEq
 xs ys else (∃ x,IntsP xs ys x∧(((bif f then f=true else True)∧xs=xs)∧((bif g then g=true else True)∧ys=ys)∧(0:Int)=x∧True)∧True)∧∀ (x:Int),IntsP xs
 ys x→bif decide (x < (↑xs.length:Int)) then bif decide ((0:Int)≤x∧x < (↑xs.length:Int)) then ∃ n,List.take [AV.int IntKind.i64 n].length (xs.getD x.toNat [])=[AV.int
 IntKind.i64 n]∧bif decide ((0:Int)≤x∧x < (↑ys.length:Int)) then ∃ n_1,List.take [AV.int IntKind.i64 n_1].length (ys.getD x.toNat [])=[AV.int IntKind.i64 n_1]∧bif
 decide ¬n=n_1 then false=intsEq xs ys else bif decide (rng IntKind.i64 (x+(1:Int))) then ∃ y,IntsP xs ys y∧(intsL f g xs ys).m y < (intsL f g xs ys).m x∧(((bif f then
 f=true else True)∧xs=xs)∧((bif g then g=true else True)∧ys=ys)∧x+(1:Int)=y∧True)∧True else False else False else False else true=intsEq xs ys
theorem kints_P:kints_T:=by
 unfold kints_T
 intro gl f g xs ys ⟨⟨hx,hy⟩,lx,ly⟩
 intros
 have l1:=lx.fl
 have l2:=ly.fl
 have bf:cond f (f=true) True:=by cases f <;> trivial
 have bg:cond g (g=true) True:=by cases g <;> trivial
 refine cs (fun h=>?_) (fun h=>⟨⟨0,⟨by decide,by omega,fun j h=>by omega⟩,⟨⟨bf,rfl⟩,⟨bg,rfl⟩,rfl,trivial⟩,trivial⟩,?_⟩)
 ·exact (decide_eq_false fun q=>by omega).symm
 rintro i ⟨h0,h1,hn⟩
 refine cs (fun hl=>cd1 (by omega) ⟨_,intsB_at hx (by omega),cd1 (by omega) ⟨_,intsB_at hy (by omega),cs (fun q=>?_) (fun q=>?_)⟩⟩) (fun hl=>?_)
 ·exact (decide_eq_false fun z=>q (z.2 i.toNat (by omega))).symm
 ·refine cdI (by omega) ⟨i+1,⟨by omega,by omega,fun j hj=>?_⟩,by simp only [intsL]; omega,⟨⟨bf,rfl⟩,⟨bg,rfl⟩,rfl,trivial⟩,trivial⟩
  rcases Nat.lt_or_ge j i.toNat with k | k
  ·exact hn j (by omega)
  ·rw [show j=i.toNat by omega]; exact Decidable.not_not.1 q
 ·exact (decide_eq_true ⟨by omega,fun j hj=>hn j (by omega)⟩).symm
def kints_S:Prop:=∀ (gl:Glob) (f g:Bool) (xs ys:List (List AV)),(IntsB xs∧IntsB ys)∧Ln xs∧Ln ys→fnK Tryz.prog { glob:=gl,spec:=lk [],specH:=lk [],shape:=[20,24],nowf:=true } { nt:=26,drop:=drp [(1,960),(4,14336),(5,98304),(6,33423360)] } (invs [(4,intsL f g xs ys)]) 6 Tryz.f27 [.sl 1 f xs,.sl 1 g ys] (.bool (intsEq xs ys))
theorem kints_e:kints_T=kints_S:=by kernel_rfl
theorem kints_v:kints_S:=Eq.mp (kints_e ..) (kints_P)
theorem kints_ok (gl:Glob):SOK Tryz.prog gl 27 kints_s:=by
 refine ⟨fok Tryz.func27 (by kernel_rfl) (by kernel_rfl),?_⟩
 intro xs pre r h hp
 unfold kints_s at h
 split at h
 ·simp only [Option.some.injEq,Prod.mk.injEq] at h
  obtain ⟨h1,h2⟩:=h
  subst h1 h2
  exact fnK_sound tyNil (by exact specOK rfl rfl trivial trivial) (by kernel_rfl) Tryz.func27 rfl (kints_v gl _ _ _ _ hp)
 ·cases h
structure InP (xs:List (List AV)) (n i:Int):Prop where
 flo:0≤i
 fhi:i≤xs.length
 fe:∀ j:Nat,(j:Int) < i→¬ cellI (xs.getD j [])=n
end Go.Proofs.YtgnnafneglannaaGreatDoor
namespace Go.Proofs.YtgnnafneglannaaGreatDoor
open Go
set_option linter.unusedVariables false
set_option linter.unusedSimpArgs false
def nm0:ByteArray:=⟨#[48,49,50,51,52]⟩
def rpa:List AV:=rpR 1 nm0 100 0 0 0 0 [[.int .i64 1,.int .i64 10132],[.int .i64 2,.int .i64 2800]]
def rpb:List AV:=rpR 1 nm0 100 0 0 0 0 [[.int .i64 2,.int .i64 2810]]
def aw1:LLA:=[itA 1 nm0 100 0 0 0 0 [[.int .i64 1,.int .i64 10132],[.int .i64 2,.int .i64 2800]] 0 110,itA 1 nm0 100 0 0 0 0 [[.int .i64 2,.int .i64 2810]] 0 110]
def awc:List AV:=itA 1 nm0 100 0 0 0 0 [[.int .i64 2,.int .i64 2805]] 1 120
def aw2:LLA:=aw1++[awc]
theorem aw_tE:tkE [] [rpa,rpb,rpa] 0 110=0:=by kernel_rfl
theorem aw_tN:tkN [] [rpa,rpb,rpa] 0 110=2:=by kernel_rfl
theorem aw_tO:tkO [] [rpa,rpb,rpa] 0 110=aw1:=by kernel_rfl
theorem aw_m1:mrO aw1 0 200 200=[[.int .i64 1,.str nm0,.int .i64 100,.int .i64 0,.int .i64 0,.int .i64 0,.int .i64 0,.sl 2 false [[.int .i64 1,.int .i64 10132]],.int .i64 2,.sl 1 false [[.int .i64 2]]]]:=by kernel_rfl
theorem aw_e1:mrE aw1 0 200=0:=by kernel_rfl
theorem aw_aE:adE aw1 awc=0:=by kernel_rfl
theorem aw_aO:adO aw1 awc=aw2:=by kernel_rfl
theorem aw_m2:mrO aw2 0 200 200=[[.int .i64 1,.str nm0,.int .i64 100,.int .i64 0,.int .i64 0,.int .i64 0,.int .i64 0,.sl 2 false [[.int .i64 2,.int .i64 2805]],.int .i64 1,.sl 1 false []]]:=by kernel_rfl
theorem aw_e2:mrE aw2 0 200=0:=by kernel_rfl
theorem rpa_g:RpG rpa:=⟨_,_,_,_,_,_,_,_,rfl,⟨fun i hi=>by
 have:i=0∨i=1:=by simp at hi; omega
 rcases this with rfl | rfl <;> exact ⟨_,_,rfl,by decide,by decide⟩,by decide⟩,by decide⟩
theorem rpb_g:RpG rpb:=⟨_,_,_,_,_,_,_,_,rfl,⟨fun i hi=>by
 have:i=0:=by simp at hi; omega
 subst this
 exact ⟨_,_,rfl,by decide,by decide⟩,by decide⟩,by decide⟩
theorem aw_tk:TkP [] [rpa,rpb,rpa]:=by
 have g:GdL []:=⟨by simp,by decide⟩
 refine ⟨g.p,fun _=>g,⟨fun i hi=>?_,by decide⟩⟩
 have:i=0∨i=1∨i=2:=by simp at hi; omega
 rcases this with rfl | rfl | rfl
 ·exact rpa_g
 ·exact rpb_g
 ·exact rpa_g
structure AwP (rs:LLA) (co ar:Int):Prop where
 fr:rs=[rpa,rpb,rpa]
 fc:co=0
 fa:ar=110
def itakeN_s (aw1:LLA):Sp
 | [.nils,.sl 8 e rs,.int .i64 co,.int .i64 ar]=>some (AwP rs co ar,.tup [.sl 10 false aw1,.int .i64 2,.int .i64 0])
 | _=>none
theorem itakeN_ok:SOK Tryz.prog glb 20 (itakeN_s aw1):=by
 obtain ⟨hf,h⟩:=itake_ok
 refine ⟨hf,fun xs pre r e hp=>?_⟩
 unfold itakeN_s at e
 split at e
 ·rename_i b rs co ar
  simp only [Option.some.injEq,Prod.mk.injEq] at e
  obtain ⟨rfl,rfl⟩:=e
  obtain ⟨rfl,rfl,rfl⟩:=hp
  have bb:cond b (b=true) True:=by cases b <;> trivial
  have hc:=h [.sl 10 false [],.sl 8 b [rpa,rpb,rpa],.int .i64 0,.int .i64 110] _ _ rfl aw_tk
  rw [aw_tO,aw_tN,aw_tE] at hc
  exact fun w S vs hg ha hv=>hc w S vs hg ha (leL_sound [.nils,.sl 8 b [rpa,rpb,rpa],.int .i64 0,.int .i64 110] _ noNm _ ⟨rfl,⟨bb,rfl⟩,rfl,rfl,trivial⟩ hv)
 ·cases e
theorem rpc_g:RpG (rpR 1 nm0 100 0 0 0 0 [[.int .i64 2,.int .i64 2805]]):=⟨_,_,_,_,_,_,_,_,rfl,⟨fun i hi=>by
 have:i=0:=by simp at hi; omega
 subst this
 exact ⟨_,_,rfl,by decide,by decide⟩,by decide⟩,by decide⟩
theorem aw_g1:GdL aw1:=⟨fun r hr=>by
 simp only [aw1,List.mem_cons,List.not_mem_nil,or_false] at hr
 rcases hr with rfl | rfl
 ·exact ItG.of rpa_g 0 110
 ·exact ItG.of rpb_g 0 110,by decide⟩
theorem aw_g2:GdL aw2:=⟨fun r hr=>by
 rcases List.mem_append.1 hr with hr | hr
 ·exact aw_g1.fg r hr
 ·rw [List.mem_singleton.1 hr]; exact ItG.of rpc_g 1 120,by decide⟩
def iawake_s (aw1:LLA) (mrE:LLA→Int→Int→Int) (mrO:LLA→Int→Int→Int→LLA) (adE:LLA→List AV→Int) (adO:LLA→List AV→LLA):Sp
 | []=>some (True,.bool true)
 | _=>none
def iawake_T (aw1:LLA) (mrE:LLA→Int→Int→Int) (mrO:LLA→Int→Int→Int→LLA) (adE:LLA→List AV→Int) (adO:LLA→List AV→LLA) (inV:LLA→Int) (suC:Int→ByteArray→Int→Int→ByteArray→Int→Int) (ouL:LLA→LLA→LLA) (puE:LLA→List AV→Int) (puN:LLA→List AV→Int) (addI:LLA→List AV→LLA):Prop :=
  AwP [[AV.int .i64 (1:Int),.str { data:=#[(48:UInt8),(49:UInt8),(50:UInt8),(51:UInt8),(52:UInt8)] },.int .i64 (100:Int),.int .i64 (0:Int),.int .i64 (0:Int),.int .i64 (0:Int),.int .i64 (0:Int),.sl (2:Nat) false [[AV.int .i64 (1:Int),.int .i64 (10132:Int)],[AV.int .i64 (2:Int),.int .i64 (2800:Int)]]],[AV.int .i64 (1:Int),.str { data:=#[(48:UInt8),(49:UInt8),(50:UInt8),(51 :
 UInt8),(52:UInt8)] },.int .i64 (100:Int),.int .i64 (0:Int),.int .i64 (0:Int),.int .i64 (0:Int),.int .i64 (0:Int),.sl (2:Nat) false [[AV.int .i64 (2:Int),.int .i64 (2810:Int)]]],[AV.int .i64 (1:Int),.str { data:=#[(48:UInt8),(49:UInt8),(50:UInt8),(51:UInt8),(52:UInt8)] },.int .i64 (100:Int),.int .i64 (0:Int),.int .i64 (0:Int),.int .i64 (0:Int),.int .i64 (0:Int),.sl (2:Nat) false
 [[AV.int .i64 (1:Int),.int .i64 (10132:Int)],[AV.int .i64 (2:Int),.int .i64 (2800:Int)]]]] (0:Int) (110:Int)∧ItsP aw1∧AdP aw1 [[AV.int .i64 (2:Int),.int .i64 (2805:Int)]]∧ItsP (adO aw1 (itA (1:Int) { data:=#[(48:UInt8),(49:UInt8),(50:UInt8),(51:UInt8),(52:UInt8)] } (100:Int) (0:Int) (0:Int) (0:Int) (0:Int) [[AV.int .i64 (2:Int),.int .i64 (2805:Int)]] (1:Int) (120:Int)))∧bif decide (mrE
 aw1 (0:Int) (200:Int)=0) then bif decide (adE aw1 (itA (1:Int) { data:=#[(48:UInt8),(49:UInt8),(50:UInt8),(51:UInt8),(52:UInt8)] } (100:Int) (0:Int) (0:Int) (0:Int) (0:Int) [[AV.int .i64 (2:Int),.int .i64 (2805:Int)]] (1:Int) (120:Int))=(0:Int)) then bif decide (mrE (adO aw1 (itA (1:Int) { data:=#[(48:UInt8),(49:UInt8),(50:UInt8),(51:UInt8),(52:UInt8)] } (100:Int) (0:Int)
 (0:Int) (0:Int) (0:Int) [[AV.int .i64 (2:Int),.int .i64 (2805:Int)]] (1:Int) (120:Int))) (0:Int) (200:Int)=0) then bif decide ((↑(List.length (mrO aw1 (0:Int) (200:Int) (200:Int))):Int)=(1:Int)) then bif decide ((0:Int)≤(0:Int)∧(0:Int) < (↑(List.length (mrO aw1 (0:Int) (200:Int) (200:Int))):Int)) then ∃ xs,List.take [AV.sl (1:Nat) false xs].length (List.drop (9:Nat) (List.getD (mrO aw1 (0:Int)
 (200:Int) (200:Int)) (0:Nat) []))=[AV.sl (1:Nat) false xs]∧((IntsB xs∧IntsB [[AV.int .i64 (2:Int)]])∧Ln xs∧Ln [[AV.int .i64 (2:Int)]])∧bif intsEq xs [[AV.int .i64 (2:Int)]] then bif decide ((0:Int)≤(0:Int)∧(0:Int) < (↑(List.length (mrO aw1 (0:Int) (200:Int) (200:Int))):Int)) then ∃ xs,List.take [AV.sl (2:Nat) false xs].length (List.drop (7:Nat) (List.drop (0:Nat) (List.getD (mrO aw1 (0:Int)
 (200:Int) (200:Int)) (0:Nat) [])))=[AV.sl (2:Nat) false xs]∧bif decide ((↑xs.length:Int)=(1:Int)) then bif decide ((↑(List.length (mrO (adO aw1 (itA (1:Int) { data:=#[(48:UInt8),(49:UInt8),(50:UInt8),(51:UInt8),(52:UInt8)] } (100:Int) (0:Int) (0:Int) (0:Int) (0:Int) [[AV.int .i64 (2:Int),.int .i64 (2805:Int)]] (1:Int) (120:Int))) (0:Int) (200:Int) (200:Int))):Int)=(1:Int)) then bif
 decide ((0:Int)≤(0:Int)∧(0:Int) < (↑(List.length (mrO (adO aw1 (itA (1:Int) { data:=#[(48:UInt8),(49:UInt8),(50:UInt8),(51:UInt8),(52:UInt8)] } (100:Int) (0:Int) (0:Int) (0:Int) (0:Int) [[AV.int .i64 (2:Int),.int .i64 (2805:Int)]] (1:Int) (120:Int))) (0:Int) (200:Int) (200:Int))):Int)) then ∃ n,List.take [AV.int .i64 n].length (List.drop (8:Nat) (List.getD (mrO (adO aw1 (itA (1:Int) {
 data:=#[(48:UInt8),(49:UInt8),(50:UInt8),(51:UInt8),(52:UInt8)] } (100:Int) (0:Int) (0:Int) (0:Int) (0:Int) [[AV.int .i64 (2:Int),.int .i64 (2805:Int)]] (1:Int) (120:Int))) (0:Int) (200:Int) (200:Int)) (0:Nat) []))=[AV.int .i64 n]∧bif decide (n=(1:Int)) then bif decide ((0:Int)≤(0:Int)∧(0:Int) < (↑(List.length (mrO (adO aw1 (itA (1:Int) { data:=#[(48:UInt8),(49:UInt8),(50 :
 UInt8),(51:UInt8),(52:UInt8)] } (100:Int) (0:Int) (0:Int) (0:Int) (0:Int) [[AV.int .i64 (2:Int),.int .i64 (2805:Int)]] (1:Int) (120:Int))) (0:Int) (200:Int) (200:Int))):Int)) then ∃ xs,List.take [AV.sl (2:Nat) false xs].length (List.drop (7:Nat) (List.drop (0:Nat) (List.getD (mrO (adO aw1 (itA (1:Int) { data:=#[(48:UInt8),(49:UInt8),(50:UInt8),(51:UInt8),(52:UInt8)] } (100:Int)
 (0:Int) (0:Int) (0:Int) (0:Int) [[AV.int .i64 (2:Int),.int .i64 (2805:Int)]] (1:Int) (120:Int))) (0:Int) (200:Int) (200:Int)) (0:Nat) [])))=[AV.sl (2:Nat) false xs]∧bif decide ((0:Int)≤(0:Int)∧(0:Int) < (↑xs.length:Int)) then ∃ n,List.take [AV.int .i64 n].length (List.drop (1:Nat) (xs.getD (0:Nat) []))=[AV.int .i64 n]∧decide (n=(2805:Int))=true else False else False else false=true else False
 else false=true else false=true else False else false=true else False else false=true else false=true else false=true else false=true
theorem iawake_P:iawake_T aw1 mrE mrO adE adO inV suC ouL puE puN addI:=by
 unfold iawake_T
 have hO:adO aw1 (itA 1 ⟨#[48,49,50,51,52]⟩ 100 0 0 0 0 [[.int .i64 2,.int .i64 2805]] 1 120)=aw2:=aw_aO
 have hE:adE aw1 (itA 1 ⟨#[48,49,50,51,52]⟩ 100 0 0 0 0 [[.int .i64 2,.int .i64 2805]] 1 120)=0:=aw_aE
 have hi:intsEq [[.int .i64 2]] [[.int .i64 2]]=true:=by kernel_rfl
 have hb:IntsB [[.int .i64 2]]:=ints_of [2] (by decide)
 have hl:Ln [[.int .i64 2]]:=⟨by decide⟩
 refine ⟨⟨rfl,rfl,rfl⟩,aw_g1.p,⟨aw_g1.p,fun _=>aw_g1,⟨fun i hi=>?_,by decide⟩,by decide⟩,by rw [hO]; exact aw_g2.p,?_⟩
 ·have:i=0:=by simp at hi; omega
  subst this
  exact ⟨_,_,rfl,by decide,by decide⟩
 rw [hO,hE,aw_e1,aw_e2,aw_m1,aw_m2]
 refine cd1 rfl (cd1 rfl (cd1 rfl (cd1 rfl (cd1 (by decide) ⟨_,rfl,⟨⟨hb,hb⟩,hl,hl⟩,?_⟩))))
 rw [hi,cond_true]
 refine cd1 (by decide) ⟨_,rfl,?_⟩
 refine cd1 rfl ?_
 refine cd1 rfl ?_
 refine cd1 (by decide) ⟨_,rfl,?_⟩
 refine cd1 rfl ?_
 refine cd1 (by decide) ⟨_,rfl,?_⟩
 refine cd1 (by decide) ⟨_,rfl,?_⟩
 rfl
def iawake_S (aw1:LLA) (mrE:LLA→Int→Int→Int) (mrO:LLA→Int→Int→Int→LLA) (adE:LLA→List AV→Int) (adO:LLA→List AV→LLA) (inV:LLA→Int) (suC:Int→ByteArray→Int→Int→ByteArray→Int→Int) (ouL:LLA→LLA→LLA) (puE:LLA→List AV→Int) (puN:LLA→List AV→Int) (addI:LLA→List AV→LLA):Prop:=fnK Tryz.prog { glob:=glb,spec:=lk [(20,(itakeN_s aw1)),(24,(imerge_s inV suC ouL mrE mrO)),(17,(iadd_s inV puE puN addI adE adO)),(27,kints_s)],specH:=lk [],shape:=[77,86,99,107,110],slz:=[(77,[1]),(86,[2]),(107,[2])],nowf:=true } { nt:=113,drop:=drp [(1,61440),(2,458752),(3,3670016),(4,2143289344),(5,135291469824),(6,17454747090944),(7,1108307720798208),(8,10384593717069655255935092751597568)],frz:=fun id=>cond (Nat.beq id 4) [1000014,1000017] (cond (Nat.beq id 6) [1000020] []) } (fun _ _=>none) 6 Tryz.f6 [] (.bool true)
theorem iawake_e (aw1:LLA) (mrE:LLA→Int→Int→Int) (mrO:LLA→Int→Int→Int→LLA) (adE:LLA→List AV→Int) (adO:LLA→List AV→LLA) (inV:LLA→Int) (suC:Int→ByteArray→Int→Int→ByteArray→Int→Int) (ouL:LLA→LLA→LLA) (puE:LLA→List AV→Int) (puN:LLA→List AV→Int) (addI:LLA→List AV→LLA):iawake_T aw1 mrE mrO adE adO inV suC ouL puE puN addI=iawake_S aw1 mrE mrO adE adO inV suC ouL puE puN addI:=by kernel_rfl
theorem iawake_v:iawake_S aw1 mrE mrO adE adO inV suC ouL puE puN addI:=Eq.mp (iawake_e ..) (iawake_P)
theorem iawake_ok:SOK Tryz.prog glb 6 (iawake_s aw1 mrE mrO adE adO):=by
 refine ⟨fok Tryz.func6 (by kernel_rfl) (by kernel_rfl),?_⟩
 intro xs pre r h hp
 unfold iawake_s at h
 split at h
 ·simp only [Option.some.injEq,Prod.mk.injEq] at h
  obtain ⟨h1,h2⟩:=h
  subst h1 h2
  exact fnK_sound tyNil (by exact specOK rfl rfl ⟨(itakeN_ok),(imerge_ok),(iadd_ok),(kints_ok glb),trivial⟩ trivial) (by kernel_rfl) Tryz.func6 rfl (iawake_v  )
 ·cases h
end Go.Proofs.YtgnnafneglannaaGreatDoor
namespace Go.Proofs.YtgnnafneglannaaGreatDoor
open Go
set_option linter.unusedVariables false
set_option linter.unusedSimpArgs false
structure WinQ (m fr to cut j:Int):Prop where
 ff:m - 150≤fr∧fr≤m
 ft:m - 5≤to∧to≤m+150
 fc:m - 70≤cut∧cut≤m+310
 fj:0≤j
def qwindow_s:SpQ
 | [.ptr 0 0,.int .i64 m],[.cells [.sl 1 false xs,.int .i64 i]]=>some (fun K=>(SrcQ xs i∧0≤m∧m≤52595999)∧(∀ (fr to cut j:Int),(WinQ m fr to cut j)→K (.agg [.int .i64 fr,.int .i64 to,.int .i64 cut]) [.cells [.sl 1 false xs,.int .i64 j]]))
 | _,_=>none
def qwindow_T:Prop :=
 ∀ (gl:Glob) (xs:List (List AV)) (i m:Int),SrcQ xs i∧(0:Int)≤m∧m≤(52595999:Int)→SrcQ xs i∧∀ (v j:Int),NumQ (150:Int) v j→bif decide (rng IntKind.i64 (m
 - v)) then (SrcQ xs j∧(-5:Int)≤(150:Int)∧(-1000000000:Int)≤(-5:Int)∧(150:Int)≤(1000000000:Int))∧∀ (v_1 j:Int),((-5:Int)≤v_1∧v_1≤(150:Int)) ∧
 (0:Int)≤j→bif decide (rng IntKind.i64 (m+v_1)) then (SrcQ xs j∧(-70:Int)≤(310:Int)∧(-1000000000:Int)≤(-70:Int)∧(310:Int)≤(1000000000:Int))∧∀ (v_2
 j:Int),((-70:Int)≤v_2∧v_2≤(310:Int))∧(0:Int)≤j→bif decide (rng IntKind.i64 (m+v_2)) then ∃ fr to cut j_1,WinQ m fr to cut j_1∧(m - v=fr∧m+v_1=to ∧
 m+v_2=cut∧True)∧((True∧xs=xs)∧j=j_1∧True)∧True else False else False else False
theorem qwindow_P:qwindow_T:=by
 unfold qwindow_T
 intro gl xs i m ⟨hs,h1,h2⟩
 have s:=hs.s
 refine ⟨hs,fun v j q=>?_⟩
 have hv:=q.fv (by omega)
 exact cdI (by omega) ⟨⟨⟨s,q.fj⟩,by decide,by decide,by decide⟩,fun v1 j q1=>cdI (by omega) ⟨⟨⟨s,q1.2⟩,by decide,by decide,by decide⟩,fun v2 j q2=>cdI (by omega) ⟨_,_,_,j,⟨by omega,by omega,by omega,q2.2⟩,⟨rfl,rfl,rfl,trivial⟩,sT⟩⟩⟩
def qwindow_S:Prop:=∀ (gl:Glob) (xs:List (List AV)) (i m:Int),SrcQ xs i∧0≤m∧m≤52595999→fnQ Tryz.prog { glob:=gl,spec:=lk [],specH:=lk [],specQ:=lk [(11,qn_s),(12,qrange_s)],nowf:=true } { nt:=18,drop:=drp [(1,262112)],fr:=1000,kp:=[0] } (fun _ _=>none) 6 Tryz.f23 [.ptr 0 0,.int .i64 m] [.cells [.sl 1 false xs,.int .i64 i]] (fun r2 bs2=>∃ (fr to cut j:Int),(WinQ m fr to cut j)∧le r2 (.agg [.int .i64 fr,.int .i64 to,.int .i64 cut])∧leBs bs2 [.cells [.sl 1 false xs,.int .i64 j]])
theorem qwindow_e:qwindow_T=qwindow_S:=by kernel_rfl
theorem qwindow_v:qwindow_S:=Eq.mp (qwindow_e ..) (qwindow_P)
theorem qwindow_ok (gl:Glob):QOK Tryz.prog gl 23 qwindow_s:=by
 refine ⟨fok Tryz.func23 (by kernel_rfl) (by kernel_rfl),?_⟩
 intro xs bs T h K hT
 unfold qwindow_s at h
 split at h
 ·simp only [Option.some.injEq] at h
  subst h
  obtain ⟨hp,hK⟩:=hT
  obtain ⟨r,bs2,⟨o0,o1,o2,o3,hq,hl,hb⟩,hC⟩:=fnQ_sound tyNil (by exact specOK rfl rfl trivial trivial (d:=qsOf rfl ⟨(qn_ok gl),(qrange_ok gl),trivial⟩)) (by kernel_rfl) Tryz.func23 (qwindow_v gl _ _ _ hp)
  exact ⟨_,_,hK o0 o1 o2 o3 hq,hC.le hl hb⟩
 ·cases h
end Go.Proofs.YtgnnafneglannaaGreatDoor
namespace Go.Proofs.YtgnnafneglannaaGreatDoor
open Go
set_option linter.unusedVariables false
set_option linter.unusedSimpArgs false
def rsame_s (rdC:LLA→LLA→Int) (cmpI:Int→Int→Int) (cmpS:ByteArray→ByteArray→Int):Sp
 | [.agg [.int .i64 k,.str n,.int .i64 t,.int .i64 f,.int .i64 a,.int .i64 b,.int .i64 c,.sl 2 h rd],.agg [.int .i64 k2,.str n2,.int .i64 t2,.int .i64 f2,.int .i64 a2,.int .i64 b2,.int .i64 c2,.sl 2 h2 rd2]]=>some (RdsP rd∧RdsP rd2,.bool (decide (orI (cmpI k k2) (orI (cmpS n n2) (orI (cmpI t t2) (orI (cmpI f f2) (orI (cmpI a a2) (orI (cmpI b b2) (orI (cmpI c c2) (rdC rd rd2)))))))=0)))
 | _=>none
def rsame_T (rdC:LLA→LLA→Int) (cmpI:Int→Int→Int) (cmpS:ByteArray→ByteArray→Int):Prop :=
  ∀ (gl:Glob) (k t f a b c k2 t2 f2 a2 b2 c2:Int) (n n2:ByteArray) (rd rd2:List (List AV)) (h h2:Bool),RdsP rd∧RdsP rd2→((-9223372036854775808:Int)≤k∧k ≤
  (9223372036854775807:Int))∧n.size.le (9223372036854775807:Nat)∧((-9223372036854775808:Int)≤t∧t≤(9223372036854775807:Int))∧((-9223372036854775808:Int)≤f∧f
 ≤(9223372036854775807:Int))∧((-9223372036854775808:Int)≤a∧a≤(9223372036854775807:Int))∧((-9223372036854775808:Int)≤b∧b≤(9223372036854775807:Int)) ∧
  ((-9223372036854775808:Int)≤c∧c≤(9223372036854775807:Int))∧True∧True→((-9223372036854775808:Int)≤k2∧k2≤(9223372036854775807:Int))∧n2.size.le
  (9223372036854775807:Nat)∧((-9223372036854775808:Int)≤t2∧t2≤(9223372036854775807:Int))∧((-9223372036854775808:Int)≤f2∧f2≤(9223372036854775807:Int)) ∧
  ((-9223372036854775808:Int)≤a2∧a2≤(9223372036854775807:Int))∧((-9223372036854775808:Int)≤b2∧b2≤(9223372036854775807:Int))∧((-9223372036854775808:Int)≤c2
 ∧c2≤(9223372036854775807:Int))∧True∧True→(RdsP rd∧RdsP rd2)∧decide (orI (cmpI k k2) (orI (cmpS n n2) (orI (cmpI t t2) (orI (cmpI f f2) (orI (cmpI a a2) (orI (cmpI b
  b2) (orI (cmpI c c2) (rdC rd rd2)))))))=(0:Int))=decide (orI (cmpI k k2) (orI (cmpS n n2) (orI (cmpI t t2) (orI (cmpI f f2) (orI (cmpI a a2) (orI (cmpI b b2) (orI (cmpI c c2)
  (rdC rd rd2)))))))=(0:Int))
theorem rsame_P:rsame_T rdC cmpI cmpS:=by
 unfold rsame_T
 intro gl k t f a b c k2 t2 f2 a2 b2 c2 n n2 rd rd2 h h2 hp _ _
 exact ⟨hp,rfl⟩
def rsame_S (rdC:LLA→LLA→Int) (cmpI:Int→Int→Int) (cmpS:ByteArray→ByteArray→Int):Prop:=∀ (gl:Glob) (k t f a b c k2 t2 f2 a2 b2 c2:Int) (n n2:ByteArray) (rd rd2:List (List AV)) (h h2:Bool),RdsP rd∧RdsP rd2→fnK Tryz.prog { glob:=gl,spec:=lk [(57,(rcmp_s rdC cmpI cmpS))],specH:=lk [],nowf:=true } { nt:=9,drop:=drp [(1,480)] } (fun _ _=>none) 6 Tryz.f45 [.agg [.int .i64 k,.str n,.int .i64 t,.int .i64 f,.int .i64 a,.int .i64 b,.int .i64 c,.sl 2 h rd],.agg [.int .i64 k2,.str n2,.int .i64 t2,.int .i64 f2,.int .i64 a2,.int .i64 b2,.int .i64 c2,.sl 2 h2 rd2]] (.bool (decide (orI (cmpI k k2) (orI (cmpS n n2) (orI (cmpI t t2) (orI (cmpI f f2) (orI (cmpI a a2) (orI (cmpI b b2) (orI (cmpI c c2) (rdC rd rd2)))))))=0)))
theorem rsame_e (rdC:LLA→LLA→Int) (cmpI:Int→Int→Int) (cmpS:ByteArray→ByteArray→Int):rsame_T rdC cmpI cmpS=rsame_S rdC cmpI cmpS:=by kernel_rfl
theorem rsame_v:rsame_S rdC cmpI cmpS:=Eq.mp (rsame_e ..) (rsame_P)
theorem rsame_ok (gl:Glob):SOK Tryz.prog gl 45 (rsame_s rdC cmpI cmpS):=by
 refine ⟨fok Tryz.func45 (by kernel_rfl) (by kernel_rfl),?_⟩
 intro xs pre r h hp
 unfold rsame_s at h
 split at h
 ·simp only [Option.some.injEq,Prod.mk.injEq] at h
  obtain ⟨h1,h2⟩:=h
  subst h1 h2
  exact fnK_sound tyNil (by exact specOK rfl rfl ⟨(rcmp_ok gl),trivial⟩ trivial) (by kernel_rfl) Tryz.func45 rfl (rsame_v gl _ _ _ _ _ _ _ _ _ _ _ _ _ _ _ _ _ _ hp)
 ·cases h
theorem or_same (k t f a b c:Int) (n:ByteArray) (rd:LLA):orI (cmpI k k) (orI (cmpS n n) (orI (cmpI t t) (orI (cmpI f f) (orI (cmpI a a) (orI (cmpI b b) (orI (cmpI c c) (rdC rd rd)))))))=0:=by
 have hc:∀ z:Int,cmpI z z=0:=fun z=>by unfold cmpI; simp
 have hs:cmpS n n=0:=by rw [← lex_nm0]; exact lexI_rfl _
 have hr:rdC rd rd=0:=lexI_rfl _
 rw [hc,hc,hc,hc,hc,hc,hs,hr]
 rfl
structure MgS (r:List AV):Prop where
 fr:∃ (k:Int) (nm:ByteArray) (t f a b c:Int) (rd:LLA) (vs:Int) (cs:LLA),r=[.int .i64 k,.str nm,.int .i64 t,.int .i64 f,.int .i64 a,.int .i64 b,.int .i64 c,.sl 2 false rd,.int .i64 vs,.sl 1 false cs]∧RdsP rd∧IntsB cs∧cs.length≤9223372036854775807
structure MgL (l:LLA):Prop where
 fr:∀ i,i < l.length→MgS (l.getD i [])
 fl:l.length≤9223372036854775807
structure SmO (a:LLA) (i:Int):Prop where
 flo:0≤i
 fhi:i≤a.length
def so4 (a b:LLA) (g h:Bool):LInv:=⟨Int,fun i=>⟨[(0,.sl 10 g a),(1,.sl 10 h b),(5,.int .i64 i)],[]⟩,SmO a,fun i=>(a.length - i).toNat,none⟩
structure SmN (cs:LLA) (q:Int):Prop where
 flo:0≤q
 fhi:q≤cs.length
def so10 (a b:LLA) (g h:Bool) (i:Int) (u v:List AV) (cs:LLA):LInv:=⟨Int,fun q=>⟨[(0,.sl 10 g a),(1,.sl 10 h b),(5,.int .i64 i),(6,.ptr 6 0),(7,.ptr 7 0),(8,.int .i64 q)],[(6,.cells u),(7,.cells v)]⟩,SmN cs,fun q=>(cs.length - q).toNat,none⟩
def soJ (a b:LLA) (g h:Bool) (id:Nat) (st:St):Option LInv:=cond (Nat.beq id 4) (some (so4 a b g h)) (cond (Nat.beq id 10) (match lk st.tmps 5,lk st.heap 6,lk st.heap 7 with
 | some (.int _ i),some (.cells [u0,u1,u2,u3,u4,u5,u6,u7,u8,.sl 1 _ cs]),some (.cells v)=>some (so10 a b g h i [u0,u1,u2,u3,u4,u5,u6,u7,u8,.sl 1 false cs] v cs)
 | _,_,_=>none) none)
def rsmm_s (rdC:LLA→LLA→Int) (cmpI:Int→Int→Int) (cmpS:ByteArray→ByteArray→Int):Sp
 | [.sl 10 g a,.sl 10 h b]=>some (MgL a∧b=a,.bool true)
 | _=>none
def rsmm_T (rdC:LLA→LLA→Int) (cmpI:Int→Int→Int) (cmpS:ByteArray→ByteArray→Int):Prop :=
  ∀ (gl:Glob) (a b:List (List AV)) (g h:Bool),MgL a∧b=a→True→True→bif decide ¬(↑a.length:Int)=(↑b.length:Int) then false=true else (∃ x,SmO a x∧(((bif g
  then g=true else True)∧a=a)∧((bif h then h=true else True)∧b=b)∧(0:Int)=x∧True)∧True)∧∀ (x:Int),SmO a x→bif decide (x < (↑a.length:Int)) then bif
  decide ((0:Int)≤x∧x < (↑a.length:Int)) then ∃ n s n_1 n_2 n_3 n_4 n_5 xs n_6 xs_1,List.take [AV.int IntKind.i64 n,AV.str s,AV.int IntKind.i64 n_1,AV.int IntKind.i64
  n_2,AV.int IntKind.i64 n_3,AV.int IntKind.i64 n_4,AV.int IntKind.i64 n_5,AV.sl (2:Nat) false xs,AV.int IntKind.i64 n_6,AV.sl (1:Nat) false xs_1].length (a.getD x.toNat
  [])=[AV.int IntKind.i64 n,AV.str s,AV.int IntKind.i64 n_1,AV.int IntKind.i64 n_2,AV.int IntKind.i64 n_3,AV.int IntKind.i64 n_4,AV.int IntKind.i64 n_5,AV.sl (2:Nat) false
  xs,AV.int IntKind.i64 n_6,AV.sl (1:Nat) false xs_1]∧bif decide ((0:Int)≤x∧x < (↑b.length:Int)) then ∃ n_7 s_1 n_8 n_9 n_10 n_11 n_12 xs_2 n_13 xs_3,List.take [AV.int
  IntKind.i64 n_7,AV.str s_1,AV.int IntKind.i64 n_8,AV.int IntKind.i64 n_9,AV.int IntKind.i64 n_10,AV.int IntKind.i64 n_11,AV.int IntKind.i64 n_12,AV.sl (2:Nat) false xs_2,
  AV.int IntKind.i64 n_13,AV.sl (1:Nat) false xs_3].length (b.getD x.toNat [])=[AV.int IntKind.i64 n_7,AV.str s_1,AV.int IntKind.i64 n_8,AV.int IntKind.i64 n_9,AV.int
  IntKind.i64 n_10,AV.int IntKind.i64 n_11,AV.int IntKind.i64 n_12,AV.sl (2:Nat) false xs_2,AV.int IntKind.i64 n_13,AV.sl (1:Nat) false xs_3]∧(RdsP xs∧RdsP xs_2)∧bif
  !decide (orI (cmpI n n_7) (orI (cmpS s s_1) (orI (cmpI n_1 n_8) (orI (cmpI n_2 n_9) (orI (cmpI n_3 n_10) (orI (cmpI n_4 n_11) (orI (cmpI n_5 n_12) (rdC xs xs_2)))))))=(0:Int))
  then false=true else bif decide ¬n_6=n_13 then false=true else bif decide ¬(↑xs_1.length:Int)=(↑xs_3.length:Int) then false=true else (∃ x_1,SmN xs_1 x_1∧(((bif g
  then g=true else True)∧a=a)∧((bif h then h=true else True)∧b=b)∧x=x∧(0:Nat)=(0:Nat)∧(0:Nat)=(0:Nat)∧(0:Int)=x_1∧True)∧(n=n∧s=s ∧
  n_1=n_1∧n_2=n_2∧n_3=n_3∧n_4=n_4∧n_5=n_5∧(True∧xs=xs)∧n_6=n_6∧(True∧xs_1=xs_1)∧True)∧(n_7=n_7∧s_1=s_1∧n_8=n_8∧n_9=n_9∧n_10 =
  n_10∧n_11=n_11∧n_12=n_12∧(True∧xs_2=xs_2)∧n_13=n_13∧(True∧xs_3=xs_3)∧True)∧True)∧∀ (x_1:Int),SmN xs_1 x_1→bif decide (x_1 < (↑xs_1.length:Int))
  then bif decide ((0:Int)≤x_1∧x_1 < (↑xs_1.length:Int)) then ∃ n_14,List.take [AV.int IntKind.i64 n_14].length (xs_1.getD x_1.toNat [])=[AV.int IntKind.i64 n_14]∧bif
  decide ((0:Int)≤x_1∧x_1 < (↑xs_3.length:Int)) then ∃ n_15,List.take [AV.int IntKind.i64 n_15].length (xs_3.getD x_1.toNat [])=[AV.int IntKind.i64 n_15]∧bif decide
  ¬n_14=n_15 then false=true else bif decide (rng IntKind.i64 (x_1+(1:Int))) then ∃ y,SmN xs_1 y∧(so10 a b g h x [AV.int IntKind.i64 n,AV.str s,AV.int IntKind.i64 n_1,
  AV.int IntKind.i64 n_2,AV.int IntKind.i64 n_3,AV.int IntKind.i64 n_4,AV.int IntKind.i64 n_5,AV.sl (2:Nat) false xs,AV.int IntKind.i64 n_6,AV.sl (1:Nat) false xs_1]
  [AV.int IntKind.i64 n_7,AV.str s_1,AV.int IntKind.i64 n_8,AV.int IntKind.i64 n_9,AV.int IntKind.i64 n_10,AV.int IntKind.i64 n_11,AV.int IntKind.i64 n_12,AV.sl (2:Nat)
  false xs_2,AV.int IntKind.i64 n_13,AV.sl (1:Nat) false xs_3] xs_1).m y < (so10 a b g h x [AV.int IntKind.i64 n,AV.str s,AV.int IntKind.i64 n_1,AV.int IntKind.i64 n_2,AV.int
  IntKind.i64 n_3,AV.int IntKind.i64 n_4,AV.int IntKind.i64 n_5,AV.sl (2:Nat) false xs,AV.int IntKind.i64 n_6,AV.sl (1:Nat) false xs_1] [AV.int IntKind.i64 n_7,AV.str s_1,
  AV.int IntKind.i64 n_8,AV.int IntKind.i64 n_9,AV.int IntKind.i64 n_10,AV.int IntKind.i64 n_11,AV.int IntKind.i64 n_12,AV.sl (2:Nat) false xs_2,AV.int IntKind.i64 n_13,
  AV.sl (1:Nat) false xs_3] xs_1).m x_1∧(((bif g then g=true else True)∧a=a)∧((bif h then h=true else True)∧b=b)∧x=x∧(0:Nat)=(0:Nat)∧(0:Nat)=(0 :
  Nat)∧x_1+(1:Int)=y∧True)∧(n=n∧s=s∧n_1=n_1∧n_2=n_2∧n_3=n_3∧n_4=n_4∧n_5=n_5∧(True∧xs=xs)∧n_6=n_6∧(True∧xs_1=xs_1)∧True)∧(n_7
 =n_7∧s_1=s_1∧n_8=n_8∧n_9=n_9∧n_10=n_10∧n_11=n_11∧n_12=n_12∧(True∧xs_2=xs_2)∧n_13=n_13∧(True∧xs_3=xs_3)∧True)∧True else False else False
  else False else bif decide (rng IntKind.i64 (x+(1:Int))) then ∃ y,SmO a y∧(so4 a b g h).m y < (so4 a b g h).m x∧(((bif g then g=true else True)∧a=a)∧((bif h then h
 =true else True)∧b=b)∧x+(1:Int)=y∧True)∧True else False else False else False else true=true
theorem rsmm_P:rsmm_T rdC cmpI cmpS:=by
 unfold rsmm_T
 intro gl a b g h ⟨hp,e⟩ _ _
 subst e
 have bg:cond g (g=true) True:=by cases g <;> trivial
 have bh:cond h (h=true) True:=by cases h <;> trivial
 have ln:=hp.fl
 refine csx (fun w=>absurd rfl w) (fun _=>⟨⟨0,⟨by decide,by omega⟩,⟨⟨bg,rfl⟩,⟨bh,rfl⟩,rfl,trivial⟩,trivial⟩,?_⟩)
 rintro i ⟨i0,i1⟩
 refine csx (fun hi=>cd1 (by omega) ?_) (fun _=>rfl)
 obtain ⟨k,nm,t,f,x,y,c,rd,vs,cs,h1,h2,h3,h4⟩:=(hp.fr i.toNat (by omega)).fr
 refine ⟨k,nm,t,f,x,y,c,rd,vs,cs,by rw [h1]; rfl,cd1 (by omega) ⟨k,nm,t,f,x,y,c,rd,vs,cs,by rw [h1]; rfl,⟨h2,h2⟩,?_⟩⟩
 rw [or_same,decide_eq_true rfl,Bool.not_true,cond_false]
 refine csx (fun w=>absurd rfl w) (fun _=>csx (fun w=>absurd rfl w) (fun _=>⟨⟨0,⟨by decide,by omega⟩,?_⟩,?_⟩))
 ·(repeat' (first | exact trivial | exact rfl | assumption | apply And.intro))
 rintro q ⟨q0,q1⟩
 refine csx (fun hq=>cd1 (by omega) ⟨_,intsB_at h3 (by omega),cd1 (by omega) ⟨_,intsB_at h3 (by omega),csx (fun w=>absurd rfl w) (fun _=>cdI (by omega) ⟨q+1,⟨by omega,by omega⟩,by simp only [so10]; omega,?_⟩)⟩⟩) (fun _=>cdI (by omega) ⟨i+1,⟨by omega,by omega⟩,by simp only [so4]; omega,⟨⟨bg,rfl⟩,⟨bh,rfl⟩,rfl,trivial⟩,trivial⟩)
 (repeat' (first | exact trivial | exact rfl | assumption | apply And.intro))
def rsmm_S (rdC:LLA→LLA→Int) (cmpI:Int→Int→Int) (cmpS:ByteArray→ByteArray→Int):Prop:=∀ (gl:Glob) (a b:List (List AV)) (g h:Bool),MgL a∧b=a→fnK Tryz.prog { glob:=gl,spec:=lk [(45,(rsame_s rdC cmpI cmpS))],specH:=lk [],shape:=[23,27,61,66],slz:=[(23,[2,1]),(27,[2,1])],nowf:=true } { nt:=68,drop:=drp [(1,7680),(4,114688),(5,786432),(6,267386880),(7,562949684985856),(10,16888498602639360),(11,108086391056891904),(12,147429837401600557056)] } (soJ a b g h) 6 Tryz.f26 [.sl 10 g a,.sl 10 h b] (.bool true)
theorem rsmm_e (rdC:LLA→LLA→Int) (cmpI:Int→Int→Int) (cmpS:ByteArray→ByteArray→Int):rsmm_T rdC cmpI cmpS=rsmm_S rdC cmpI cmpS:=by kernel_rfl
theorem rsmm_v:rsmm_S rdC cmpI cmpS:=Eq.mp (rsmm_e ..) (rsmm_P)
theorem rsmm_ok (gl:Glob):SOK Tryz.prog gl 26 (rsmm_s rdC cmpI cmpS):=by
 refine ⟨fok Tryz.func26 (by kernel_rfl) (by kernel_rfl),?_⟩
 intro xs pre r h hp
 unfold rsmm_s at h
 split at h
 ·simp only [Option.some.injEq,Prod.mk.injEq] at h
  obtain ⟨h1,h2⟩:=h
  subst h1 h2
  exact fnK_sound tyNil (by exact specOK rfl rfl ⟨(rsame_ok gl),trivial⟩ trivial) (by kernel_rfl) Tryz.func26 rfl (rsmm_v gl _ _ _ _ hp)
 ·cases h
end Go.Proofs.YtgnnafneglannaaGreatDoor
namespace Go.Proofs.YtgnnafneglannaaGreatDoor
open Go
set_option linter.unusedVariables false
set_option linter.unusedSimpArgs false
theorem bsF_filter (P:List Int→Bool) (q:List Int) (hq:P q=true):∀ F:LLA,bsF (F.filter fun x=>P (itKy x)) q=bsF F q :=
 snoc_ind rfl fun l x ih=>by
  rw [List.filter_append,bsF_snoc]
  cases hp:P (itKy x) with
  | true =>
   have e:[x].filter (fun x=>P (itKy x))=[x]:=by simp [hp]
   rw [e,bsF_snoc,ih]
  | false =>
   have e:[x].filter (fun x=>P (itKy x))=[]:=by simp [hp]
   rw [e,List.append_nil,ih,if_neg (fun z=>by rw [z,hq] at hp; cases hp)]
theorem vsF_filter (P:List Int→Bool) (q:List Int) (hq:P q=true) (F:LLA):vsF (F.filter fun x=>P (itKy x)) q=vsF F q:=by
 unfold vsF
 rw [bsF_filter P q hq,List.filter_filter]
 refine List.filter_congr fun x _=>?_
 by_cases e:itKy x=q
 ·simp [e,hq]
 ·simp [e]
def kT (ks:List Int):Int:=ks.getLast?.getD 0
theorem kT_ky {x:List AV} (h:ItS x):kT (itKy x)=itTm x:=by
 obtain ⟨k,nm,t,f,a,b,c,rd,co,ar,rfl⟩:=h.fr
 show ((k::(nmK nm.toList++[t])).getLast?).getD 0=t
 rw [← List.cons_append,List.getLast?_concat]; rfl
theorem OkL.its {l:LLA} (h:OkL l):∀ x ∈ l,ItS x:=fun x hx=>by
 obtain ⟨k,nm,t,f,a,b,c,rd,co,ar,e,_⟩:=h.row hx
 exact ⟨_,_,_,_,_,_,_,_,_,_,e⟩
theorem mrF_ord {l:LLA} {fr to cut:Int} (h:OkL l):(mrF l fr to cut).Pairwise OrdR∧∀ x ∈ mrF l fr to cut,0≤itCo x:=by
 refine ⟨?_,fun x hx=>?_⟩
 ·refine List.Pairwise.filter _ ?_
  have hs:=(inV_ok h.fv).2.2
  exact List.Pairwise.imp_of_mem (fun {a b} ha hb hab=>itC_ord (h.its a ha) (h.its b hb) hab) hs
 ·obtain ⟨k,nm,t,f,a,b,c,rd,co,ar,rfl,_,_,hco⟩:=h.row (List.mem_filter.1 hx).1
  exact hco
end Go.Proofs.YtgnnafneglannaaGreatDoor
namespace Go.Proofs.YtgnnafneglannaaGreatDoor
open Go
set_option linter.unusedVariables false
set_option linter.unusedSimpArgs false
theorem lasI_rng {G:LLA} (h:MgP G) (c:Int):rng .i64 (lasI (cvs (rdsF G) c)):=by
 unfold lasI
 cases e:(cvs (rdsF G) c).getLast? with
 | none=>exact ⟨by decide,by decide⟩
 | some v =>
  have hv:=List.mem_of_getLast? e
  unfold cvs at hv
  obtain ⟨r,hr,rfl⟩:=List.mem_map.1 hv
  have hr:=(List.mem_filter.1 hr).1
  unfold rdsF at hr
  rw [List.mem_flatten] at hr
  obtain ⟨l,hl,hr⟩:=hr
  obtain ⟨x,hx,rfl⟩:=List.mem_map.1 hl
  obtain ⟨i,hi,rfl⟩:=List.mem_iff_getElem.1 hx
  obtain ⟨k,nm,t,f,a,b,c,rd,co,ar,h1,h2⟩:=h.fr i hi
  rw [getD_lt hi] at h1
  rw [h1] at hr
  have hr:r ∈ rd:=hr
  obtain ⟨j,hj,rfl⟩:=List.mem_iff_getElem.1 hr
  obtain ⟨e,v,h3,_,h4⟩:=h2.fr j hj
  rw [getD_lt hj] at h3
  rw [h3]
  exact h4
theorem rdN_mem {G:LLA}:∀ (n:Nat) (r:List AV),r ∈ rdN G n→∃ k:Nat,k < n∧r=[.int .i64 (k:Int),.int .i64 (lasI (cvs (rdsF G) k))]
 | 0,r,h=>by simp [rdN] at h
 | n+1,r,h=>by
  simp only [rdN] at h
  rcases List.mem_append.1 h with h | h
  ·obtain ⟨k,hk,e⟩:=rdN_mem n r h
   exact ⟨k,by omega,e⟩
  ·split at h
   ·simp at h
   ·split at h
    ·simp at h
    ·exact ⟨n,by omega,by simpa using h⟩
theorem gR_rds {G:LLA} (h:MgP G):RdsP (gR G):=⟨fun i hi=>by
 rw [getD_lt hi]
 obtain ⟨k,hk,e⟩:=rdN_mem 12 _ (List.getElem_mem hi)
 exact ⟨_,_,e,by show _∧_; omega,lasI_rng h _⟩,by have:=rdN_len G 12; unfold gR; omega⟩
theorem ctN_mem {G:LLA}:∀ (n:Nat) (r:List AV),r ∈ ctN G n→∃ k:Nat,k < n∧r=[.int .i64 (k:Int)]
 | 0,r,h=>by simp [ctN] at h
 | n+1,r,h=>by
  simp only [ctN] at h
  rcases List.mem_append.1 h with h | h
  ·obtain ⟨k,hk,e⟩:=ctN_mem n r h
   exact ⟨k,by omega,e⟩
  ·split at h
   ·exact ⟨n,by omega,by simpa using h⟩
   ·simp at h
theorem gC_len (G:LLA):(gC G).length≤12:=ctN_len G 12
theorem mgRow_ok {G:LLA} (h:MgP G) (hi:IntsB (gC G)):MgS (mgRow G):=⟨_,_,_,_,_,_,_,_,_,_,rfl,gR_rds h,hi,by have:=gC_len G; omega⟩
theorem mgRow_s {G:LLA} (h:MgP G):MgS (mgRow G):=mgRow_ok h ⟨fun x hx=>by
 obtain ⟨k,hk,e⟩:=ctN_mem 12 x hx
 exact ⟨_,e,by show _∧_; omega⟩⟩
theorem gr_sub (F:LLA):∀ g ∈ grF F,∀ x ∈ g,x ∈ F:=by
 refine snoc_ind (P:=fun F=>∀ g ∈ grF F,∀ x ∈ g,x ∈ F) (fun g hg=>by simp [grF,gsF,grS] at hg) (fun l x ih=>?_) F
 intro g hg z hz
 unfold grF at ih hg
 rw [gsF_snoc] at hg
 generalize gsF l=s at *
 obtain ⟨o,q⟩:=s
 cases q with
 | nil =>
  have hg:g ∈ o++[[x]]:=hg
  rcases List.mem_append.1 hg with h | h
  ·exact List.mem_append_left _ (ih g h z hz)
  ·rw [List.mem_singleton.1 h] at hz; rw [List.mem_singleton.1 hz]; simp
 | cons y q =>
  have io:∀ g ∈ o,∀ x ∈ g,x ∈ l:=fun g hg=>ih g (by simp [grS,hg])
  have iq:∀ x ∈ y::q,x ∈ l:=ih (y::q) (by simp [grS])
  simp only [gs1] at hg
  split at hg
  ·split at hg
   ·have hg:g ∈ o++[[x]]:=hg
    rcases List.mem_append.1 hg with h | h
    ·exact List.mem_append_left _ (io g h z hz)
    ·rw [List.mem_singleton.1 h] at hz; rw [List.mem_singleton.1 hz]; simp
   ·have hg:g ∈ o++[y::q++[x]]:=hg
    rcases List.mem_append.1 hg with h | h
    ·exact List.mem_append_left _ (io g h z hz)
    ·rw [List.mem_singleton.1 h] at hz
     rcases List.mem_append.1 hz with hz | hz
     ·exact List.mem_append_left _ (iq z hz)
     ·exact List.mem_append_right _ hz
  ·have hg:g ∈ (o++[y::q])++[[x]]:=hg
   rcases List.mem_append.1 hg with h | h
   ·rcases List.mem_append.1 h with h | h
    ·exact List.mem_append_left _ (io g h z hz)
    ·rw [List.mem_singleton.1 h] at hz; exact List.mem_append_left _ (iq z hz)
   ·rw [List.mem_singleton.1 h] at hz; rw [List.mem_singleton.1 hz]; simp
theorem mrF_sub {l:LLA} {fr to cut:Int}:(∀ x ∈ mrF l fr to cut,x ∈ l)∧(mrF l fr to cut).length≤l.length:=⟨fun x hx=>(List.mem_filter.1 hx).1,List.length_filter_le _ _⟩
theorem gr_mgp {l:LLA} {fr to cut:Int} (h:OkL l) {g:LLA} (hg:g ∈ grF (mrF l fr to cut)):MgP g:=by
 have h9:=(inV_ok h.fv).1
 obtain ⟨a,b⟩:=(grF_ok (mrF_ord h).1 (mrF_ord h).2).fg g hg
 refine h.mgp (fun x hx=>mrF_sub.1 x (gr_sub _ g hg x hx)) ?_ a
 rw [b]
 have:=(mrF_sub (l:=l) (fr:=fr) (to:=to) (cut:=cut)).2
 have:=List.length_filter_le (fun y=>decide (itKy y=hdK g)&&decide (itCo y=bsF (mrF l fr to cut) (hdK g))) (mrF l fr to cut)
 unfold vsF
 omega
theorem grF_len (F:LLA):(grF F).length≤F.length+1:=by
 obtain ⟨_,_,h,_⟩:=gs_sub F
 unfold grF grS
 split
 ·omega
 ·simp; omega
theorem mr_mgl {l:LLA} {fr to cut:Int} (h:OkL l):MgL ((grF (mrF l fr to cut)).map mgRow):=⟨fun i hi=>by
 rw [getD_lt hi,List.getElem_map]
 exact mgRow_s (gr_mgp h (List.getElem_mem _)),by
 rw [List.length_map]
 have:=grF_len (mrF l fr to cut)
 have:=(mrF_sub (l:=l) (fr:=fr) (to:=to) (cut:=cut)).2
 have:=(inV_ok h.fv).1
 omega⟩
theorem fil_split {p:LLA} {P:List AV→Bool} {n:Nat} (hn:n < p.length) (hP:P (p.getD n [])=true):p.filter P=(p.take n).filter P++(p.getD n []::(p.drop (n+1)).filter P):=by
 rw [getD_lt hn] at hP ⊢
 conv=>lhs; rw [← List.take_append_drop n p,List.drop_eq_getElem_cons hn]
 rw [List.filter_append,List.filter_cons_of_pos hP]
def tLe (cut:Int) (r:List AV):Bool:=decide (itTm r≤cut)
def tGt (cut:Int) (r:List AV):Bool:=decide (cut < itTm r)
structure WdP (p q r:LLA) (cut:Int):Prop where
 fq:q=p.filter (tLe cut)
 fr:r=p.filter (tGt cut)
 fm:MgL p
 fl:p.length≤200
 fk:∀ n:Nat,0 < n→n < p.length→itKy (p.getD (n - 1) [])≠itKy (p.getD n [])
end Go.Proofs.YtgnnafneglannaaGreatDoor
namespace Go.Proofs.YtgnnafneglannaaGreatDoor
open Go
set_option linter.unusedVariables false
set_option linter.unusedSimpArgs false
def arF (b:LLA) (cut:Int):LLA:=b.filter fun y=>decide (itAr y≤cut)
theorem arF_snoc (b:LLA) (x:List AV) (cut:Int):arF (b++[x]) cut=arF b cut++(if itAr x≤cut then [x] else []):=by
 unfold arF; rw [List.filter_append]
 by_cases h:itAr x≤cut <;> simp [h]
def wnP (fr to:Int) (ks:List Int):Bool:=decide (fr≤kT ks)&&decide (kT ks≤to)
theorem srt_adj {l:LLA} (h:Srt l):adjB l=true:=by
 unfold adjB
 refine decide_eq_true fun j hj=>?_
 by_cases h0:j=0
 ·exact .inl h0
 ·refine .inr ?_
  rw [getD_lt hj,getD_lt (by omega)]
  exact List.pairwise_iff_getElem.1 h (j - 1) j (by omega) hj (by omega)
theorem inV_fil {l:LLA} (P:List AV→Bool) (h:inV l=0):inV (l.filter P)=0:=by
 obtain ⟨h1,h2,h3⟩:=inV_ok h
 have hl:=List.length_filter_le P l
 unfold inV
 rw [if_neg (by omega),if_pos (firE_zero fun j hj=>?_),if_pos (srt_adj (List.Pairwise.filter _ h3))]
 rw [getD_lt hj]
 exact firE_all h2 _ (List.mem_filter.1 (List.getElem_mem hj)).1
theorem ItsP.fil {l:LLA} (P:List AV→Bool) (h:ItsP l):ItsP (l.filter P):=⟨fun i hi=>by
 rw [getD_lt hi]
 obtain ⟨j,hj,e⟩:=List.mem_iff_getElem.1 (List.mem_filter.1 (List.getElem_mem hi)).1
 have:=h.fr j hj
 rw [getD_lt hj,e] at this
 exact this,by have:=h.fl; have:=List.length_filter_le P l; omega⟩
theorem OkL.fil {l:LLA} (P:List AV→Bool) (h:OkL l):OkL (l.filter P):=⟨h.fp.fil P,inV_fil P h.fv⟩
end Go.Proofs.YtgnnafneglannaaGreatDoor
