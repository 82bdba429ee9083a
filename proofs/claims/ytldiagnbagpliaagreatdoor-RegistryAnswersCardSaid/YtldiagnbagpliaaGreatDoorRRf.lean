import Derived.Test.YtldiagnbagpliaaGreatDoorRRe
import Derived.Shelf.RegionOpenPlain
import Derived.Lib.JoinLaws
import Derived.Lib.Overlaps
import Derived.Lib.AppendZerosOnto
import Derived.Laws.IdiomCopy
import Derived.Laws.NewBlocks
import Derived.Shelf.Spec.SlicesInsert
import Derived.Test.YtldiagnbagpliaaGreatDoorRRd
set_option maxRecDepth 100000
namespace Go.Proofs.YtldiagnbagpliaaGreatDoor
open Go
set_option linter.unusedVariables false
set_option linter.unusedSimpArgs false
def cloRd_s:Sp
 | [.sl 2 f xs]=>some (xs.length≤1000,.sl 2 false xs)
 | _=>none
def cloRd_T:Prop :=
 ∀ (gl:Glob) (f:Bool) (xs:List (List AV)),xs.length≤(1000:Nat)→True→(xs=[]→xs=[])∧bif decide ((0:Nat)=0∧(0:Nat)+xs.length≤(9223372036854775807:Nat)∧((0:Nat)+xs.length)*(16:Nat)≤(140737488355328:Nat)) then bif decide (([]++xs).length=([]++xs).length) then True∧[]++xs=xs else False else False
theorem cloRd_P:cloRd_T:=by
 unfold cloRd_T
 intro gl f xs hl _
 exact ⟨id,cd1 ⟨rfl,by omega,by omega⟩ (cd1 rfl ⟨trivial,rfl⟩)⟩
def cloRd_S:Prop:=∀ (gl:Glob) (f:Bool) (xs:List (List AV)),xs.length≤1000→fnK Tryz.prog { glob:=gl,spec:=lk [],specH:=lk [],nowf:=true,nq:=true } { nt:=8,drop:=drp [(1,8),(3,224)] } (fun _ _=>none) 6 Tryz.f59 [.sl 2 f xs] (.sl 2 false xs)
theorem cloRd_e:cloRd_T=cloRd_S:=by kernel_rfl
theorem cloRd_v:cloRd_S:=Eq.mp (cloRd_e ..) (cloRd_P)
theorem cloRd_ok (gl:Glob):SOK Tryz.prog gl 59 cloRd_s:=by
 refine ⟨fok Tryz.func59 (by kernel_rfl) (by kernel_rfl),?_⟩
 intro xs pre r h hp
 unfold cloRd_s at h
 split at h
 ·simp only [Option.some.injEq,Prod.mk.injEq] at h
  obtain ⟨h1,h2⟩:=h
  subst h1 h2
  exact fnK_sound tyNil (by exact specOK rfl rfl trivial trivial) (by kernel_rfl) Tryz.func59 rfl (cloRd_v gl _ _ hp)
 ·cases h
def cloSt_s:SpH
 | [.sl 3 f xs],[]=>some (xs.length≤1000000,.rw 0 3 xs.length,[.row 59 3 xs])
 | _,_=>none
def cloSt_T:Prop :=
 ∀ (gl:Glob) (f:Bool) (xs:List (List AV)),xs.length≤(1000000:Nat)→True→(xs=[]→(0:Nat)=xs.length∧[]=xs∧True)∧bif decide ((0:Nat)=0∧(0:Nat)+xs.length≤(9223372036854775807:Nat)∧((0:Nat)+xs.length)*(48:Nat)≤(140737488355328:Nat)) then ([]++xs).length=xs.length∧[]++xs=xs∧True else False
theorem cloSt_P:cloSt_T:=by
 unfold cloSt_T
 intro gl f xs hl
 intros
 exact ⟨fun e=>by subst e; exact ⟨rfl,rfl,trivial⟩,cd1 ⟨rfl,by omega,by omega⟩ ⟨rfl,rfl,trivial⟩⟩
def cloSt_S:Prop:=∀ (gl:Glob) (f:Bool) (xs:List (List AV)),xs.length≤1000000→fnH Tryz.prog { glob:=gl,spec:=lk [],specH:=lk [],nowf:=true,nq:=true } { nt:=8,drop:=drp [(1,8),(3,224)],fr:=1000,kp:=[],emp:=fun id=>cond (Nat.beq id 900001) [(2,1500,59,3)] [],own:=true } (fun _ _=>none) 6 Tryz.f97 [.sl 3 f xs] [] (.rw 0 3 xs.length) [.row 59 3 xs]
theorem cloSt_e:cloSt_T=cloSt_S:=by kernel_rfl
theorem cloSt_v:cloSt_S:=Eq.mp (cloSt_e ..) (cloSt_P)
theorem cloSt_ok (gl:Glob):HOK Tryz.prog gl 97 cloSt_s:=by
 refine ⟨fok Tryz.func97 (by kernel_rfl) (by kernel_rfl),?_⟩
 intro xs bs pre r bs2 h hp
 unfold cloSt_s at h
 split at h
 ·simp only [Option.some.injEq,Prod.mk.injEq] at h
  obtain ⟨h1,h2,h3⟩:=h
  subst h1 h2 h3
  exact fnH_sound tyNil (by exact specOK rfl rfl trivial trivial) (by kernel_rfl) Tryz.func97 (cloSt_v gl _ _ hp)
 ·cases h
def cloPd_s:SpH
 | [.sl 7 f xs],[]=>some (xs.length≤1000000,.rw 0 7 xs.length,[.row 49 7 xs])
 | _,_=>none
def cloPd_T:Prop :=
 ∀ (gl:Glob) (f:Bool) (xs:List (List AV)),xs.length≤(1000000:Nat)→True→(xs=[]→(0:Nat)=xs.length∧[]=xs∧True)∧bif decide ((0:Nat)=0∧(0:Nat)+xs.length≤(9223372036854775807:Nat)∧((0:Nat)+xs.length)*(72:Nat)≤(140737488355328:Nat)) then ([]++xs).length=xs.length∧[]++xs=xs∧True else False
theorem cloPd_P:cloPd_T:=by
 unfold cloPd_T
 intro gl f xs hl
 intros
 exact ⟨fun e=>by subst e; exact ⟨rfl,rfl,trivial⟩,cd1 ⟨rfl,by omega,by omega⟩ ⟨rfl,rfl,trivial⟩⟩
def cloPd_S:Prop:=∀ (gl:Glob) (f:Bool) (xs:List (List AV)),xs.length≤1000000→fnH Tryz.prog { glob:=gl,spec:=lk [],specH:=lk [],nowf:=true,nq:=true } { nt:=8,drop:=drp [(1,8),(3,224)],fr:=1000,kp:=[],emp:=fun id=>cond (Nat.beq id 900001) [(2,1500,49,7)] [],own:=true } (fun _ _=>none) 6 Tryz.f98 [.sl 7 f xs] [] (.rw 0 7 xs.length) [.row 49 7 xs]
theorem cloPd_e:cloPd_T=cloPd_S:=by kernel_rfl
theorem cloPd_v:cloPd_S:=Eq.mp (cloPd_e ..) (cloPd_P)
theorem cloPd_ok (gl:Glob):HOK Tryz.prog gl 98 cloPd_s:=by
 refine ⟨fok Tryz.func98 (by kernel_rfl) (by kernel_rfl),?_⟩
 intro xs bs pre r bs2 h hp
 unfold cloPd_s at h
 split at h
 ·simp only [Option.some.injEq,Prod.mk.injEq] at h
  obtain ⟨h1,h2,h3⟩:=h
  subst h1 h2 h3
  exact fnH_sound tyNil (by exact specOK rfl rfl trivial trivial) (by kernel_rfl) Tryz.func98 (cloPd_v gl _ _ hp)
 ·cases h
def hoP (l:LLR) (i:Nat):LLR:=sPs (l.getD i [])
def hol (l:LLR) (i b:Nat):LLR:=setEl l i 2 [.rw b 7 (hoP l i).length]
def hpl (l:LLR) (i:Nat) (x:Int) (b:Nat):LLR:=if (i:Int) < x then hol l i b else l
def hpP (l:LLR) (i:Nat) (x:Int):LLR:=if (i:Int) < x then hoP l i else []
theorem mapLL_setEl (f:AV→AV) (xs:LLR) (j fo:Nat) (ys:List AV):mapLL f (setEl xs j fo ys)=setEl (mapLL f xs) j fo (ys.map f):=by
 unfold mapLL setEl
 rw [List.map_set]
 congr 1
 unfold spl
 rw [List.map_append,List.map_append,List.map_take,List.map_drop,List.length_map]
 have:(xs.map fun x=>x.map f).getD j []=(xs.getD j []).map f:=by
  simp only [List.getD_eq_getElem?_getD,List.getElem?_map]
  cases xs[j]? <;> rfl
 rw [this]
theorem setEl_len (xs:LLR) (j fo:Nat) (ys:List AV):(setEl xs j fo ys).length=xs.length:=by simp [setEl]
theorem setEl_get (xs:LLR) (j fo:Nat) (ys:List AV) (i:Nat):(setEl xs j fo ys).getD i []=if i=j∧j < xs.length then spl (xs.getD j []) fo ys else xs.getD i []:=by
 unfold setEl
 simp only [List.getD_eq_getElem?_getD,List.getElem?_set]
 by_cases e:j=i
 ·subst e
  by_cases h:j < xs.length
  ·rw [if_pos rfl,if_pos h,if_pos ⟨rfl,h⟩]; rfl
  ·rw [if_pos rfl,if_neg h,if_neg (fun q=>h q.2),List.getElem?_eq_none (by omega)]
 ·rw [if_neg e,if_neg (fun q=>e q.1.symm)]
theorem ll_ext {a b:LLR} (hl:a.length=b.length) (h:∀ i,i < a.length→a.getD i []=b.getD i []):a=b:=by
 refine List.ext_getElem hl fun i h1 h2=>?_
 have:=h i h1
 rw [List.getD_eq_getElem?_getD,List.getD_eq_getElem?_getD,List.getElem?_eq_getElem h1,List.getElem?_eq_getElem h2] at this
 exact this
structure Flat (f:AV→AV):Prop where
 fi:∀ k n,f (.int k n)=.int k n
 fb:∀ b,f (.bool b)=.bool b
 fs:∀ s,f (.str s)=.str s
 fl:∀ s g xs,f (.sl s g xs)=.sl s g xs
theorem flat_kill (k:Nat):Flat (killA k):=⟨fun _ _=>rfl,fun _=>rfl,fun _=>rfl,fun _ _ _=>rfl⟩
theorem flat_frs (k s:Nat) (xs:LLR):Flat (frsA k s xs):=⟨fun _ _=>rfl,fun _=>rfl,fun _=>rfl,fun _ _ _=>rfl⟩
theorem flat_ren (j k:Nat):Flat (renA j k):=⟨fun _ _=>rfl,fun _=>rfl,fun _=>rfl,fun _ _ _=>rfl⟩
theorem flat_rn (f:Nat→Option Nat):Flat (rnT f):=⟨fun _ _=>rfl,fun _=>rfl,fun _=>rfl,fun _ _ _=>rfl⟩
theorem mapLL_get (f:AV→AV) (xs:LLR) (i:Nat):(mapLL f xs).getD i []=(xs.getD i []).map f:=by
 unfold mapLL
 simp only [List.getD_eq_getElem?_getD,List.getElem?_map]
 cases xs[i]? <;> rfl
theorem Flat.st {f:AV→AV} (hf:Flat f) {l:LLR} (hl:StsP l):mapLL f l=l:=by
 refine ll_ext (mapLL_len f l) fun i hi=>?_
 rw [mapLL_len] at hi
 obtain ⟨k,nm,ps,hr,_⟩:=hl.fr i hi
 rw [mapLL_get,hr]
 simp only [stA,List.map_cons,List.map_nil,hf.fi,hf.fs,hf.fl]
theorem Flat.hol {f:AV→AV} (hf:Flat f) {l:LLR} (hl:StsP l) {i b c:Nat} (hb:f (.rw b 7 (hoP l i).length)=.rw c 7 (hoP l i).length):mapLL f (hol l i b)=Go.Proofs.YtldiagnbagpliaaGreatDoor.hol l i c:=by
 unfold Go.Proofs.YtldiagnbagpliaaGreatDoor.hol
 rw [mapLL_setEl,hf.st hl,List.map_cons,List.map_nil,hb]
theorem st_nm {l:LLR} (hl:StsP l):NmIn [] l:=by
 intro j i x y hx hy k hk
 have hj:j < l.length:=(List.getElem?_eq_some_iff.1 hx).1
 obtain ⟨kd,nm,ps,hr,_⟩:=hl.fr j hj
 have e:x=stA kd nm ps:=by
  rw [← hr,List.getD_eq_getElem?_getD,hx]; rfl
 subst e
 have hi:i < 3:=by have:=(List.getElem?_eq_some_iff.1 hy).1; simpa [stA] using this
 rcases i with _ | _ | _ | i
 ·simp [stA] at hy; subst hy; cases hk
 ·simp [stA] at hy; subst hy; cases hk
 ·simp [stA] at hy; subst hy; cases hk
 ·omega
theorem setEl_same {l:LLR} {x fo:Nat} {ys:List AV} (h:spl (l.getD x []) fo ys=l.getD x []):setEl l x fo ys=l:=by
 refine ll_ext (setEl_len _ _ _ _) fun i hi=>?_
 rw [setEl_get]
 split
 ·rename_i q; rw [q.1]; exact h
 ·rfl
theorem setEl_out {l:LLR} {x fo:Nat} {ys:List AV} (h:l.length≤x):setEl l x fo ys=l:=by
 refine ll_ext (setEl_len _ _ _ _) fun i hi=>?_
 rw [setEl_get,if_neg (fun q=>by omega)]
theorem setEl_at {l:LLR} {x:Nat} {a b c v:AV} (hx:x < l.length) (h:l.getD x []=[a,b,c]):(setEl l x 2 [v]).getD x []=[a,b,v]:=by
 rw [setEl_get,if_pos ⟨rfl,hx⟩,h]; rfl
theorem hol_len (l:LLR) (i b:Nat):(hol l i b).length=l.length:=setEl_len _ _ _ _
theorem hpl_len (l:LLR) (i:Nat) (x:Int) (b:Nat):(hpl l i x b).length=l.length:=by
 unfold hpl; split
 ·exact hol_len _ _ _
 ·rfl
theorem hpl_at {l:LLR} {i:Nat} {x:Int} {b j:Nat} (h:x≤j):(hpl l i x b).getD j []=l.getD j []:=by
 unfold hpl hol; split
 ·rw [setEl_get,if_neg (fun q=>by omega)]
 ·rfl
theorem Flat.hpl {f:AV→AV} (hf:Flat f) {l:LLR} (hl:StsP l) {i:Nat} {x:Int} {b:Nat} (hb:f (.rw b 7 (hoP l i).length)=.rw b 7 (hoP l i).length):mapLL f (hpl l i x b)=Go.Proofs.YtldiagnbagpliaaGreatDoor.hpl l i x b:=by
 unfold Go.Proofs.YtldiagnbagpliaaGreatDoor.hpl; split
 ·exact hf.hol hl hb
 ·exact hf.st hl
theorem hpl_here {l:LLR} (hl:StsP l) (i:Nat):mapLL (renA 1026 1501) (mapLL (killA 1501) (setEl (hpl l i i 1501) i 2 [.rw 1026 7 (hoP l i).length]))=hpl l i (i+1) 1501:=by
 have e1:hpl l i i 1501=l:=if_neg (by omega)
 have e2:hpl l i (i+1) 1501=hol l i 1501:=if_pos (by omega)
 rw [e1,e2]
 show mapLL (renA 1026 1501) (mapLL (killA 1501) (hol l i 1026))=_
 rw [(flat_kill 1501).hol hl (c:=1026) rfl,(flat_ren 1026 1501).hol hl (c:=1501) rfl]
theorem hpl_else {l:LLR} (hl:StsP l) {i:Nat} {x:Int} (h0:0≤x) (hx:x < l.length) (hn:¬ x=i):mapLL (frsA 1026 7 (hoP l x.toNat)) (setEl (hpl l i x 1501) x.toNat 2 [.rw 1026 7 (hoP l x.toNat).length])=hpl l i (x+1) 1501:=by
 have e1:hpl l i (x+1) 1501=hpl l i x 1501:=by
  unfold hpl
  by_cases q:(i:Int) < x
  ·rw [if_pos q,if_pos (by omega)]
  ·rw [if_neg q,if_neg (by omega)]
 rw [e1,mapLL_setEl,(flat_frs _ _ _).hpl hl rfl]
 refine setEl_same ?_
 rw [hpl_at (by omega)]
 obtain ⟨k,nm,ps,hr,_⟩:=hl.fr x.toNat (by omega)
 have hP:hoP l x.toNat=ps:=by unfold hoP; rw [hr]; rfl
 rw [hP,hr]
 have e2:frsA 1026 7 ps (.rw 1026 7 ps.length)=.sl 7 false ps:=by
  simp only [frsA,if_true,true_and]
 rw [List.map_cons,List.map_nil,e2]
 rfl
theorem hpl_end {l:LLR} (hl:StsP l) {i:Nat} {x:Int} (hx:¬ x < l.length):mapLL (rnT (rnP [1501] [1])) (hpl l i x 1501)=hol l i 1∧hpP l i x=hoP l i:=by
 unfold hpl hpP
 by_cases q:(i:Int) < x
 ·rw [if_pos q,if_pos q]
  exact ⟨(flat_rn _).hol hl rfl,rfl⟩
 ·rw [if_neg q,if_neg q]
  refine ⟨?_,?_⟩
  ·rw [(flat_rn _).st hl]
   exact (setEl_out (by omega)).symm
  ·unfold hoP
   rw [List.getD_eq_getElem?_getD,List.getElem?_eq_none (by omega)]; rfl
structure CoI (l:LLR) (x:Int):Prop where
 flo:0≤x
 fhi:x≤l.length
def co3 (l:LLR) (g:Bool) (i:Nat):LInv:=⟨Int,fun x=>⟨[(1,.ptr 1001 0),(2,.ptr 1002 0),(3,.ptr 1003 0),(13,.int .i64 l.length),(14,.int .i64 x)],[(1001,.cells [.sl 3 g l]),(1002,.cells [.nils]),(1003,.cells [.rw 1009 3 l.length]),(1009,.nrow 59 3 [1501] (hpl l i x 1501)),(1501,.row 49 7 (hpP l i x))]⟩,CoI l,fun x=>(l.length - x).toNat,none⟩
def co8 (l:LLR) (g:Bool) (i:Nat) (x:Int):LInv:=⟨Int,fun k=>⟨[(1,.ptr 1001 0),(2,.ptr 1002 0),(3,.ptr 1003 0),(5,.prw 1009 3 l.length x.toNat 0),(13,.int .i64 l.length),(14,.int .i64 x),(33,.int .i64 (hoP l x.toNat).length),(34,.int .i64 k)],[(1001,.cells [.sl 3 g l]),(1002,.cells [.nils]),(1003,.cells [.rw 1009 3 l.length]),(1009,.nrow 59 3 [1501,1026] (setEl (hpl l i x 1501) x.toNat 2 [.rw 1026 7 (hoP l x.toNat).length])),(1026,.row 49 7 (hoP l x.toNat)),(1501,.row 49 7 (hpP l i x))]⟩,CoI (hoP l x.toNat),fun k=>((hoP l x.toNat).length - k).toNat,none⟩
section
variable (i:Nat)
def gcop_s (i:Nat):SpH
 | [.agg [.sl 3 g l]],[]=>some (StsP l,.agg [.rw 0 3 l.length],[.nrow 59 3 [1] (hol l i 1),.row 49 7 (hoP l i)])
 | _,_=>none
def gcop_T (i:Nat):Prop :=
  ∀ (gl:Glob) (g:Bool) (l:List (List AV)),StsP l→True∧True→l.length≤(1000000:Nat)∧(∀ (j i:Nat) (x:List AV) (y:AV),l[j]?=some x→x[i]?=some y→∀ (k:Nat),nn k y=false→inL k []=true)∧(∃ x,CoI l x∧((0:Nat)=0∧(0:Nat)=0∧(0:Nat)=0∧(↑l.length:Int)=(↑l.length:Int)∧(0:Int)=x∧True)∧(((bif g then g=true else True)∧l=l)∧True)∧(True∧True)∧(l.length=l.length∧True)∧l=hpl l i x (1501:Nat)∧[]=hpP l i
 x∧True)∧∀ (x:Int),CoI l x→bif decide (x < (↑l.length:Int)) then bif decide (0≤x∧x < (↑l.length:Int)) then bif decide (l.length=List.length (hpl l i x (1501:Nat))∧x.toNat < List.length (hpl l i x (1501:Nat))) then ∃ xs,List.take [AV.sl (7:Nat) false xs].length (List.drop (2:Nat) (List.getD (hpl l i x (1501:Nat)) x.toNat []))=[AV.sl (7:Nat) false xs]∧xs.length≤(1000000:Nat)∧bif decide
 (l.length=List.length (hpl l i x (1501:Nat))∧x.toNat < List.length (hpl l i x (1501:Nat))) then bif decide (l.length=(setEl (hpl l i x (1501:Nat)) x.toNat (2:Nat) [AV.rw (1026:Nat) (7:Nat) xs.length]).length∧x.toNat < (setEl (hpl l i x (1501:Nat)) x.toNat (2:Nat) [AV.rw (1026:Nat) (7:Nat) xs.length]).length) then ∃ n,List.take [AV.rw (1026:Nat) (7:Nat) n].length (List.drop (2:Nat) ((setEl (hpl l i
 x (1501:Nat)) x.toNat (2:Nat) [AV.rw (1026:Nat) (7:Nat) xs.length]).getD x.toNat []))=[AV.rw (1026:Nat) (7:Nat) n]∧(∃ x_1,CoI (hoP l x.toNat) x_1∧((0:Nat)=0∧(0:Nat)=0∧(0:Nat)=0∧(l.length=l.length∧x.toNat=x.toNat∧(0:Nat)=0)∧(↑l.length:Int)=(↑l.length:Int)∧x=x∧(↑n:Int)=(↑(List.length (hoP l x.toNat)):Int)∧(0:Int)=x_1∧True)∧(((bif g then g=true else
 True)∧l=l)∧True)∧(True∧True)∧(l.length=l.length∧True)∧setEl (hpl l i x (1501:Nat)) x.toNat (2:Nat) [AV.rw (1026:Nat) (7:Nat) xs.length]=setEl (hpl l i x (1501:Nat)) x.toNat (2:Nat) [AV.rw (1026:Nat) (7:Nat) (List.length (hoP l x.toNat))]∧xs=hoP l x.toNat∧hpP l i x=hpP l i x∧True)∧∀ (x_1:Int),CoI (hoP l x.toNat) x_1→bif decide (x_1 < (↑(List.length (hoP l x.toNat)):Int)) then bif decide
 (l.length=(setEl (hpl l i x (1501:Nat)) x.toNat (2:Nat) [AV.rw (1026:Nat) (7:Nat) (List.length (hoP l x.toNat))]).length∧x.toNat < (setEl (hpl l i x (1501:Nat)) x.toNat (2:Nat) [AV.rw (1026:Nat) (7:Nat) (List.length (hoP l x.toNat))]).length) then ∃ n,List.take [AV.rw (1026:Nat) (7:Nat) n].length (List.drop (2:Nat) ((setEl (hpl l i x (1501:Nat)) x.toNat (2:Nat) [AV.rw (1026:Nat) (7:Nat)
 (List.length (hoP l x.toNat))]).getD x.toNat []))=[AV.rw (1026:Nat) (7:Nat) n]∧bif decide (l.length=(setEl (hpl l i x (1501:Nat)) x.toNat (2:Nat) [AV.rw (1026:Nat) (7:Nat) (List.length (hoP l x.toNat))]).length∧x.toNat < (setEl (hpl l i x (1501:Nat)) x.toNat (2:Nat) [AV.rw (1026:Nat) (7:Nat) (List.length (hoP l x.toNat))]).length) then ∃ n_1,List.take [AV.rw (1026:Nat) (7:Nat) n_1].length
 (List.drop (2:Nat) ((setEl (hpl l i x (1501:Nat)) x.toNat (2:Nat) [AV.rw (1026:Nat) (7:Nat) (List.length (hoP l x.toNat))]).getD x.toNat []))=[AV.rw (1026:Nat) (7:Nat) n_1]∧bif decide (0≤x_1∧x_1 < (↑n_1:Int)) then bif decide (n_1=List.length (hoP l x.toNat)∧x_1.toNat < List.length (hoP l x.toNat)) then ∃ xs,List.take [AV.sl (2:Nat) false xs].length (List.drop (6:Nat) (List.getD (hoP l
 x.toNat) x_1.toNat []))=[AV.sl (2:Nat) false xs]∧xs.length≤(1000:Nat)∧bif decide (0≤x_1∧x_1 < (↑n:Int)) then bif decide (n=List.length (hoP l x.toNat)∧x_1.toNat < List.length (hoP l x.toNat)) then bif decide (rng .i64 (x_1+(1:Int))) then ∃ y,CoI (hoP l x.toNat) y∧((fun x=>co8 l g i x) x).m y < ((fun x=>co8 l g i x) x).m
 x_1∧((0:Nat)=0∧(0:Nat)=0∧(0:Nat)=0∧(l.length=l.length∧x.toNat=x.toNat∧(0:Nat)=0)∧(↑l.length:Int)=(↑l.length:Int)∧x=x∧(↑(List.length (hoP l x.toNat)):Int)=(↑(List.length (hoP l x.toNat)):Int)∧x_1+(1:Int)=y∧True)∧(((bif g then g=true else True)∧l=l)∧True)∧(True∧True)∧(l.length=l.length∧True)∧setEl (hpl l i x (1501:Nat)) x.toNat (2:Nat) [AV.rw (1026:Nat) (7:Nat) (List.length (hoP l x.toNat))]=setEl
 (hpl l i x (1501:Nat)) x.toNat (2:Nat) [AV.rw (1026:Nat) (7:Nat) (List.length (hoP l x.toNat))]∧setEl (hoP l x.toNat) x_1.toNat (6:Nat) [AV.sl (2:Nat) false xs]=hoP l x.toNat∧hpP l i x=hpP l i x∧True else False else False else False else False else False else False else False else (x=(↑i:Int)→bif decide (rng .i64 (x+(1:Int))) then ∃ y,CoI l y∧((fun x=>co3 l g i) (0:Int)).m y < ((fun x=>co3 l
 g i) (0:Int)).m x∧((0:Nat)=0∧(0:Nat)=0∧(0:Nat)=0∧(↑l.length:Int)=(↑l.length:Int)∧x+(1:Int)=y∧True)∧(((bif g then g=true else True)∧l=l)∧True)∧(True∧True)∧(l.length=l.length∧True)∧mapLL (renA (1026:Nat) (1501:Nat)) (mapLL (killA (1501:Nat)) (setEl (hpl l i x (1501:Nat)) x.toNat (2:Nat) [AV.rw (1026:Nat) (7:Nat) (List.length (hoP l x.toNat))]))=hpl l i y (1501:Nat)∧hoP l x.toNat=hpP l i y∧True else
 False)∧(¬x=(↑i:Int)→bif decide (rng .i64 (x+(1:Int))) then ∃ y,CoI l y∧((fun x=>co3 l g i) (0:Int)).m y < ((fun x=>co3 l g i) (0:Int)).m x∧((0:Nat)=0∧(0:Nat)=0∧(0:Nat)=0∧(↑l.length:Int)=(↑l.length:Int)∧x+(1:Int)=y∧True)∧(((bif g then g=true else True)∧l=l)∧True)∧(True∧True)∧(l.length=l.length∧True)∧mapLL (frsA (1026:Nat) (7:Nat) (hoP l x.toNat)) (setEl (hpl l i x (1501:Nat)) x.toNat (2:Nat)
 [AV.rw (1026:Nat) (7:Nat) (List.length (hoP l x.toNat))])=hpl l i y (1501:Nat)∧hpP l i x=hpP l i y∧True else False) else False else False else False else False else (l.length=l.length∧True)∧mapLL (rnT (rnP [(1501:Nat)] [(1:Nat)])) (hpl l i x (1501:Nat))=hol l i (1:Nat)∧hpP l i x=hoP l i∧True
theorem gcop_P:gcop_T i:=by
 unfold gcop_T
 intro gl g l hp _
 have bg:cond g (g=true) True:=by cases g <;> trivial
 have fs:=hp.fs
 refine ⟨fs,st_nm hp,⟨0,⟨by decide,by omega⟩,by (repeat' (first | exact trivial | exact rfl | assumption | apply And.intro)),by (repeat' (first | exact trivial | exact rfl | assumption | apply And.intro)),by (repeat' (first | exact trivial | exact rfl | assumption | apply And.intro)),by (repeat' (first | exact trivial | exact rfl | assumption | apply And.intro)),(if_neg (by omega)).symm,(if_neg (by omega)).symm,trivial⟩,?_⟩
 rintro x ⟨x0,x1⟩
 refine csx (fun hx=>?_) (fun hx=>?_)
 ·have hL:l.length=(hpl l i x 1501).length:=(hpl_len _ _ _ _).symm
  refine cd1 (by omega) (cd1 ⟨hL,by omega⟩ ?_)
  obtain ⟨k,nm,ps,hr,hps⟩:=hp.fr x.toNat (by omega)
  have hg:=(hpl_at (l:=l) (i:=i) (x:=x) (b:=1501) (j:=x.toNat) (by omega)).trans hr
  have hP:hoP l x.toNat=ps:=by unfold hoP; rw [hr]; rfl
  rw [hP]
  refine ⟨ps,by rw [hg]; rfl,hps.fs,cd1 ⟨hL,by omega⟩ (cd1 ⟨by rw [setEl_len]; exact hL,by rw [setEl_len]; omega⟩ ⟨ps.length,by rw [setEl_at (by omega) hg]; rfl,⟨0,⟨by decide,by omega⟩,by (repeat' (first | exact trivial | exact rfl | assumption | apply And.intro))⟩,?_⟩)⟩
  rintro y ⟨y0,y1⟩
  refine csx (fun hy=>cd1 ⟨by rw [setEl_len]; exact hL,by rw [setEl_len]; omega⟩ ⟨ps.length,by rw [setEl_at (by omega) hg]; rfl,cd1 ⟨by rw [setEl_len]; exact hL,by rw [setEl_len]; omega⟩ ⟨ps.length,by rw [setEl_at (by omega) hg]; rfl,cd1 (by omega) (cd1 ⟨rfl,by omega⟩ ?_)⟩⟩) (fun _=>⟨fun e=>?_,fun e=>?_⟩)
  ·obtain ⟨fr,cl,fa,a,b,c,bs,hq,hb,hbl⟩:=hps.fr y.toNat (by omega)
   exact ⟨bs,by rw [hq]; rfl,hbl,cd1 (by omega) (cd1 ⟨rfl,by omega⟩ (cdI (by have:=hps.fs; omega) ⟨y+1,⟨by omega,by omega⟩,by simp only [co8]; rw [hP]; omega,by (repeat' (first | exact trivial | exact rfl | assumption | apply And.intro)),by (repeat' (first | exact trivial | exact rfl | assumption | apply And.intro)),by (repeat' (first | exact trivial | exact rfl | assumption | apply And.intro)),by (repeat' (first | exact trivial | exact rfl | assumption | apply And.intro)),rfl,setEl_same (by rw [hq]; rfl),rfl,trivial⟩))⟩
  ·subst e
   have h9:=hpl_here hp i
   rw [show hoP l i=ps from hP] at h9
   exact cdI (by omega) ⟨(i:Int)+1,⟨by omega,by omega⟩,by simp only [co3]; omega,by (repeat' (first | exact trivial | exact rfl | assumption | apply And.intro)),by (repeat' (first | exact trivial | exact rfl | assumption | apply And.intro)),by (repeat' (first | exact trivial | exact rfl | assumption | apply And.intro)),by (repeat' (first | exact trivial | exact rfl | assumption | apply And.intro)),h9,((if_pos (by omega)).trans hP).symm,trivial⟩
  ·have h9:=hpl_else hp x0 hx e
   rw [hP] at h9
   refine cdI (by omega) ⟨x+1,⟨by omega,by omega⟩,by simp only [co3]; omega,by (repeat' (first | exact trivial | exact rfl | assumption | apply And.intro)),by (repeat' (first | exact trivial | exact rfl | assumption | apply And.intro)),by (repeat' (first | exact trivial | exact rfl | assumption | apply And.intro)),by (repeat' (first | exact trivial | exact rfl | assumption | apply And.intro)),h9,?_,trivial⟩
   unfold hpP
   by_cases q:(i:Int) < x
   ·rw [if_pos q,if_pos (by omega)]
   ·rw [if_neg q,if_neg (by omega)]
 ·have h9:=hpl_end hp (i:=i) (x:=x) (by omega)
  exact ⟨⟨rfl,trivial⟩,h9.1,h9.2,trivial⟩
def gcop_S (i:Nat):Prop:=∀ (gl:Glob) (g:Bool) (l:List (List AV)),StsP l→fnH Tryz.prog { glob:=gl,spec:=lk [(59,cloRd_s)],specH:=lk [(97,cloSt_s),(98,cloPd_s)],shape:=[25,32,40,45,49],slz:=[(25,[7]),(32,[1026007]),(40,[1026007]),(45,[1026007]),(49,[2])],nowf:=true } { nt:=56,drop:=drp [(1,1920),(2,6144),(4,65536),(5,1966080),(6,534773760),(7,8053063680),(9,68719476736),(10,9007061815787520),(11,9007199254740992),(12,18014398509481984),(13,36028797018963968)],fr:=1000,kp:=[],own:=true,act:=fun id=>cond (Nat.beq id 2) [.nop 1009,.mk 1501 49 7] [],cas:=fun id st=>cond (Nat.beq id 12) (match st.get 14 with | .int _ n=>some (n=i,[.kil 1501,.ren 1026 1501],[.frz 1026]) | _=>none) none } (invsN [(3,14,fun _=>co3 l g i),(8,14,fun x=>co8 l g i x)]) 6 Tryz.f58 [.agg [.sl 3 g l]] [] (.agg [.rw 0 3 l.length]) [.nrow 59 3 [1] (hol l i 1),.row 49 7 (hoP l i)]
theorem gcop_e (i:Nat):gcop_T i=gcop_S i:=by kernel_rfl
theorem gcop_v:gcop_S i:=Eq.mp (gcop_e ..) (gcop_P i)
theorem gcop_ok (gl:Glob):HOK Tryz.prog gl 58 (gcop_s i):=by
 refine ⟨fok Tryz.func58 (by kernel_rfl) (by kernel_rfl),?_⟩
 intro xs bs pre r bs2 h hp
 unfold gcop_s at h
 split at h
 ·simp only [Option.some.injEq,Prod.mk.injEq] at h
  obtain ⟨h1,h2,h3⟩:=h
  subst h1 h2 h3
  exact fnH_sound tyNil (by exact specOK rfl rfl ⟨(cloRd_ok gl),trivial⟩ ⟨(cloSt_ok gl),(cloPd_ok gl),trivial⟩) (by kernel_rfl) Tryz.func58 (gcop_v i gl _ _ hp)
 ·cases h
end
end Go.Proofs.YtldiagnbagpliaaGreatDoor
namespace Go.Proofs.YtldiagnbagpliaaGreatDoor
open Go
open Go.RowKit (Below)
set_option linter.unusedVariables false
set_option linter.unusedSimpArgs false
theorem borrow_core {P:Program} {gl:Glob} {f:FuncId} {xs xs2:List AV} {bs:List Blk} {r:AV} (hp:PureC P gl f xs2 r) (hr:∀ S u,CV S r noNm u→∀ S' m',CV S' r m' u)
  (hx:∀ (w:World) (S:Pin) (m:Nm) (vs:List Value),Agree S w→(∀ (q:Nat) (b:Blk),bs[q]?=some b→Held S m w q b)→InjB bs.length m→CVl S xs m vs→∃ S1,Ext S S1∧Agree S1 w∧CVl S1 xs2 noNm vs):HC P gl f xs bs r bs:=by
 intro w S m vs hG hA hn hH hI hv
 obtain ⟨S1,hS1,hA1,hv1⟩:=hx w S m _ hA hH hI hv
 refine (hp w S1 vs (fun q cs e=>CC.mono hS1 cs q 0 (hG q cs e)) hA1 hv1).mono ?_
 rintro e w' ⟨u,S',rfl,hb,hE,hpin,hA',hu⟩
 refine ⟨u,S,m,rfl,hb.os,hb.tape,hb.output,hb.size,Ext.refl S,fun b hlt _=>⟨hb.block b hlt,fun _=>rfl⟩,fun b o v e=>hA' b o v (hE _ _ _ (hS1 _ _ _ e)),fun q b e=>?_,hI,fun q u' g hq hu' hg=>.inr ⟨q,u',hq,hu',hg⟩,MLe.refl m,hr S' u hu S m⟩
 exact (hH q b e).keep (Ext.refl S) (fun _ _ _ hc=>hc) rfl fun u g hu hg=>⟨hb.block g ((hH q b e).lt hu hg),fun _=>rfl⟩
theorem pin_row {S:Pin} {m:Nm} {w:World} {k e s:Nat} {xs:List (List AV)} (hheld:Held S m w k (.row e s xs)) (hcl:e < 2000000) (hA:Agree S w) :
  ∃ S',Ext S S'∧Agree S' w∧(∀ b,(∀ u,m k=some u→bk u≠some b)→∀ o,S' b o=S b o)∧∀ n v,n=xs.length→CV S (.rw k s n) m v→CV S' (.sl s false xs) noNm v:=by
 obtain ⟨A,c,h1,h2,h3,hlen,h4,vals,h5,h6,h7,_,h8⟩:=hheld.vals
 rw [rowNm_lo hcl] at h6
 let S':Pin:=fun b o=>if A=some ⟨b,0,none⟩∧o < vals.length then vals[o]? else S b o
 have hun:∀ b,A=some ⟨b,0,none⟩→∀ o,S b o=none:=by
  intro b hb o
  rcases h4 with ⟨e1,_⟩ | ⟨g,cur,fr,e1,_,_,_,e2⟩
  ·rw [hb] at e1; cases e1
  ·rw [hb] at e1
   injection e1 with e1
   injection e1 with e1
   subst e1
   exact e2 o
 have hS:Ext S S':=by
  intro b o v e1
  show (if A=some ⟨b,0,none⟩∧o < vals.length then vals[o]? else S b o)=some v
  rw [if_neg]
  ·exact e1
  ·rintro ⟨hb,_⟩
   rw [hun b hb] at e1; cases e1
 have hfar:∀ b,A≠some ⟨b,0,none⟩→∀ o,S' b o=S b o:=by
  intro b hb o
  show (if A=some ⟨b,0,none⟩∧o < vals.length then vals[o]? else S b o)=S b o
  rw [if_neg (fun q=>hb q.1)]
 refine ⟨S',hS,?_,fun b hb=>hfar b (fun hA=>hb _ h1 (by rw [hA]; rfl)),?_⟩
 ·intro b o v e1
  by_cases hA2:A=some ⟨b,0,none⟩∧o < vals.length
  ·have e2:vals[o]?=some v:=by
    have:S' b o=vals[o]?:=by show (if A=some ⟨b,0,none⟩∧o < vals.length then vals[o]? else S b o)=_; rw [if_pos hA2]
    rw [← this]; exact e1
   exact ⟨h8 b hA2.1 o v e2,h7 v (List.mem_of_getElem? e2)⟩
  ·have:S' b o=S b o:=by show (if A=some ⟨b,0,none⟩∧o < vals.length then vals[o]? else S b o)=_; rw [if_neg hA2]
   rw [this] at e1
   exact hA b o v e1
 ·intro n v hn hv
  subst hn
  simp only [CV] at hv ⊢
  obtain ⟨⟨B,d,rfl,p1,p2,p3,p4⟩,A1,q1,c1,p5,p6,p7⟩:=hv
  rw [h1] at p5
  injection p5 with p5
  injection p5 with _ p5
  injection p5 with e1 e2 e3
  subst e1; subst e3
  have hv:=p7 (by omega)
  injection hv with e1 e3 e4
  subst e1; subst e4
  refine ⟨B,d,rfl,h2,h3,(fun q=>by cases q),p3,fun ad had=>?_⟩
  obtain ⟨g,eg⟩:=p4 ad had
  subst eg
  refine ⟨fun _=>rfl,CE.mk fun j x hj=>?_⟩
  have hxl:=hlen x (List.mem_of_getElem? hj)
  refine ⟨hxl,CC.mk fun i y hi=>?_⟩
  obtain ⟨u,hu,hy⟩:=h6.get (flat_get hlen hj hi)
  have hlt:j*s+i < vals.length:=(List.getElem?_eq_some_iff.1 hu).1
  refine ⟨u,?_,hy.ext hS (MLe.refl _)⟩
  show (if B=some ⟨g,0,none⟩∧0+j*s+i < vals.length then vals[0+j*s+i]? else S g (0+j*s+i))=some u
  rw [Nat.zero_add,if_pos ⟨had,hlt⟩]
  exact hu
theorem nrow_known {S S1:Pin} {m:Nm} {w:World} {k e s:Nat} {ks:List Nat} {xs:List (List AV)} (h:Held S m w k (.nrow e s ks xs)) (he:e < 1000000) (f:AV→AV)
  (hS:∀ u g,m k=some u→bk u=some g→∀ o,S1 g o=S g o) (hf:∀ y v,(∀ j,nn j y=false→inL j ks=true)→CV S y m v→CV S1 (f y) noNm v):Held S1 m w k (.row e s (mapLL f xs)):=by
 obtain ⟨⟨A,c,p1,p2,p3,p4⟩,hn⟩:=h
 refine ⟨A,c,by rw [mapLL_len]; exact p1,by rw [mapLL_len]; exact p2,p3,?_⟩
 rcases p4 with p4 | ⟨g,cur,fr,rfl,p5,p6,p7,p8,p9⟩
 ·exact .inl p4
 ·rw [rowTy_op] at p5
  refine .inr ⟨g,cur,fr,rfl,by rw [rowTy_lt he]; exact p5,.inl p6.op,p7,fun o=>(hS _ g p1 rfl o).trans (p8 o),fun j x hx=>?_⟩
  obtain ⟨x0,hy,rfl⟩:=mapLL_at hx
  obtain ⟨r1,r2⟩:=p9 j x0 hy
  refine ⟨by rw [List.length_map]; exact r1,fun i y hi=>?_⟩
  rw [List.getElem?_map] at hi
  cases hz:x0[i]? with
  | none=>rw [hz] at hi; cases hi
  | some y0 =>
   rw [hz] at hi
   simp only [Option.map_some,Option.some.injEq] at hi
   subst hi
   obtain ⟨v,q1,q2,q3⟩:=r2 i y0 hz
   rw [rowNm_hi (by omega)] at q3
   rw [rowNm_lo (show e < 2000000 by omega)]
   exact ⟨v,q1,q2,hf y0 v (hn j i x0 y0 hy hz) q3⟩
theorem pin_two {S:Pin} {m:Nm} {w:World} {a b e e2 s s2:Nat} {xs ps:List (List AV)} (ha:Held S m w a (.nrow e s [b] xs)) (hb:Held S m w b (.row e2 s2 ps)) (he:e < 1000000) (he2:e2 < 2000000) (hA:Agree S w)
  (hinj:∀ u u' g,m a=some u→m b=some u'→bk u=some g→bk u'≠some g):∃ S',Ext S S'∧Agree S' w∧(∀ n v,n=xs.length→CV S (.rw a s n) m v→CV S' (.sl s false (mapLL (frsA b s2 ps) xs)) noNm v)∧∀ n v,n=ps.length→CV S (.rw b s2 n) m v→CV S' (.sl s2 false ps) noNm v:=by
 obtain ⟨S1,h1,h2,h3,h4⟩:=pin_row hb he2 hA
 have hk:=nrow_known (S1:=S1) ha he (frsA b s2 ps) (fun u g hu hg=>h3 g (fun u' hu'=>hinj u u' g hu hu' hg)) (fun y v hy hv=>?_)
 ·obtain ⟨S2,k1,k2,k3,k4⟩:=pin_row hk (by omega) h2
  refine ⟨S2,h1.trans k1,k2,fun n v hn hv=>k4 n v (by rw [mapLL_len]; exact hn) (hv.ext h1 (MLe.refl m)),fun n v hn hv=>(h4 n v hn hv).ext k1 (MLe.refl _)⟩
 ·have gen:nn b y=true→CV S1 y noNm v:=fun hq=>CV.mono h1 y m noNm v (fun i u hi e=>by
   have h:=hy i hi
   simp only [inL,Bool.or_false] at h
   have:=Nat.eq_of_beq_eq_true h
   subst this
   rw [hq] at hi; cases hi) hv
  cases y with
  | rw i s3 n =>
   simp only [frsA]
   split
   ·rename_i q
    subst q
    split
    ·rename_i q
     obtain ⟨rfl,q⟩:=q
     exact h4 n v q hv
    ·simp only [CV]
   ·rename_i q; exact gen (by simp only [nn]; rw [nbeq_ne q]; rfl)
  | _=>simp only [frsA]; exact kl_cv gen
theorem hol_frs {l:LLR} (hl:StsP l) (i b:Nat):mapLL (frsA b 7 (hoP l i)) (hol l i b)=l:=by
 unfold hol
 rw [mapLL_setEl,(flat_frs _ _ _).st hl]
 rcases Nat.lt_or_ge i l.length with h | h
 ·refine setEl_same ?_
  obtain ⟨k,nm,ps,hr,_⟩:=hl.fr i h
  have hP:hoP l i=ps:=by unfold hoP; rw [hr]; rfl
  rw [hP,hr]
  have e2:frsA b 7 ps (.rw b 7 ps.length)=.sl 7 false ps:=by simp only [frsA,if_true,true_and]
  rw [List.map_cons,List.map_nil,e2]
  rfl
 ·exact setEl_out h
theorem flat_ib {a:Int} {b:Bool}:∀ S u,CV S (.tup [.int .i64 a,.bool b]) noNm u→∀ S' m',CV S' (.tup [.int .i64 a,.bool b]) m' u:=by
 intro S u h S' m'
 simp only [CV,CVl] at h ⊢
 exact h
def gstB_s (l:LLR) (i:Nat):SpH
 | [.agg [.rw 0 3 n],.str s],[.nrow 59 3 [1] xs,.row 49 7 ps]=>some (((SrcS l∧n=l.length)∧xs=hol l i 1)∧ps=hoP l i,.tup [.int .i64 (stN l s:Nat),.bool (stH l s)],[.nrow 59 3 [1] xs,.row 49 7 ps])
 | _,_=>none
theorem gstB_ok (l:LLR) (i:Nat) (gl:Glob):HOK Tryz.prog gl 47 (gstB_s l i):=by
 refine ⟨(gstation_ok gl).1,?_⟩
 intro xs bs pre r bs2 h hp
 unfold gstB_s at h
 split at h
 ·rename_i n s X ps
  simp only [Option.some.injEq,Prod.mk.injEq] at h
  obtain ⟨h1,h2,h3⟩:=h
  subst h1 h2 h3
  obtain ⟨⟨⟨hs,rfl⟩,rfl⟩,rfl⟩:=hp
  refine borrow_core ((gstation_ok gl).2 [.agg [.sl 3 false l],.str s] _ _ rfl hs) flat_ib ?_
  intro w S m vs hA hH hI hv
  obtain ⟨S',k1,k2,k3,_⟩:=pin_two (hH 0 _ rfl) (hH 1 _ rfl) (by decide) (by decide) hA (fun u u' g hu hu' hg=>hI 0 1 u u' g (by simp) (by simp) (by decide) hu hu' hg)
  rw [hol_frs hs.fp] at k3
  refine ⟨S',k1,k2,?_⟩
  simp only [CVl] at hv ⊢
  obtain ⟨u,us,rfl,hu,u2,us2,rfl,hu2,rfl⟩:=hv
  refine ⟨u,_,rfl,?_,u2,[],rfl,hu2.ext k1 (MLe.refl _) |> fun h=>?_,rfl⟩
  ·simp only [CV,CVl] at hu ⊢
   obtain ⟨us,rfl,z,zs,hz,hc,rfl⟩:=hu
   have:=k3 l.length z (by rw [hol_len]) (by simp only [CV]; exact hc)
   simp only [CV] at this
   exact ⟨us,rfl,z,[],hz,this,rfl⟩
  ·simp only [CV] at h ⊢; exact h
 ·cases h
def gperB_s:SpH
 | [.agg [.int .i64 k,.str nm,.rw 0 7 n],.int .i64 t],[.row 49 7 ps]=>some (SrcD ps∧n=ps.length,.tup [.int .i64 (pdN ps t:Nat),.bool (pdH ps t)],[.row 49 7 ps])
 | _,_=>none
theorem gperB_ok (gl:Glob):HOK Tryz.prog gl 61 gperB_s:=by
 refine ⟨(gperiod_ok gl).1,?_⟩
 intro xs bs pre r bs2 h hp
 unfold gperB_s at h
 split at h
 ·rename_i k nm n t ps
  simp only [Option.some.injEq,Prod.mk.injEq] at h
  obtain ⟨h1,h2,h3⟩:=h
  subst h1 h2 h3
  obtain ⟨hs,rfl⟩:=hp
  refine borrow_core ((gperiod_ok gl).2 [.agg [.int .i64 k,.str nm,.sl 7 false ps],.int .i64 t] _ _ rfl hs) flat_ib ?_
  intro w S m vs hA hH hI hv
  obtain ⟨S',k1,k2,_,k3⟩:=pin_row (hH 0 _ rfl) (by decide) hA
  refine ⟨S',k1,k2,?_⟩
  simp only [CVl,CV] at hv ⊢
  obtain ⟨u,us,rfl,⟨us1,rfl,z1,zs1,e1,h1,z2,zs2,rfl,h2,z3,zs3,rfl,h3,rfl⟩,u2,us2,rfl,hu2,rfl⟩:=hv
  have:=k3 ps.length z3 rfl (by simp only [CV]; exact h3)
  simp only [CV] at this
  exact ⟨_,_,rfl,⟨us1,rfl,z1,_,e1,h1,z2,_,rfl,h2,z3,[],rfl,this,rfl⟩,u2,[],rfl,hu2,rfl⟩
 ·cases h
end Go.Proofs.YtldiagnbagpliaaGreatDoor
namespace Go.Proofs.YtldiagnbagpliaaGreatDoor
open Go Go.Lib Go.RowKit
set_option linter.unusedVariables false
set_option linter.unusedSimpArgs false
theorem zero_sizeS (zc:Array Value) (k:Nat):(Builtin.zeroCells zc k).size=k*zc.size:=by
 simp [Builtin.zeroCells]
theorem run_copyNS {P:Program} (w:World) (dT sT ty elem s:Nat) (b o dLen dCap:Nat) (a:Addr) (sLen sCap:Nat) (cs:List Value)
  (hu:P.underlying dT=some (.slice elem)) (hs:(P.info? elem).map (·.size)=some s) (hn:cs.length=Nat.min sLen dLen*s)
  (hsrc:∀ j v,cs[j]?=some v→w.cell? (a.add j)=some v) (hc:∀ j,j < cs.length→(w.cell? ⟨b,o+j,none⟩).isSome=true) (hf:∀ j,j < cs.length→w.frozen? ⟨b,o+j,none⟩=false) (h1:∀ v ∈ cs,v.oneCell'=true) :
  (Builtin.copy_ #[dT,sT] ty #[.slice (some ⟨b,o,none⟩) dLen dCap,.slice (some a) sLen sCap]).run P w=.ok (goInt (Nat.min sLen dLen)) (w.setCells b o cs):=by
 have hl:=run_loadCells_list (P:=P) w a cs hsrc
 have hst:=run_storeCells_cells (P:=P) b o cs 0 w (by simpa using hc) (by simpa using hf) h1
 cases hq:P.info? elem with
 | none=>simp [hq] at hs
 | some i =>
  have hi:i.size=s:=by simpa [hq] using hs
  simp [Builtin.copy_,run_underlying hu,Builtin.lenOf,Builtin.firstCells,sizeOf,typeInfo,hq,hi,← hn,hl,hst]
theorem t_itS:Tryz.prog.underlying 22=some (.slice 59):=by kernel_rfl
theorem i_itS:∃ i z,Tryz.prog.info? 59=some i∧i.zero=some z∧i.size=3∧z.cells.size=3∧i.bytes=48:=by
 have h:(Tryz.prog.info? 59).map (fun i=>(i.zero.map (·.cells.size),i.size,i.bytes))=some (some 3,3,48):=by kernel_rfl
 cases e:Tryz.prog.info? 59 with
 | none=>rw [e] at h; cases h
 | some i =>
  rw [e] at h
  simp only [Option.map_some,Option.some.injEq,Prod.mk.injEq] at h
  obtain ⟨h1,h2,h3⟩:=h
  cases hz:i.zero with
  | none=>rw [hz] at h1; cases h1
  | some z =>
   rw [hz] at h1
   exact ⟨i,z,rfl,hz,h2,by simpa using h1,h3⟩
set_option maxHeartbeats 4000000 in
theorem ins_end_roomS (b off n c vb voff m vc:Nat) (vs:List Value) (w:World) (hm:0 < m) (hroom:n+m≤c) (hc63:c≤9223372036854775807)
  (hvl:vs.length=m*3) (hsp:∀ j,j < m*3→(w.cell? ⟨b,off+n*3+j,none⟩).isSome=true) (hfz:∀ j,j < m*3→w.frozen? ⟨b,off+n*3+j,none⟩=false)
  (hvs:∀ j v,vs[j]?=some v→w.cell? ⟨vb,voff+j,none⟩=some v) (h1v:∀ v ∈ vs,v.oneCell'=true) :
  Calls Tryz.prog 60 #[.slice (some ⟨b,off,none⟩) n c,.int .i64 n,.slice (some ⟨vb,voff,none⟩) m vc] w fun e w' =>
   e=.returned (.slice (some ⟨b,off,none⟩) (n+m) c)∧w'=w.setCells b (off+n*3) vs:=by
 obtain ⟨i0,z0,hi0,hz0,hzs,hzc,hzb⟩:=i_itS
 have hz1:¬ ((m:Int)=0):=by omega
 have hsrc:_root_.Go.Src Tryz.prog i0.size 22 (.slice (some ⟨vb,voff,none⟩) m vc) m vs w:=by
  rw [hzs]
  exact _root_.Go.Src.ofSlice w t_itS ⟨vb,voff,none⟩ m vc vs (by omega) (fun j u hj=>by rw [Addr.add_lit]; exact hvs j u hj) h1v
 have hrun:∀ ty,(Builtin.append_ #[22,22] ty #[.slice (some ⟨b,off,none⟩) n c,.slice (some ⟨vb,voff,none⟩) m vc]).run Tryz.prog w=.ok (.slice (some ⟨b,off,none⟩) (n+m) c) (w.setCells b (off+n*3) vs):=fun ty=>by
  have:=run_append_room_src (w:=w) 22 22 ty 59 i0 t_itS hi0 b off n c (.slice (some ⟨vb,voff,none⟩) m vc) m vs hsrc hroom (by rw [hzs,hvl]; exact hsp) (by rw [hzs,hvl]; exact hfz)
  rw [hzs] at this
  exact this
 go_enter Tryz.func60,Tryz.ntmps60
 go_wp2_with (at_builtin; refine Lib.wpList_append_run _ rfl _ _ _ _ rfl _ _ rfl rfl _ _ (hrun _) ?_)
 go_ret
 exact ⟨rfl,rfl⟩
set_option maxHeartbeats 4000000 in
theorem ins_end_growS (base:Option Addr) (n c vb voff m vc:Nat) (cs vs:List Value) (w:World) (hm:0 < m) (hnc:n≤c) (hroom:c < n+m) (hbig:n+m≤1000)
  (hcl:cs.length=n*3) (hvl:vs.length=m*3) (hnil:base=none→n=0)
  (hcs:∀ a,base=some a→∀ j v,cs[j]?=some v→w.cell? (a.add j)=some v)
  (hvs:∀ j v,vs[j]?=some v→w.cell? ⟨vb,voff+j,none⟩=some v) (h1v:∀ v ∈ vs,v.oneCell'=true) (zc:Array Value) (hzc:∀ i z,Tryz.prog.info? 59=some i→i.zero=some z→z.cells=zc) :
  Calls Tryz.prog 60 #[.slice base n c,.int .i64 n,.slice (some ⟨vb,voff,none⟩) m vc] w fun e w' =>
   e=.returned (.slice (some ⟨w.heap.size,0,none⟩) (n+m) (grownCap w (n+m) c 59)) ∧
   w'=w.drew.alloc (.cells ((cs++vs).toArray++Builtin.zeroCells zc (grownCap w (n+m) c 59 - (n+m))) 59):=by
 obtain ⟨i0,z0,hi0,hz0,hzs,hzc1,hzb⟩:=i_itS
 have hzc2:=hzc i0 z0 hi0 hz0
 have hz1:¬ ((m:Int)=0):=by omega
 have hsrc:_root_.Go.Src Tryz.prog i0.size 22 (.slice (some ⟨vb,voff,none⟩) m vc) m vs w:=by
  rw [hzs]
  exact _root_.Go.Src.ofSlice w t_itS ⟨vb,voff,none⟩ m vc vs (by omega) (fun j u hj=>by rw [Addr.add_lit]; exact hvs j u hj) h1v
 have hold:(Builtin.firstCells i0.size n (.slice base n c)).run Tryz.prog w.drew=.ok cs.toArray w.drew:=by
  rw [hzs]
  cases base with
  | none =>
   have h0:=hnil rfl
   subst h0
   have hcs0:cs=[]:=List.length_eq_zero_iff.1 (by simpa using hcl)
   rw [hcs0]
   exact run_firstCells_none w.drew 3 0 0 c
  | some a=>exact run_firstCells_some w.drew 3 n a n c cs (by omega) (fun j v hj=>hcs a rfl j v hj)
 have hrun:∀ ty,(Builtin.append_ #[22,22] ty #[.slice base n c,.slice (some ⟨vb,voff,none⟩) m vc]).run Tryz.prog w=.ok (.slice (some ⟨w.heap.size,0,none⟩) (n+m) (grownCap w (n+m) c 59)) (w.drew.alloc (.cells ((cs++vs).toArray++Builtin.zeroCells zc (grownCap w (n+m) c 59 - (n+m))) 59)):=fun ty=>by
  have:=run_append_grow_src w 22 22 ty 59 i0 z0 t_itS hi0 hz0 base n c cs hold (.slice (some ⟨vb,voff,none⟩) m vc) m vs hsrc hroom (by omega) (by rw [hzb]; exact growslice_fits hroom (by omega))
  rw [hzc2] at this
  exact this
 go_enter Tryz.func60,Tryz.ntmps60
 cases base with
 | none =>
  have h0:=hnil rfl
  subst h0
  go_wp2_with (at_builtin; refine Lib.wpList_append_run _ rfl _ _ _ _ rfl _ _ rfl rfl _ _ (hrun _) ?_)
  go_ret
  exact ⟨rfl,rfl⟩
 | some a =>
  obtain ⟨ab,ao,asp⟩:=a
  go_wp2_with (at_builtin; refine Lib.wpList_append_run _ rfl _ _ _ _ rfl _ _ rfl rfl _ _ (hrun _) ?_)
  all_goals (go_ret; exact ⟨rfl,rfl⟩)
set_option maxHeartbeats 4000000 in
theorem ins_shiftS (b off n c i vb voff m vc:Nat) (cs vs:List Value) (w:World) (hi:i < n) (hm:0 < m) (hroom:n+m≤c) (hc63:c≤9223372036854775807) (hvb:vb≠b)
  (hcl:cs.length=n*3) (hvl:vs.length=m*3)
  (hcs:∀ j v,cs[j]?=some v→w.cell? ⟨b,off+j,none⟩=some v) (hsp:∀ j,j < (n+m)*3→(w.cell? ⟨b,off+j,none⟩).isSome=true) (hfz:∀ j,j < (n+m)*3→w.frozen? ⟨b,off+j,none⟩=false)
  (hvs:∀ j v,vs[j]?=some v→w.cell? ⟨vb,voff+j,none⟩=some v) (h1c:∀ v ∈ cs,v.oneCell'=true) (h1v:∀ v ∈ vs,v.oneCell'=true)
  (tA tB:TypeId) (kA kB:Nat) (hsa:w.shape? vb=some (tA,kA)) (hsb:w.shape? b=some (tB,kB)) (hkB:kB≠0) (hfa:w.frozen? ⟨vb,voff,none⟩=false) (hfe:w.frozen? ⟨vb,kA,none⟩=false) :
  Calls Tryz.prog 60 #[.slice (some ⟨b,off,none⟩) n c,.int .i64 i,.slice (some ⟨vb,voff,none⟩) m vc] w fun e w' =>
   e=.returned (.slice (some ⟨b,off,none⟩) (n+m) c)∧w'=(w.drew.setCells b (off+(i+m)*3) (cs.drop (i*3))).setCells b (off+i*3) vs:=by
 obtain ⟨i0,z0,hi0,hz0,hzs,hzc1,hzb⟩:=i_itS
 have hz1:¬ ((m:Int)=0):=by omega
 have hz2:¬ ((i:Int)=(n:Int)):=by omega
 have hsz:(Tryz.prog.info? 59).map (·.size)=some 3:=by rw [hi0]; simp [hzs]
 have hso:∀ w,(Go.sizeOf 59).run Tryz.prog w=.ok 3 w:=fun w=>by simp [sizeOf,typeInfo,hi0,hzs]
 have hov:∀ lb cb,(callFunc 99 #[.slice (some ⟨vb,voff,none⟩) m vc,.slice (some ⟨b,off+(i+m)*3,none⟩) lb cb]).run Tryz.prog w=.ok (.value (.bool false)) w:=fun lb cb=>by
  rw [run_callFunc_extern Tryz.func99 (by kernel_rfl) (by kernel_rfl) (by kernel_rfl) (e:=Extern.SlicesOverlaps.overlaps #[22,22] #[4]) (by kernel_rfl),
   Lib.run_overlaps_apart w 22 4 59 t_itS 3 hso ⟨vb,voff,none⟩ ⟨b,off+(i+m)*3,none⟩ m vc lb cb hvb tA tB kA kB hsa hsb hkB hfa hfe]
  rfl
 have mixed:Tryz.prog.follows Departure.mixedOrders=true:=by kernel_rfl
 have hdl:(cs.drop (i*3)).length=(n - i)*3:=by rw [List.length_drop,hcl]; omega
 have hw1:IntKind.i64.wrap ((i:Int)+(m:Int))=(i:Int)+(m:Int):=by rw [IntKind.wrap_i64]; omega
 have hb1:(0:Int)≤(i:Int)+(m:Int):=by omega
 have hin:i≤n:=by omega
 have htn:((i:Int)+(m:Int)).toNat=i+m:=by omega
 have hb2:¬ (c=i+m):=by omega
 have hb3:(i:Int)≤(n:Int)+(m:Int):=by omega
 have hb4:¬ (c=i):=by omega
 have hmn1:Nat.min (n+m - i) (n+m - (i+m))=n - i:=by simp only [Nat.min_def]; split <;> omega
 have hmn2:Nat.min m (n+m - i)=m:=by simp only [Nat.min_def]; split <;> omega
 have hcp1:∀ ty dc sc,(Builtin.copy_ #[22,22] ty #[.slice (some ⟨b,off+(i+m)*3,none⟩) (n+m - (i+m)) dc,.slice (some ⟨b,off+i*3,none⟩) (n+m - i) sc]).run Tryz.prog w.drew=.ok (goInt ((n - i:Nat):Int)) (w.drew.setCells b (off+(i+m)*3) (cs.drop (i*3))):=fun ty dc sc=>by
  have:=run_copyNS w.drew 22 22 ty 59 3 b (off+(i+m)*3) (n+m - (i+m)) dc ⟨b,off+i*3,none⟩ (n+m - i) sc (cs.drop (i*3)) t_itS hsz (by rw [hdl,hmn1])
   (fun j v hj=>by rw [Addr.add_lit,Nat.add_assoc]; exact hcs (i*3+j) v (by rwa [List.getElem?_drop] at hj))
   (fun j hj=>by rw [Nat.add_assoc]; exact hsp _ (by omega)) (fun j hj=>by rw [Nat.add_assoc]; exact hfz _ (by omega)) (fun v hv=>h1c v (List.mem_of_mem_drop hv))
  rw [hmn1] at this
  exact this
 obtain ⟨W1,hW1⟩:∃ W1,W1=w.drew.setCells b (off+(i+m)*3) (cs.drop (i*3)):=⟨_,rfl⟩
 have hsp1:∀ k,k < (n+m)*3→(W1.cell? ⟨b,off+k,none⟩).isSome=true:=fun k hk=>by
  rw [hW1]
  exact isSome_setCells b _ _ _ (fun j hj=>by rw [Nat.add_assoc]; exact hsp _ (by omega)) _ (hsp k hk)
 have hcp2:∀ (W:World),(∀ x,W.cell? x=W1.cell? x)→(∀ x,W.frozen? x=W1.frozen? x)→∀ ty dc,(Builtin.copy_ #[22,22] ty #[.slice (some ⟨b,off+i*3,none⟩) (n+m - i) dc,.slice (some ⟨vb,voff,none⟩) m vc]).run Tryz.prog W=.ok (goInt (m:Int)) (W.setCells b (off+i*3) vs):=fun W hWc hWf ty dc=>by
  have:=run_copyNS W 22 22 ty 59 3 b (off+i*3) (n+m - i) dc ⟨vb,voff,none⟩ m vc vs t_itS hsz (by rw [hvl,hmn2])
   (fun j v hj=>by
    rw [Addr.add_lit,hWc,hW1,World.cell?_setCells_out b _ _ _ _ (fun h _=>absurd h hvb)]
    exact hvs j v hj)
   (fun j hj=>by rw [hWc,Nat.add_assoc]; exact hsp1 _ (by omega)) (fun j hj=>by rw [hWf,hW1,World.frozen?_setCells,Nat.add_assoc]; exact hfz _ (by omega)) h1v
  rw [hmn2] at this
  exact this
 rw [← hW1] at hcp1
 go_enter Tryz.func60,Tryz.ntmps60
 go_wp2_with (simp only [hov])
 go_region_law_o (refine step_copy_runI rfl _ _ 22 22 rfl _ _ (by simp [Act.eval,Act.put]) (by simp [Act.eval,Act.put]) (hcp1 _ _ _) ?_)
 go_wp2_with (at_builtin; refine wpList_copy_runI _ rfl _ _ 22 22 rfl _ _ rfl rfl (hcp2 _ (fun _=>rfl) (fun _=>rfl) _ _) ?_)
 go_ret
 first | exact ⟨rfl,rfl⟩ | exact ⟨rfl,by rw [hW1]⟩
set_option maxHeartbeats 4000000 in
theorem ins_growS (b off n c i vb voff m vc:Nat) (cs vs:List Value) (w:World) (hi:i < n) (hm:0 < m) (hnc:n≤c) (hroom:c < n+m) (hbig:n+m≤1000)
  (hcl:cs.length=n*3) (hvl:vs.length=m*3)
  (hcs:∀ j v,cs[j]?=some v→w.cell? ⟨b,off+j,none⟩=some v)
  (hvs:∀ j v,vs[j]?=some v→w.cell? ⟨vb,voff+j,none⟩=some v) (h1c:∀ v ∈ cs,v.oneCell'=true) (h1v:∀ v ∈ vs,v.oneCell'=true) (zc:Array Value) (hzcc:∀ i z,Tryz.prog.info? 59=some i→i.zero=some z→z.cells=zc) :
  Calls Tryz.prog 60 #[.slice (some ⟨b,off,none⟩) n c,.int .i64 i,.slice (some ⟨vb,voff,none⟩) m vc] w fun e w' =>
   e=.returned (.slice (some ⟨w.heap.size,0,none⟩) (n+m) (grownCap w (n+m) c 59)) ∧
   w'=(((w.alloc (.cells ((cs.take (i*3)).toArray++Builtin.zeroCells zc (n+m - i)++Builtin.zeroCells zc (grownCap w (n+m) c 59 - (n+m))) 59)).drew.setCells w.heap.size (i*3) vs).drew).setCells w.heap.size ((i+m)*3) (cs.drop (i*3)):=by
 obtain ⟨i0,z0,hi0,hz0,hzs,hzc1,hzb⟩:=i_itS
 have hzc2:=hzcc i0 z0 hi0 hz0
 have hzl:zc.size=3:=by rw [← hzc2]; exact hzc1
 have mixed:Tryz.prog.follows Departure.mixedOrders=true:=by kernel_rfl
 have hz1:¬ ((m:Int)=0):=by omega
 have hz2:¬ ((i:Int)=(n:Int)):=by omega
 have hz3:(c:Int) < (n:Int)+(m:Int):=by omega
 have hsz:(Tryz.prog.info? 59).map (·.size)=some 3:=by rw [hi0]; simp [hzs]
 have hbw:b < w.heap.size:=World.block_lt_of_cell? w _ (hcs 0 _ (List.getElem?_eq_getElem (by omega)))
 have hvw:vb < w.heap.size:=World.block_lt_of_cell? w _ (hvs 0 _ (List.getElem?_eq_getElem (by omega)))
 have hkk:(n:Int)+(m:Int) - (i:Int)=((n+m - i:Nat):Int):=by omega
 have hik:i+(n+m - i)=n+m:=by omega
 have hold:(Builtin.firstCells i0.size i (.slice (some ⟨b,off,none⟩) i c)).run Tryz.prog w.drew=.ok (cs.take (i*3)).toArray w.drew:=by
  rw [hzs]
  exact run_firstCells_some w.drew 3 i ⟨b,off,none⟩ i c (cs.take (i*3)) (by rw [List.length_take,hcl]; omega) (fun j v hj=>by
   rw [Addr.add_lit]
   rw [List.getElem?_take] at hj
   split at hj
   ·exact hcs j v hj
   ·cases hj)
 have hrz:∀ ty,(Builtin.append_ #[22,3] ty #[.slice (some ⟨b,off,none⟩) i c,.int .i64 ((n:Int)+(m:Int) - (i:Int))]).run Tryz.prog w =
   .ok (.slice (some ⟨w.heap.size,0,none⟩) (n+m) (grownCap w (n+m) c 59)) (w.drew.alloc (.cells ((cs.take (i*3)).toArray++Builtin.zeroCells zc (n+m - i)++Builtin.zeroCells zc (grownCap w (n+m) c 59 - (n+m))) 59)):=fun ty=>by
  have h:=Lib.run_append_grow_zeros w 22 3 ty 59 i0 z0 .i64 .i64 t_itS (by kernel_rfl) hi0 hz0 (some ⟨b,off,none⟩) i c (cs.take (i*3)) hold (n+m - i) (by omega) (by omega) (by omega) (by omega) (by rw [hzb]; omega) (by rw [hzb,hik]; exact growslice_fits hroom (by omega))
  rw [hik,hzc2] at h
  rw [hkk]
  exact h
 obtain ⟨G,hG⟩:∃ G,G=grownCap w (n+m) c 59:=⟨_,rfl⟩
 obtain ⟨ROW,hROW⟩:∃ ROW:Array Value,ROW=(cs.take (i*3)).toArray++Builtin.zeroCells zc (n+m - i)++Builtin.zeroCells zc (G - (n+m)):=⟨_,rfl⟩
 rw [← hG] at hrz ⊢
 rw [← hROW] at hrz ⊢
 have hRl:(n+m)*3≤ROW.size:=by
  rw [hROW,Array.size_append,Array.size_append,zero_sizeS,zero_sizeS,hzl]
  simp only [List.size_toArray,List.length_take,hcl]
  omega
 obtain ⟨W1,hW1⟩:∃ W1,W1=w.drew.alloc (.cells ROW 59):=⟨_,rfl⟩
 rw [← hW1] at hrz
 have hN:∀ j,j < (n+m)*3→(W1.cell? ⟨w.heap.size,j,none⟩).isSome=true:=fun j hj=>by
  rw [hW1,World.cell?_alloc_at (w:=w.drew) ROW _ w.heap.size j rfl,Array.getElem?_eq_getElem (by omega)]; rfl
 have hNf:∀ j,W1.frozen? ⟨w.heap.size,j,none⟩=false:=fun j=>by rw [hW1]; exact World.frozen?_alloc_at (w:=w.drew) ROW _ w.heap.size j rfl
 have hOb:∀ j v,w.cell? ⟨b,j,none⟩=some v→W1.cell? ⟨b,j,none⟩=some v:=fun j v h=>by rw [hW1,World.cell?_alloc_past (w:=w.drew) _ b j hbw]; exact h
 have hOv:∀ j v,w.cell? ⟨vb,j,none⟩=some v→W1.cell? ⟨vb,j,none⟩=some v:=fun j v h=>by rw [hW1,World.cell?_alloc_past (w:=w.drew) _ vb j hvw]; exact h
 have hmnA:Nat.min m (n+m - i)=m:=by simp only [Nat.min_def]; split <;> omega
 have hmnB:Nat.min (n - i) (n+m - (i+m))=n - i:=by simp only [Nat.min_def]; split <;> omega
 have hcpA:∀ (W:World),(∀ x,W.cell? x=W1.cell? x)→(∀ x,W.frozen? x=W1.frozen? x)→∀ ty dc,(Builtin.copy_ #[22,22] ty #[.slice (some ⟨w.heap.size,i*3,none⟩) (n+m - i) dc,.slice (some ⟨vb,voff,none⟩) m vc]).run Tryz.prog W=.ok (goInt (m:Int)) (W.setCells w.heap.size (i*3) vs):=fun W hWc hWf ty dc=>by
  have:=run_copyNS W 22 22 ty 59 3 w.heap.size (i*3) (n+m - i) dc ⟨vb,voff,none⟩ m vc vs t_itS hsz (by rw [hvl,hmnA])
   (fun j v hj=>by rw [Addr.add_lit,hWc]; exact hOv _ v (hvs j v hj))
   (fun j hj=>by rw [hWc]; exact hN _ (by omega)) (fun j hj=>by rw [hWf]; exact hNf _) h1v
  rw [hmnA] at this
  exact this
 have hGn:n+m≤G:=by rw [hG]; exact grownCap_ge w _ _ _
 have hG63:G≤9223372036854775807:=by
  have:=grownCap_le_maxLen w (n+m) c 59 (by unfold maxLen; omega)
  rw [← hG] at this
  unfold maxLen at this
  omega
 have hGi:¬ (G=i):=by omega
 have hGim:¬ (G=i+m):=by omega
 have hci:¬ (c=i):=by omega
 have hbN:b≠w.heap.size:=by omega
 have hdl:(cs.drop (i*3)).length=(n - i)*3:=by rw [List.length_drop,hcl]; omega
 have hcpB:∀ (W:World),(∀ x,W.cell? x=(W1.setCells w.heap.size (i*3) vs).cell? x)→(∀ x,W.frozen? x=(W1.setCells w.heap.size (i*3) vs).frozen? x)→∀ ty dc sc,(Builtin.copy_ #[22,22] ty #[.slice (some ⟨w.heap.size,(i+m)*3,none⟩) (n+m - (i+m)) dc,.slice (some ⟨b,off+i*3,none⟩) (n - i) sc]).run Tryz.prog W=.ok (goInt ((n - i:Nat):Int)) (W.setCells w.heap.size ((i+m)*3) (cs.drop (i*3))):=fun W hWc hWf ty dc sc=>by
  have:=run_copyNS W 22 22 ty 59 3 w.heap.size ((i+m)*3) (n+m - (i+m)) dc ⟨b,off+i*3,none⟩ (n - i) sc (cs.drop (i*3)) t_itS hsz (by rw [hdl,hmnB])
   (fun j v hj=>by
    rw [Addr.add_lit,hWc,World.cell?_setCells_out _ _ _ _ _ (fun h _=>absurd h hbN),Nat.add_assoc]
    exact hOb _ v (hcs (i*3+j) v (by rwa [List.getElem?_drop] at hj)))
   (fun j hj=>by rw [hWc]; exact isSome_setCells _ _ _ _ (fun t ht=>hN _ (by omega)) _ (hN _ (by omega)))
   (fun j hj=>by rw [hWf,World.frozen?_setCells]; exact hNf _) (fun v hv=>h1c v (List.mem_of_mem_drop hv))
  rw [hmnB] at this
  exact this
 subst hW1
 have hE1:∀ x,((w.alloc (.cells ROW 59)).drew).cell? x=(w.drew.alloc (.cells ROW 59)).cell? x:=fun x=>rfl
 have hE2:∀ x,((w.alloc (.cells ROW 59)).drew).frozen? x=(w.drew.alloc (.cells ROW 59)).frozen? x:=fun x=>rfl
 have hF1:∀ x,(((w.alloc (.cells ROW 59)).drew.setCells w.heap.size (i*3) vs).drew).cell? x=((w.drew.alloc (.cells ROW 59)).setCells w.heap.size (i*3) vs).cell? x:=fun x=>rfl
 have hF2:∀ x,(((w.alloc (.cells ROW 59)).drew.setCells w.heap.size (i*3) vs).drew).frozen? x=((w.drew.alloc (.cells ROW 59)).setCells w.heap.size (i*3) vs).frozen? x:=fun x=>rfl
 have hw1:IntKind.i64.wrap ((i:Int)+(m:Int))=(i:Int)+(m:Int):=by rw [IntKind.wrap_i64]; omega
 have hb1:(0:Int)≤(i:Int)+(m:Int):=by omega
 have hin:i≤n:=by omega
 have htn:((i:Int)+(m:Int)).toNat=i+m:=by omega
 have hb3:(i:Int)≤(n:Int):=by omega
 clear hkk hik hold hROW hG hRl
 go_enter Tryz.func60,Tryz.ntmps60
 go_wp2_with (first
  | (at_builtin; refine Lib.wpList_append_run _ rfl _ _ _ _ rfl _ _ rfl rfl _ _ (hrz _) ?_)
  | (at_builtin; refine wpList_copy_runI _ rfl _ _ 22 22 rfl _ _ rfl rfl (hcpA _ hE1 hE2 _ _) ?_)
  | (at_builtin; refine wpList_copy_runI _ rfl _ _ 22 22 rfl _ _ rfl rfl (hcpB _ (fun _=>rfl) (fun _=>rfl) _ _ _) ?_))
 go_region_law_o (refine step_copy_runI rfl _ _ 22 22 rfl (.slice (some ⟨w.heap.size,(i+m)*3,none⟩) (n+m - (i+m)) (G - (i+m))) (.slice (some ⟨b,off+i*3,none⟩) (n - i) (c - i)) (by simp [Act.eval,Act.put]) (by simp [Act.eval,Act.put]) (hcpB _ hF1 hF2 3 (G - (i+m)) (c - i)) ?_)
 go_wp2
 go_ret
 exact ⟨rfl,rfl⟩
end Go.Proofs.YtldiagnbagpliaaGreatDoor
namespace Go.Proofs.YtldiagnbagpliaaGreatDoor
open Go Go.Lib Go.RowKit
set_option linter.unusedVariables false
set_option linter.unusedSimpArgs false
theorem setCells_otherS (b:Nat):∀ (vs:List Value) (o:Nat) (w:World) (g:Nat),g≠b→(w.setCells b o vs).heap[g]?=w.heap[g]?
 | [],_,_,_,_=>rfl
 | v::r,o,w,g,h=>by
  rw [World.setCells,setCells_otherS b r (o+1) _ g h]
  simp [World.setCell,Array.getElem?_modify,Ne.symm h]
theorem setCells_restS (b:Nat):∀ (vs:List Value) (o:Nat) (w:World),(w.setCells b o vs).os=w.os∧(w.setCells b o vs).tape=w.tape∧(w.setCells b o vs).output=w.output∧(w.setCells b o vs).heap.size=w.heap.size
 | [],_,_=>⟨rfl,rfl,rfl,rfl⟩
 | v::r,o,w=>by
  obtain ⟨h1,h2,h3,h4⟩:=setCells_restS b r (o+1) (w.setCell ⟨b,o,none⟩ v)
  rw [World.setCells]
  exact ⟨h1,h2,h3,by rw [h4]; simp [World.setCell]⟩
def putLS (o:Nat) (vs l:List Value):List Value:=l.take o++vs++l.drop (o+vs.length)
theorem putL_consS {o:Nat} {v:Value} {r l:List Value} (h:o < l.length):putLS (o+1) r (l.set o v)=putLS o (v::r) l:=by
 unfold putLS
 rw [List.drop_set_of_lt (by omega)]
 rw [List.take_add_one,List.take_set_of_le (Nat.le_refl _)]
 simp only [List.getElem?_set_self h,Option.toList_some,List.append_assoc,List.singleton_append,List.length_cons]
 rw [show o+1+r.length=o+(r.length+1) by omega]
theorem setCells_heapS (b t:Nat) (fr:Nat × Nat):∀ (vs:List Value) (o:Nat) (w:World) (l:List Value),w.heap[b]?=some (.cells l.toArray t fr)→o+vs.length≤l.length→(w.setCells b o vs).heap[b]?=some (.cells (putLS o vs l).toArray t fr)
 | [],o,w,l,h,_=>by
  rw [World.setCells,h]
  unfold putLS; simp
 | v::r,o,w,l,h,hl=>by
  rw [List.length_cons] at hl
  have h1:(w.setCell ⟨b,o,none⟩ v).heap[b]?=some (.cells (l.set o v).toArray t fr):=by
   simp [World.setCell,Array.getElem?_modify,h]
  rw [World.setCells,setCells_heapS b t fr r (o+1) _ (l.set o v) h1 (by rw [List.length_set]; omega),putL_consS (by omega)]
theorem putL_lenS {o:Nat} {vs l:List Value} (h:o+vs.length≤l.length):(putLS o vs l).length=l.length:=by
 unfold putLS
 simp only [List.length_append,List.length_take,List.length_drop]
 omega
theorem putL_takeS {o k:Nat} {vs l:List Value} (h:o+vs.length≤l.length) (hk:o+vs.length=k):(putLS o vs l).take k=l.take o++vs:=by
 unfold putLS
 rw [List.take_append_of_le_length (by simp only [List.length_append,List.length_take]; omega),List.take_of_length_le (by simp only [List.length_append,List.length_take]; omega)]
theorem flat_take10S:∀ {zs:List (List AV)} (n:Nat),(∀ z ∈ zs,z.length=3)→(zs.take n).flatten=zs.flatten.take (n*3)∧(zs.drop n).flatten=zs.flatten.drop (n*3)
 | _,0,_=>by simp
 | [],n+1,_=>by simp
 | z::zs,n+1,h=>by
  have hz:=h z List.mem_cons_self
  obtain ⟨h1,h2⟩:=flat_take10S (zs:=zs) n (fun y hy=>h y (List.mem_cons_of_mem _ hy))
  have e:(n+1)*3=z.length+n*3:=by omega
  constructor
  ·rw [List.take_succ_cons,List.flatten_cons,List.flatten_cons,e,List.take_append,h1,List.take_of_length_le (l:=z) (by omega),show z.length+n*3 - z.length=n*3 by omega]
  ·rw [List.drop_succ_cons,List.flatten_cons,e,List.drop_append,h2,List.drop_of_length_le (l:=z) (by omega),show z.length+n*3 - z.length=n*3 by omega,List.nil_append]
def insPS (n q:Nat) (i:Int) (xs ys:LLA):Prop:=n=xs.length∧q=1∧ys.length=1∧0≤i∧i≤n∧n≤900
def sins_sS:SpH
 | [.rw 0 3 n,.int .i64 i,.rw 1 3 q],[.row 59 3 xs,.row 59 3 ys]=>some (insPS n q i xs ys,.rw 0 3 (n+1),[.row 59 3 (xs.take i.toNat++ys++xs.drop i.toNat),.row 59 3 ys])
 | _,_=>none
theorem ins_doneS {S:Pin} {m:Nm} {w w':World} {xs ys zs:LLA} {A:Option Addr} {c g1 c1:Nat} {g' c':Nat} {l:List Value} {vals:List Value}
  (hA:Agree S w) (hm0:m 0=some (.iface 0 (.slice A xs.length c))) (hm1:m 1=some (.iface 0 (.slice (some ⟨g1,0,none⟩) 1 c1)))
  (H1:Held S m w 1 (.row 59 3 ys)) (hnm:∀ k u,m k=some u→k < 2) (hg1:g1 < w.heap.size) (hne:g1≠g')
  (hg:(A=some ⟨g',0,none⟩∧g' < w.heap.size)∨g'=w.heap.size) (hS:∀ o,S g' o=none)
  (r1:w'.os=w.os) (r2:w'.tape=w.tape) (r3:w'.output=w.output) (r4:w.heap.size≤w'.heap.size) (r5:∀ b,b < w.heap.size→b≠g'→w'.heap[b]?=w.heap[b]?)
  (r6:w'.heap[g']?=some (.cells l.toArray 59 (0,0))) (r7:l.length=c'*3) (r8:l.take (zs.length*3)=vals) (hc:zs.length≤c') (hcm:c'≤maxLen)
  (hz:∀ z ∈ zs,z.length=3) (hv:CVl S zs.flatten noNm vals) (h1:∀ v ∈ vals,v.oneCell'=true) (hl:zs.length=xs.length+1) :
  ∃ u S' m',(Ending.returned (.slice (some ⟨g',0,none⟩) (xs.length+1) c'):Ending)=.returned u∧w'.os=w.os∧w'.tape=w.tape∧w'.output=w.output∧w.heap.size≤w'.heap.size∧Ext S S' ∧
   (∀ b,b < w.heap.size→¬ Mof 2 m b→w'.heap[b]?=w.heap[b]?∧∀ o,S' b o=S b o)∧Agree S' w' ∧
   (∀ (q:Nat) (b:Blk),([.row 59 3 zs,.row 59 3 ys]:List Blk)[q]?=some b→Held S' m' w' q b)∧InjB 2 m'∧(∀ q u g,q < 2→m' q=some u→bk u=some g→w.heap.size≤g∨Mof 2 m g)∧MLe m m'∧CV S' (.rw 0 3 (xs.length+1)) m' u:=by
 have hlt:59 < 1000000:=by decide
 have n0:(m.set 0 (.iface 0 (.slice (some ⟨g',0,none⟩) zs.length c'))) 0=some (.iface 0 (.slice (some ⟨g',0,none⟩) zs.length c')):=Nm.set_same _ _ _
 have n1:(m.set 0 (.iface 0 (.slice (some ⟨g',0,none⟩) zs.length c'))) 1=m 1:=Nm.set_ne _ _ (by decide)
 refine ⟨_,S,m.set 0 (.iface 0 (.slice (some ⟨g',0,none⟩) zs.length c')),rfl,r1,r2,r3,r4,.refl _,fun b hb hM=>⟨r5 b hb fun e=>hM ?_,fun _=>rfl⟩,fun b o v h=>?_,fun q b hq=>?_,?_,?_,?_,?_⟩
 ·subst e
  rcases hg with ⟨h,_⟩ | h
  ·exact ⟨0,_,by decide,hm0,by rw [h]; rfl⟩
  ·omega
 ·obtain ⟨k1,k2⟩:=hA b o v h
  have hb:b≠g':=fun e=>by rw [e,hS o] at h; cases h
  exact ⟨by rw [World.cell?_of_block (w:=w) (r5 b (hA.lt h) hb)]; exact k1,k2⟩
 ·match q,hq with
  | 0,hq =>
   simp only [List.getElem?_cons_zero,Option.some.injEq] at hq
   subst hq
   refine ⟨some ⟨g',0,none⟩,c',n0,hc,hcm,.inr ⟨g',l.toArray,(0,0),rfl,by rw [rowTy_lt hlt]; exact r6,.none,by simpa using r7,hS,?_⟩⟩
   rw [rowNm_lo (Nat.lt_trans hlt (by decide))]
   exact row_of_flat hz hv h1 (by simpa using r8)
  | 1,hq =>
   simp only [List.getElem?_cons_succ,List.getElem?_cons_zero,Option.some.injEq] at hq
   subst hq
   refine H1.keep (.refl _) (fun cs vs hi _=>?_) n1 fun u g hu hgu=>?_
   ·obtain ⟨hh,_⟩:=hi
    omega
   ·rw [hm1] at hu
    injection hu with hu
    subst hu
    simp only [bk,Option.some.injEq] at hgu
    subst hgu
    exact ⟨r5 _ hg1 hne,fun _=>rfl⟩
  | q+2,hq=>simp at hq
 ·intro q q' u u' g hq hq' hqq hu hu' hgu
  have key:∀ (q:Nat) (u:Value) (g:Nat),q < 2→(m.set 0 (.iface 0 (.slice (some ⟨g',0,none⟩) zs.length c'))) q=some u→bk u=some g→(q=0∧g=g')∨(q=1∧g=g1):=by
   intro q u g hq hu hgu
   match q,hq with
   | 0,_ =>
    rw [n0] at hu; injection hu with hu; subst hu
    simp only [bk,Option.some.injEq] at hgu
    exact .inl ⟨rfl,hgu.symm⟩
   | 1,_ =>
    rw [n1,hm1] at hu; injection hu with hu; subst hu
    simp only [bk,Option.some.injEq] at hgu
    exact .inr ⟨rfl,hgu.symm⟩
  intro hgu'
  rcases key q u g hq hu hgu with ⟨a1,a2⟩ | ⟨a1,a2⟩ <;> rcases key q' u' g hq' hu' hgu' with ⟨b1,b2⟩ | ⟨b1,b2⟩
  ·omega
  ·exact hne (by rw [← b2,a2])
  ·exact hne (by rw [← a2,b2])
  ·omega
 ·intro q u g hq hu hgu
  match q,hq with
  | 0,_ =>
   rw [n0] at hu; injection hu with hu; subst hu
   simp only [bk,Option.some.injEq] at hgu
   subst hgu
   rcases hg with ⟨h,_⟩ | h
   ·exact .inr ⟨0,_,by decide,hm0,by rw [h]; rfl⟩
   ·exact .inl (by omega)
  | 1,_=>exact .inr ⟨1,u,by decide,by rw [← n1]; exact hu,hgu⟩
 ·exact grow_le hm0 (by omega)
 ·rw [← hl]
  exact CV.rw_mk n0 hc hcm (.inr ⟨g',rfl⟩)
theorem cv_rowS {S:Pin} {m:Nm} {k s n:Nat} {v:Value} {A:Option Addr} {c:Nat} (h:CV S (.rw k s n) m v) (hm:m k=some (.iface 0 (.slice A n c))):v=.slice A n c:=by
 simp only [CV] at h
 obtain ⟨_,A1,q,c1,p1,p2,p3⟩:=h
 rw [hm] at p1
 injection p1 with p1
 injection p1 with _ p1
 injection p1 with e1 e2 e3
 subst e1 e3
 rw [e2]
 exact p3 (by omega)
set_option maxHeartbeats 1000000 in
theorem sins_okS (gl:Glob):HOK Tryz.prog gl 60 sins_sS:=by
 refine ⟨fok Tryz.func60 (by kernel_rfl) (by kernel_rfl),?_⟩
 intro xs0 bs pre r bs2 h hp
 unfold sins_sS at h
 split at h
 rotate_left
 ·cases h
 rename_i n i q xs ys
 simp only [Option.some.injEq,Prod.mk.injEq] at h
 obtain ⟨h1,h2,h3⟩:=h
 subst h1 h2 h3
 obtain ⟨hn,hq,hy,i0,i1,hbg⟩:=hp
 subst hn hq
 intro w S m vs hG hA hnm hheld hinj hv
 have H0:=hheld 0 _ rfl
 have H1:=hheld 1 _ rfl
 have hlt:59 < 1000000:=by decide
 obtain ⟨A,c,a1,a2,a3,a4,a5,V,b1,b2,b3,b4,b5⟩:=H0.vals
 obtain ⟨A1,c1,d1,d2,d3,d4,d5,Y,e1,e2,e3,e4,e5⟩:=H1.vals
 rw [rowNm_lo (Nat.lt_trans hlt (by decide))] at b2 e2
 rw [hy] at d1 d2 e1
 obtain ⟨g1,cur1,fr1,rfl,f1,f2,f3,f4⟩:=d5.resolve_left (fun h=>by omega)
 have hfr1:=f2.lt hlt
 subst hfr1
 rw [rowTy_lt hlt] at f1
 have hg1:g1 < w.heap.size:=(Array.getElem?_eq_some_iff.1 f1).1
 simp only [CVl] at hv
 obtain ⟨u1,us1,v1,hv1,u2,us2,v2,hv2,u3,us3,v3,hv3,v4⟩:=hv
 subst v4 v3 v2
 have hv1:=cv_rowS hv1 a1
 have hv3:=cv_rowS hv3 d1
 simp only [CV] at hv2
 obtain ⟨hv2,_⟩:=hv2
 subst hv1 hv2 hv3
 obtain ⟨k,rfl⟩:∃ k:Nat,i=k:=⟨i.toNat,by omega⟩
 have hvs:vs=#[.slice A xs.length c,.int .i64 k,.slice (some ⟨g1,0,none⟩) 1 c1]:=by apply Array.ext'; simpa using v1
 subst hvs
 have hk:k≤xs.length:=by omega
 have hs1:∀ j v,Y[j]?=some v→w.cell? ⟨g1,0+j,none⟩=some v:=fun j v h=>by rw [Nat.zero_add]; exact e5 g1 rfl j v h
 have hYl:Y.length=1*3:=by rw [e1]
 have hz:∀ z ∈ xs.take k++ys++xs.drop k,z.length=3:=fun z hz=>by
  rcases List.mem_append.1 hz with hz | hz
  ·rcases List.mem_append.1 hz with hz | hz
   ·exact a4 z (List.mem_of_mem_take hz)
   ·exact d4 z hz
  ·exact a4 z (List.mem_of_mem_drop hz)
 have hzl:(xs.take k++ys++xs.drop k).length=xs.length+1:=by
  simp only [List.length_append,List.length_take,List.length_drop,hy]; omega
 obtain ⟨t1,t2⟩:=flat_take10S (zs:=xs) k a4
 have hct:CVl S (xs.take k++ys++xs.drop k).flatten noNm (V.take (k*3)++Y++V.drop (k*3)):=by
  rw [List.flatten_append,List.flatten_append,t1,t2]
  exact ((b2.take _).append e2).append (b2.drop _)
 have hon:∀ v ∈ V.take (k*3)++Y++V.drop (k*3),v.oneCell'=true:=fun v hv=>by
  rcases List.mem_append.1 hv with hv | hv
  ·rcases List.mem_append.1 hv with hv | hv
   ·exact b3 v (List.mem_of_mem_take hv)
   ·exact e3 v hv
  ·exact b3 v (List.mem_of_mem_drop hv)
 have hnm2:∀ k u,m k=some u→k < 2:=hnm
 have a3':c≤9223372036854775807:=by unfold maxLen at a3; omega
 have hdet:(Int.toNat (k:Int))=k:=by omega
 rw [hdet]
 rcases Nat.lt_or_ge c (xs.length+1) with hroom | hroom
 ·
  have hgn:g1≠w.heap.size:=by omega
  obtain ⟨zc,hzc⟩:∃ zc:Array Value,∀ i z,Tryz.prog.info? 59=some i→i.zero=some z→z.cells=zc:=by
   obtain ⟨i0,z0,hi0,hz0,_⟩:=i_itS
   refine ⟨z0.cells,fun i z h1 h2=>?_⟩
   have q1:i=i0:=Option.some.inj (h1.symm.trans hi0)
   rw [q1] at h2
   rw [Option.some.inj (h2.symm.trans hz0)]
  have hzcs:zc.size=3:=by
   obtain ⟨i0,z0,hi0,hz0,_,h,_⟩:=i_itS
   rw [← hzc i0 z0 hi0 hz0]; exact h
  have hG1:xs.length+1≤grownCap w (xs.length+1) c 59:=grownCap_ge w _ _ _
  have hG2:grownCap w (xs.length+1) c 59≤maxLen:=grownCap_le_maxLen w (xs.length+1) c 59 (by unfold maxLen; omega)
  have hSn:∀ o,S w.heap.size o=none:=fun o=>by
   cases e:S w.heap.size o with
   | none=>rfl
   | some v=>have:=hA.lt e; omega
  rcases Nat.lt_or_ge k xs.length with hk2 | hk2
  ·obtain ⟨g,cur,fr,rfl,q1,q2,q3,q4⟩:=a5.resolve_left (fun h=>by omega)
   refine (ins_growS g 0 xs.length c k g1 0 1 c1 V Y w hk2 (by decide) a2 hroom (by omega) b1 hYl (fun j v h=>by rw [Nat.zero_add]; exact b5 g rfl j v h) hs1 b3 e3 zc hzc).mono ?_
   rintro e w' ⟨rfl,rfl⟩
   generalize hGc:grownCap w (xs.length+1) c 59=G at *
   obtain ⟨L0,hL0⟩:∃ L0:List Value,L0=V.take (k*3)++(Builtin.zeroCells zc (xs.length+1 - k)).toList++(Builtin.zeroCells zc (G - (xs.length+1))).toList:=⟨_,rfl⟩
   have hrow:(V.take (k*3)).toArray++Builtin.zeroCells zc (xs.length+1 - k)++Builtin.zeroCells zc (G - (xs.length+1))=L0.toArray:=by
    rw [hL0]; apply Array.ext'; simp
   have hL0l:L0.length=G*3:=by
    rw [hL0]
    simp only [List.length_append,List.length_take,Array.length_toList,zero_sizeS,hzcs,b1]
    omega
   rw [hrow]
   have w1:(w.alloc (.cells L0.toArray 59)).drew.heap[w.heap.size]?=some (.cells L0.toArray 59 (0,0)):=heap_alloc_new w _
   have w2:=setCells_heapS w.heap.size 59 (0,0) Y (k*3) _ L0 w1 (by omega)
   have w3:=setCells_heapS w.heap.size 59 (0,0) (V.drop (k*3)) ((k+1)*3) (((w.alloc (.cells L0.toArray 59)).drew.setCells w.heap.size (k*3) Y).drew) (putLS (k*3) Y L0) w2 (by rw [putL_lenS (by omega),List.length_drop,b1]; omega)
   obtain ⟨s1,s2,s3,s4⟩:=setCells_restS w.heap.size (V.drop (k*3)) ((k+1)*3) (((w.alloc (.cells L0.toArray 59)).drew.setCells w.heap.size (k*3) Y).drew)
   obtain ⟨s5,s6,s7,s8⟩:=setCells_restS w.heap.size Y (k*3) (w.alloc (.cells L0.toArray 59)).drew
   have s9:(w.alloc (.cells L0.toArray 59)).drew.heap.size=w.heap.size+1:=by
    show (w.alloc (.cells L0.toArray 59)).heap.size=_
    rw [World.size_alloc]
   exact ins_doneS hA a1 d1 H1 hnm2 hg1 hgn (.inr rfl) hSn (s1.trans s5) (s2.trans s6) (s3.trans s7) (by rw [s4]; show w.heap.size≤((w.alloc (.cells L0.toArray 59)).drew.setCells w.heap.size (k*3) Y).heap.size; rw [s8,s9]; omega)
    (fun b hb hne=>by
     rw [setCells_otherS _ _ _ _ b hne]
     show ((w.alloc (.cells L0.toArray 59)).drew.setCells w.heap.size (k*3) Y).heap[b]?=_
     rw [setCells_otherS _ _ _ _ b hne]
     exact heap_alloc_old w _ hb)
    w3 (by rw [putL_lenS (by rw [putL_lenS (by omega),List.length_drop,b1]; omega),putL_lenS (by omega)]; exact hL0l)
    (by
     rw [hzl,putL_takeS (by rw [putL_lenS (by omega),List.length_drop,b1]; omega) (by rw [List.length_drop,b1]; omega)]
     rw [show ((k+1)*3)=k*3+Y.length by omega,putL_takeS (by omega) rfl]
     have x:L0.take (k*3)=V.take (k*3):=by
      rw [hL0,List.append_assoc,List.take_append_of_le_length (l₁:=V.take (k*3)) (by rw [List.length_take,b1]; omega),List.take_of_length_le (l:=V.take (k*3)) (by rw [List.length_take]; omega)]
     rw [x])
    (by rw [hzl]; exact hG1) hG2 hz hct hon hzl
  ·have hkn:k=xs.length:=by omega
   subst hkn
   have hnl:A=none→xs.length=0:=fun hn=>by
    rcases a5 with ⟨_,h⟩ | ⟨g,cur,fr,h,_⟩
    ·omega
    ·rw [hn] at h; cases h
   refine (ins_end_growS A xs.length c g1 0 1 c1 V Y w (by decide) a2 hroom (by omega) b1 hYl hnl (fun a ha j v h=>?_) hs1 e3 zc hzc).mono ?_
   ·rcases a5 with ⟨h0,_⟩ | ⟨g,cur,fr,h0,_⟩
    ·rw [h0] at ha; cases ha
    ·rw [h0] at ha; injection ha with ha; subst ha
     rw [Addr.add_lit,Nat.zero_add]; exact b5 g h0 j v h
   ·rintro e w' ⟨rfl,rfl⟩
    generalize hGc:grownCap w (xs.length+1) c 59=G at *
    obtain ⟨L0,hL0⟩:∃ L0:List Value,L0=V++Y++(Builtin.zeroCells zc (G - (xs.length+1))).toList:=⟨_,rfl⟩
    have hrow:(V++Y).toArray++Builtin.zeroCells zc (G - (xs.length+1))=L0.toArray:=by
     rw [hL0]; apply Array.ext'; simp
    have hL0l:L0.length=G*3:=by
     rw [hL0]
     simp only [List.length_append,Array.length_toList,zero_sizeS,hzcs,b1,hYl]
     omega
    rw [hrow]
    have w1:(w.drew.alloc (.cells L0.toArray 59)).heap[w.heap.size]?=some (.cells L0.toArray 59 (0,0)):=heap_alloc_new w.drew _
    exact ins_doneS hA a1 d1 H1 hnm2 hg1 hgn (.inr rfl) hSn rfl rfl rfl (by show w.heap.size≤(w.drew.alloc (.cells L0.toArray 59)).heap.size; rw [World.size_alloc]; exact Nat.le_succ _) (fun b hb hne=>heap_alloc_old w.drew _ hb) w1 hL0l
     (by
      rw [hzl,hL0,List.take_append_of_le_length (by rw [List.length_append,b1,hYl]; omega),List.take_of_length_le (by rw [List.length_append,b1,hYl]; omega)]
      have x1:V.take (xs.length*3)=V:=List.take_of_length_le (by omega)
      have x2:V.drop (xs.length*3)=[]:=List.drop_eq_nil_of_le (by omega)
      rw [x1,x2,List.append_nil])
     (by rw [hzl]; exact hG1) hG2 hz hct hon hzl
 ·
  obtain ⟨g,cur,fr,rfl,q1,q2,q3,q4⟩:=a5.resolve_left (fun h=>by omega)
  have hfr:=q2.lt hlt
  subst hfr
  rw [rowTy_lt hlt] at q1
  have hgw:g < w.heap.size:=(Array.getElem?_eq_some_iff.1 q1).1
  have hgn:g1≠g:=fun h=>hinj 1 0 _ _ g1 (by simp) (by simp) (by decide) d1 a1 rfl (by rw [h]; rfl)
  obtain ⟨_,_,_,hAe,p1,_,p3,p4⟩:=b4.resolve_left (fun h=>by omega)
  injection hAe with hAe
  injection hAe with hAe
  subst hAe
  rw [rowTy_lt hlt,q1] at p1
  injection p1 with p1
  injection p1 with p1
  subst p1
  obtain ⟨L,hL⟩:∃ L,L=cur.toList:=⟨_,rfl⟩
  have hcur:cur=L.toArray:=by rw [hL]
  rw [hcur] at q1
  rw [← hL] at p4
  have hLl:L.length=c*3:=by rw [hL,Array.length_toList]; exact q3
  have hcell:∀ j,j < (xs.length+1)*3→(w.cell? ⟨g,0+j,none⟩).isSome=true:=fun j hj=>by
   simp only [World.cell?,q1,Nat.zero_add]
   have:j < L.length:=by rw [hLl]; have:=Nat.mul_le_mul_right 3 hroom; omega
   simp [List.getElem?_eq_getElem this]
  have hfz:∀ j,w.frozen? ⟨g,j,none⟩=false:=fun j=>by simp [World.frozen?,q1]
  have hLn:(xs.length+1)*3≤L.length:=by rw [hLl]; exact Nat.mul_le_mul_right 3 hroom
  rcases Nat.lt_or_ge k xs.length with hk2 | hk2
  ·refine (ins_shiftS g 0 xs.length c k g1 0 1 c1 V Y w hk2 (by decide) hroom (by omega) hgn b1 hYl (fun j v h=>by rw [Nat.zero_add]; exact b5 g rfl j v h) hcell (fun j _=>hfz _) hs1 b3 e3 59 59 cur1.size L.length (by simp [World.shape?,f1]) (by simp [World.shape?,q1]) (by omega) (by simp [World.frozen?,f1]) (by simp [World.frozen?,f1])).mono ?_
   rintro e w' ⟨rfl,rfl⟩
   rw [Nat.zero_add,Nat.zero_add]
   have w2:=setCells_heapS g 59 (0,0) (V.drop (k*3)) ((k+1)*3) w.drew L q1 (by rw [List.length_drop,b1]; omega)
   have w3:=setCells_heapS g 59 (0,0) Y (k*3) _ _ w2 (by rw [putL_lenS (by rw [List.length_drop,b1]; omega)]; omega)
   obtain ⟨s1,s2,s3,s4⟩:=setCells_restS g Y (k*3) (w.drew.setCells g ((k+1)*3) (V.drop (k*3)))
   obtain ⟨s5,s6,s7,s8⟩:=setCells_restS g (V.drop (k*3)) ((k+1)*3) w.drew
   exact ins_doneS hA a1 d1 H1 hnm2 hg1 hgn (.inl ⟨rfl,hgw⟩) q4 (s1.trans s5) (s2.trans s6) (s3.trans s7) (by rw [s4,s8]; exact Nat.le_refl _)
    (fun b hb hne=>by rw [setCells_otherS _ _ _ _ b hne,setCells_otherS _ _ _ _ b hne]; rfl)
    w3 (by rw [putL_lenS (by rw [putL_lenS (by rw [List.length_drop,b1]; omega)]; omega),putL_lenS (by rw [List.length_drop,b1]; omega)]; exact hLl)
    (by
     rw [hzl]
     unfold putLS
     have x1:(L.take ((k+1)*3)).length=(k+1)*3:=by rw [List.length_take]; omega
     have x3:V.take (k*3)=L.take (k*3):=by rw [← p4,List.take_take,Nat.min_eq_left (by omega)]
     have y1:(L.take ((k+1)*3)++V.drop (k*3)++L.drop ((k+1)*3+(V.drop (k*3)).length)).take (k*3)=V.take (k*3):=by
      rw [List.append_assoc,List.take_append_of_le_length (by omega),List.take_take,Nat.min_eq_left (by omega),x3]
     have y2:(L.take ((k+1)*3)++V.drop (k*3)++L.drop ((k+1)*3+(V.drop (k*3)).length)).drop (k*3+Y.length)=V.drop (k*3)++L.drop ((k+1)*3+(V.drop (k*3)).length):=by
      rw [List.append_assoc,List.drop_append,List.drop_of_length_le (by omega),x1,show k*3+Y.length - (k+1)*3=0 by omega]
      rfl
     rw [y1,y2,← List.append_assoc,List.take_append_of_le_length (by simp only [List.length_append,List.length_take,List.length_drop,b1,hYl]; omega),List.take_of_length_le (by simp only [List.length_append,List.length_take,List.length_drop,b1,hYl]; omega)])
    (by rw [hzl]; exact hroom) a3 hz hct hon hzl
  ·have hkn:k=xs.length:=by omega
   subst hkn
   refine (ins_end_roomS g 0 xs.length c g1 0 1 c1 Y w (by decide) hroom (by omega) hYl (fun j hj=>by rw [Nat.add_assoc]; exact hcell _ (by omega)) (fun j _=>hfz _) hs1 e3).mono ?_
   rintro e w' ⟨rfl,rfl⟩
   rw [Nat.zero_add]
   have w2:=setCells_heapS g 59 (0,0) Y (xs.length*3) w L q1 (by omega)
   obtain ⟨s1,s2,s3,s4⟩:=setCells_restS g Y (xs.length*3) w
   exact ins_doneS hA a1 d1 H1 hnm2 hg1 hgn (.inl ⟨rfl,hgw⟩) q4 s1 s2 s3 (by rw [s4]; exact Nat.le_refl _)
    (fun b hb hne=>setCells_otherS _ _ _ _ b hne)
    w2 (by rw [putL_lenS (by omega)]; exact hLl)
    (by
     rw [hzl,putL_takeS (by omega) (by omega),p4]
     have x1:V.take (xs.length*3)=V:=List.take_of_length_le (by omega)
     have x2:V.drop (xs.length*3)=[]:=List.drop_eq_nil_of_le (by omega)
     rw [x1,x2,List.append_nil])
    (by rw [hzl]; exact hroom) a3 hz hct hon hzl
end Go.Proofs.YtldiagnbagpliaaGreatDoor
namespace Go.Proofs.YtldiagnbagpliaaGreatDoor
open Go Go.Lib Go.RowKit
set_option linter.unusedVariables false
set_option linter.unusedSimpArgs false
theorem zero_sizeP (zc:Array Value) (k:Nat):(Builtin.zeroCells zc k).size=k*zc.size:=by
 simp [Builtin.zeroCells]
theorem run_copyNP {P:Program} (w:World) (dT sT ty elem s:Nat) (b o dLen dCap:Nat) (a:Addr) (sLen sCap:Nat) (cs:List Value)
  (hu:P.underlying dT=some (.slice elem)) (hs:(P.info? elem).map (·.size)=some s) (hn:cs.length=Nat.min sLen dLen*s)
  (hsrc:∀ j v,cs[j]?=some v→w.cell? (a.add j)=some v) (hc:∀ j,j < cs.length→(w.cell? ⟨b,o+j,none⟩).isSome=true) (hf:∀ j,j < cs.length→w.frozen? ⟨b,o+j,none⟩=false) (h1:∀ v ∈ cs,v.oneCell'=true) :
  (Builtin.copy_ #[dT,sT] ty #[.slice (some ⟨b,o,none⟩) dLen dCap,.slice (some a) sLen sCap]).run P w=.ok (goInt (Nat.min sLen dLen)) (w.setCells b o cs):=by
 have hl:=run_loadCells_list (P:=P) w a cs hsrc
 have hst:=run_storeCells_cells (P:=P) b o cs 0 w (by simpa using hc) (by simpa using hf) h1
 cases hq:P.info? elem with
 | none=>simp [hq] at hs
 | some i =>
  have hi:i.size=s:=by simpa [hq] using hs
  simp [Builtin.copy_,run_underlying hu,Builtin.lenOf,Builtin.firstCells,sizeOf,typeInfo,hq,hi,← hn,hl,hst]
theorem t_itP:Tryz.prog.underlying 57=some (.slice 49):=by kernel_rfl
theorem i_itP:∃ i z,Tryz.prog.info? 49=some i∧i.zero=some z∧i.size=7∧z.cells.size=7∧i.bytes=72:=by
 have h:(Tryz.prog.info? 49).map (fun i=>(i.zero.map (·.cells.size),i.size,i.bytes))=some (some 7,7,72):=by kernel_rfl
 cases e:Tryz.prog.info? 49 with
 | none=>rw [e] at h; cases h
 | some i =>
  rw [e] at h
  simp only [Option.map_some,Option.some.injEq,Prod.mk.injEq] at h
  obtain ⟨h1,h2,h3⟩:=h
  cases hz:i.zero with
  | none=>rw [hz] at h1; cases h1
  | some z =>
   rw [hz] at h1
   exact ⟨i,z,rfl,hz,h2,by simpa using h1,h3⟩
set_option maxHeartbeats 4000000 in
theorem ins_end_roomP (b off n c vb voff m vc:Nat) (vs:List Value) (w:World) (hm:0 < m) (hroom:n+m≤c) (hc63:c≤9223372036854775807)
  (hvl:vs.length=m*7) (hsp:∀ j,j < m*7→(w.cell? ⟨b,off+n*7+j,none⟩).isSome=true) (hfz:∀ j,j < m*7→w.frozen? ⟨b,off+n*7+j,none⟩=false)
  (hvs:∀ j v,vs[j]?=some v→w.cell? ⟨vb,voff+j,none⟩=some v) (h1v:∀ v ∈ vs,v.oneCell'=true) :
  Calls Tryz.prog 62 #[.slice (some ⟨b,off,none⟩) n c,.int .i64 n,.slice (some ⟨vb,voff,none⟩) m vc] w fun e w' =>
   e=.returned (.slice (some ⟨b,off,none⟩) (n+m) c)∧w'=w.setCells b (off+n*7) vs:=by
 obtain ⟨i0,z0,hi0,hz0,hzs,hzc,hzb⟩:=i_itP
 have hz1:¬ ((m:Int)=0):=by omega
 have hsrc:_root_.Go.Src Tryz.prog i0.size 57 (.slice (some ⟨vb,voff,none⟩) m vc) m vs w:=by
  rw [hzs]
  exact _root_.Go.Src.ofSlice w t_itP ⟨vb,voff,none⟩ m vc vs (by omega) (fun j u hj=>by rw [Addr.add_lit]; exact hvs j u hj) h1v
 have hrun:∀ ty,(Builtin.append_ #[57,57] ty #[.slice (some ⟨b,off,none⟩) n c,.slice (some ⟨vb,voff,none⟩) m vc]).run Tryz.prog w=.ok (.slice (some ⟨b,off,none⟩) (n+m) c) (w.setCells b (off+n*7) vs):=fun ty=>by
  have:=run_append_room_src (w:=w) 57 57 ty 49 i0 t_itP hi0 b off n c (.slice (some ⟨vb,voff,none⟩) m vc) m vs hsrc hroom (by rw [hzs,hvl]; exact hsp) (by rw [hzs,hvl]; exact hfz)
  rw [hzs] at this
  exact this
 go_enter Tryz.func62,Tryz.ntmps62
 go_wp2_with (at_builtin; refine Lib.wpList_append_run _ rfl _ _ _ _ rfl _ _ rfl rfl _ _ (hrun _) ?_)
 go_ret
 exact ⟨rfl,rfl⟩
set_option maxHeartbeats 4000000 in
theorem ins_end_growP (base:Option Addr) (n c vb voff m vc:Nat) (cs vs:List Value) (w:World) (hm:0 < m) (hnc:n≤c) (hroom:c < n+m) (hbig:n+m≤1000)
  (hcl:cs.length=n*7) (hvl:vs.length=m*7) (hnil:base=none→n=0)
  (hcs:∀ a,base=some a→∀ j v,cs[j]?=some v→w.cell? (a.add j)=some v)
  (hvs:∀ j v,vs[j]?=some v→w.cell? ⟨vb,voff+j,none⟩=some v) (h1v:∀ v ∈ vs,v.oneCell'=true) (zc:Array Value) (hzc:∀ i z,Tryz.prog.info? 49=some i→i.zero=some z→z.cells=zc) :
  Calls Tryz.prog 62 #[.slice base n c,.int .i64 n,.slice (some ⟨vb,voff,none⟩) m vc] w fun e w' =>
   e=.returned (.slice (some ⟨w.heap.size,0,none⟩) (n+m) (grownCap w (n+m) c 49)) ∧
   w'=w.drew.alloc (.cells ((cs++vs).toArray++Builtin.zeroCells zc (grownCap w (n+m) c 49 - (n+m))) 49):=by
 obtain ⟨i0,z0,hi0,hz0,hzs,hzc1,hzb⟩:=i_itP
 have hzc2:=hzc i0 z0 hi0 hz0
 have hz1:¬ ((m:Int)=0):=by omega
 have hsrc:_root_.Go.Src Tryz.prog i0.size 57 (.slice (some ⟨vb,voff,none⟩) m vc) m vs w:=by
  rw [hzs]
  exact _root_.Go.Src.ofSlice w t_itP ⟨vb,voff,none⟩ m vc vs (by omega) (fun j u hj=>by rw [Addr.add_lit]; exact hvs j u hj) h1v
 have hold:(Builtin.firstCells i0.size n (.slice base n c)).run Tryz.prog w.drew=.ok cs.toArray w.drew:=by
  rw [hzs]
  cases base with
  | none =>
   have h0:=hnil rfl
   subst h0
   have hcs0:cs=[]:=List.length_eq_zero_iff.1 (by simpa using hcl)
   rw [hcs0]
   exact run_firstCells_none w.drew 7 0 0 c
  | some a=>exact run_firstCells_some w.drew 7 n a n c cs (by omega) (fun j v hj=>hcs a rfl j v hj)
 have hrun:∀ ty,(Builtin.append_ #[57,57] ty #[.slice base n c,.slice (some ⟨vb,voff,none⟩) m vc]).run Tryz.prog w=.ok (.slice (some ⟨w.heap.size,0,none⟩) (n+m) (grownCap w (n+m) c 49)) (w.drew.alloc (.cells ((cs++vs).toArray++Builtin.zeroCells zc (grownCap w (n+m) c 49 - (n+m))) 49)):=fun ty=>by
  have:=run_append_grow_src w 57 57 ty 49 i0 z0 t_itP hi0 hz0 base n c cs hold (.slice (some ⟨vb,voff,none⟩) m vc) m vs hsrc hroom (by omega) (by rw [hzb]; exact growslice_fits hroom (by omega))
  rw [hzc2] at this
  exact this
 go_enter Tryz.func62,Tryz.ntmps62
 cases base with
 | none =>
  have h0:=hnil rfl
  subst h0
  go_wp2_with (at_builtin; refine Lib.wpList_append_run _ rfl _ _ _ _ rfl _ _ rfl rfl _ _ (hrun _) ?_)
  go_ret
  exact ⟨rfl,rfl⟩
 | some a =>
  obtain ⟨ab,ao,asp⟩:=a
  go_wp2_with (at_builtin; refine Lib.wpList_append_run _ rfl _ _ _ _ rfl _ _ rfl rfl _ _ (hrun _) ?_)
  all_goals (go_ret; exact ⟨rfl,rfl⟩)
set_option maxHeartbeats 4000000 in
theorem ins_shiftP (b off n c i vb voff m vc:Nat) (cs vs:List Value) (w:World) (hi:i < n) (hm:0 < m) (hroom:n+m≤c) (hc63:c≤9223372036854775807) (hvb:vb≠b)
  (hcl:cs.length=n*7) (hvl:vs.length=m*7)
  (hcs:∀ j v,cs[j]?=some v→w.cell? ⟨b,off+j,none⟩=some v) (hsp:∀ j,j < (n+m)*7→(w.cell? ⟨b,off+j,none⟩).isSome=true) (hfz:∀ j,j < (n+m)*7→w.frozen? ⟨b,off+j,none⟩=false)
  (hvs:∀ j v,vs[j]?=some v→w.cell? ⟨vb,voff+j,none⟩=some v) (h1c:∀ v ∈ cs,v.oneCell'=true) (h1v:∀ v ∈ vs,v.oneCell'=true)
  (tA tB:TypeId) (kA kB:Nat) (hsa:w.shape? vb=some (tA,kA)) (hsb:w.shape? b=some (tB,kB)) (hkB:kB≠0) (hfa:w.frozen? ⟨vb,voff,none⟩=false) (hfe:w.frozen? ⟨vb,kA,none⟩=false) :
  Calls Tryz.prog 62 #[.slice (some ⟨b,off,none⟩) n c,.int .i64 i,.slice (some ⟨vb,voff,none⟩) m vc] w fun e w' =>
   e=.returned (.slice (some ⟨b,off,none⟩) (n+m) c)∧w'=(w.drew.setCells b (off+(i+m)*7) (cs.drop (i*7))).setCells b (off+i*7) vs:=by
 obtain ⟨i0,z0,hi0,hz0,hzs,hzc1,hzb⟩:=i_itP
 have hz1:¬ ((m:Int)=0):=by omega
 have hz2:¬ ((i:Int)=(n:Int)):=by omega
 have hsz:(Tryz.prog.info? 49).map (·.size)=some 7:=by rw [hi0]; simp [hzs]
 have hso:∀ w,(Go.sizeOf 49).run Tryz.prog w=.ok 7 w:=fun w=>by simp [sizeOf,typeInfo,hi0,hzs]
 have hov:∀ lb cb,(callFunc 104 #[.slice (some ⟨vb,voff,none⟩) m vc,.slice (some ⟨b,off+(i+m)*7,none⟩) lb cb]).run Tryz.prog w=.ok (.value (.bool false)) w:=fun lb cb=>by
  rw [run_callFunc_extern Tryz.func104 (by kernel_rfl) (by kernel_rfl) (by kernel_rfl) (e:=Extern.SlicesOverlaps.overlaps #[57,57] #[4]) (by kernel_rfl),
   Lib.run_overlaps_apart w 57 4 49 t_itP 7 hso ⟨vb,voff,none⟩ ⟨b,off+(i+m)*7,none⟩ m vc lb cb hvb tA tB kA kB hsa hsb hkB hfa hfe]
  rfl
 have mixed:Tryz.prog.follows Departure.mixedOrders=true:=by kernel_rfl
 have hdl:(cs.drop (i*7)).length=(n - i)*7:=by rw [List.length_drop,hcl]; omega
 have hw1:IntKind.i64.wrap ((i:Int)+(m:Int))=(i:Int)+(m:Int):=by rw [IntKind.wrap_i64]; omega
 have hb1:(0:Int)≤(i:Int)+(m:Int):=by omega
 have hin:i≤n:=by omega
 have htn:((i:Int)+(m:Int)).toNat=i+m:=by omega
 have hb2:¬ (c=i+m):=by omega
 have hb3:(i:Int)≤(n:Int)+(m:Int):=by omega
 have hb4:¬ (c=i):=by omega
 have hmn1:Nat.min (n+m - i) (n+m - (i+m))=n - i:=by simp only [Nat.min_def]; split <;> omega
 have hmn2:Nat.min m (n+m - i)=m:=by simp only [Nat.min_def]; split <;> omega
 have hcp1:∀ ty dc sc,(Builtin.copy_ #[57,57] ty #[.slice (some ⟨b,off+(i+m)*7,none⟩) (n+m - (i+m)) dc,.slice (some ⟨b,off+i*7,none⟩) (n+m - i) sc]).run Tryz.prog w.drew=.ok (goInt ((n - i:Nat):Int)) (w.drew.setCells b (off+(i+m)*7) (cs.drop (i*7))):=fun ty dc sc=>by
  have:=run_copyNP w.drew 57 57 ty 49 7 b (off+(i+m)*7) (n+m - (i+m)) dc ⟨b,off+i*7,none⟩ (n+m - i) sc (cs.drop (i*7)) t_itP hsz (by rw [hdl,hmn1])
   (fun j v hj=>by rw [Addr.add_lit,Nat.add_assoc]; exact hcs (i*7+j) v (by rwa [List.getElem?_drop] at hj))
   (fun j hj=>by rw [Nat.add_assoc]; exact hsp _ (by omega)) (fun j hj=>by rw [Nat.add_assoc]; exact hfz _ (by omega)) (fun v hv=>h1c v (List.mem_of_mem_drop hv))
  rw [hmn1] at this
  exact this
 obtain ⟨W1,hW1⟩:∃ W1,W1=w.drew.setCells b (off+(i+m)*7) (cs.drop (i*7)):=⟨_,rfl⟩
 have hsp1:∀ k,k < (n+m)*7→(W1.cell? ⟨b,off+k,none⟩).isSome=true:=fun k hk=>by
  rw [hW1]
  exact isSome_setCells b _ _ _ (fun j hj=>by rw [Nat.add_assoc]; exact hsp _ (by omega)) _ (hsp k hk)
 have hcp2:∀ (W:World),(∀ x,W.cell? x=W1.cell? x)→(∀ x,W.frozen? x=W1.frozen? x)→∀ ty dc,(Builtin.copy_ #[57,57] ty #[.slice (some ⟨b,off+i*7,none⟩) (n+m - i) dc,.slice (some ⟨vb,voff,none⟩) m vc]).run Tryz.prog W=.ok (goInt (m:Int)) (W.setCells b (off+i*7) vs):=fun W hWc hWf ty dc=>by
  have:=run_copyNP W 57 57 ty 49 7 b (off+i*7) (n+m - i) dc ⟨vb,voff,none⟩ m vc vs t_itP hsz (by rw [hvl,hmn2])
   (fun j v hj=>by
    rw [Addr.add_lit,hWc,hW1,World.cell?_setCells_out b _ _ _ _ (fun h _=>absurd h hvb)]
    exact hvs j v hj)
   (fun j hj=>by rw [hWc,Nat.add_assoc]; exact hsp1 _ (by omega)) (fun j hj=>by rw [hWf,hW1,World.frozen?_setCells,Nat.add_assoc]; exact hfz _ (by omega)) h1v
  rw [hmn2] at this
  exact this
 rw [← hW1] at hcp1
 go_enter Tryz.func62,Tryz.ntmps62
 go_wp2_with (simp only [hov])
 go_region_law_o (refine step_copy_runI rfl _ _ 57 57 rfl _ _ (by simp [Act.eval,Act.put]) (by simp [Act.eval,Act.put]) (hcp1 _ _ _) ?_)
 go_wp2_with (at_builtin; refine wpList_copy_runI _ rfl _ _ 57 57 rfl _ _ rfl rfl (hcp2 _ (fun _=>rfl) (fun _=>rfl) _ _) ?_)
 go_ret
 first | exact ⟨rfl,rfl⟩ | exact ⟨rfl,by rw [hW1]⟩
set_option maxHeartbeats 4000000 in
theorem ins_growP (b off n c i vb voff m vc:Nat) (cs vs:List Value) (w:World) (hi:i < n) (hm:0 < m) (hnc:n≤c) (hroom:c < n+m) (hbig:n+m≤1000)
  (hcl:cs.length=n*7) (hvl:vs.length=m*7)
  (hcs:∀ j v,cs[j]?=some v→w.cell? ⟨b,off+j,none⟩=some v)
  (hvs:∀ j v,vs[j]?=some v→w.cell? ⟨vb,voff+j,none⟩=some v) (h1c:∀ v ∈ cs,v.oneCell'=true) (h1v:∀ v ∈ vs,v.oneCell'=true) (zc:Array Value) (hzcc:∀ i z,Tryz.prog.info? 49=some i→i.zero=some z→z.cells=zc) :
  Calls Tryz.prog 62 #[.slice (some ⟨b,off,none⟩) n c,.int .i64 i,.slice (some ⟨vb,voff,none⟩) m vc] w fun e w' =>
   e=.returned (.slice (some ⟨w.heap.size,0,none⟩) (n+m) (grownCap w (n+m) c 49)) ∧
   w'=(((w.alloc (.cells ((cs.take (i*7)).toArray++Builtin.zeroCells zc (n+m - i)++Builtin.zeroCells zc (grownCap w (n+m) c 49 - (n+m))) 49)).drew.setCells w.heap.size (i*7) vs).drew).setCells w.heap.size ((i+m)*7) (cs.drop (i*7)):=by
 obtain ⟨i0,z0,hi0,hz0,hzs,hzc1,hzb⟩:=i_itP
 have hzc2:=hzcc i0 z0 hi0 hz0
 have hzl:zc.size=7:=by rw [← hzc2]; exact hzc1
 have mixed:Tryz.prog.follows Departure.mixedOrders=true:=by kernel_rfl
 have hz1:¬ ((m:Int)=0):=by omega
 have hz2:¬ ((i:Int)=(n:Int)):=by omega
 have hz3:(c:Int) < (n:Int)+(m:Int):=by omega
 have hsz:(Tryz.prog.info? 49).map (·.size)=some 7:=by rw [hi0]; simp [hzs]
 have hbw:b < w.heap.size:=World.block_lt_of_cell? w _ (hcs 0 _ (List.getElem?_eq_getElem (by omega)))
 have hvw:vb < w.heap.size:=World.block_lt_of_cell? w _ (hvs 0 _ (List.getElem?_eq_getElem (by omega)))
 have hkk:(n:Int)+(m:Int) - (i:Int)=((n+m - i:Nat):Int):=by omega
 have hik:i+(n+m - i)=n+m:=by omega
 have hold:(Builtin.firstCells i0.size i (.slice (some ⟨b,off,none⟩) i c)).run Tryz.prog w.drew=.ok (cs.take (i*7)).toArray w.drew:=by
  rw [hzs]
  exact run_firstCells_some w.drew 7 i ⟨b,off,none⟩ i c (cs.take (i*7)) (by rw [List.length_take,hcl]; omega) (fun j v hj=>by
   rw [Addr.add_lit]
   rw [List.getElem?_take] at hj
   split at hj
   ·exact hcs j v hj
   ·cases hj)
 have hrz:∀ ty,(Builtin.append_ #[57,3] ty #[.slice (some ⟨b,off,none⟩) i c,.int .i64 ((n:Int)+(m:Int) - (i:Int))]).run Tryz.prog w =
   .ok (.slice (some ⟨w.heap.size,0,none⟩) (n+m) (grownCap w (n+m) c 49)) (w.drew.alloc (.cells ((cs.take (i*7)).toArray++Builtin.zeroCells zc (n+m - i)++Builtin.zeroCells zc (grownCap w (n+m) c 49 - (n+m))) 49)):=fun ty=>by
  have h:=Lib.run_append_grow_zeros w 57 3 ty 49 i0 z0 .i64 .i64 t_itP (by kernel_rfl) hi0 hz0 (some ⟨b,off,none⟩) i c (cs.take (i*7)) hold (n+m - i) (by omega) (by omega) (by omega) (by omega) (by rw [hzb]; omega) (by rw [hzb,hik]; exact growslice_fits hroom (by omega))
  rw [hik,hzc2] at h
  rw [hkk]
  exact h
 obtain ⟨G,hG⟩:∃ G,G=grownCap w (n+m) c 49:=⟨_,rfl⟩
 obtain ⟨ROW,hROW⟩:∃ ROW:Array Value,ROW=(cs.take (i*7)).toArray++Builtin.zeroCells zc (n+m - i)++Builtin.zeroCells zc (G - (n+m)):=⟨_,rfl⟩
 rw [← hG] at hrz ⊢
 rw [← hROW] at hrz ⊢
 have hRl:(n+m)*7≤ROW.size:=by
  rw [hROW,Array.size_append,Array.size_append,zero_sizeP,zero_sizeP,hzl]
  simp only [List.size_toArray,List.length_take,hcl]
  omega
 obtain ⟨W1,hW1⟩:∃ W1,W1=w.drew.alloc (.cells ROW 49):=⟨_,rfl⟩
 rw [← hW1] at hrz
 have hN:∀ j,j < (n+m)*7→(W1.cell? ⟨w.heap.size,j,none⟩).isSome=true:=fun j hj=>by
  rw [hW1,World.cell?_alloc_at (w:=w.drew) ROW _ w.heap.size j rfl,Array.getElem?_eq_getElem (by omega)]; rfl
 have hNf:∀ j,W1.frozen? ⟨w.heap.size,j,none⟩=false:=fun j=>by rw [hW1]; exact World.frozen?_alloc_at (w:=w.drew) ROW _ w.heap.size j rfl
 have hOb:∀ j v,w.cell? ⟨b,j,none⟩=some v→W1.cell? ⟨b,j,none⟩=some v:=fun j v h=>by rw [hW1,World.cell?_alloc_past (w:=w.drew) _ b j hbw]; exact h
 have hOv:∀ j v,w.cell? ⟨vb,j,none⟩=some v→W1.cell? ⟨vb,j,none⟩=some v:=fun j v h=>by rw [hW1,World.cell?_alloc_past (w:=w.drew) _ vb j hvw]; exact h
 have hmnA:Nat.min m (n+m - i)=m:=by simp only [Nat.min_def]; split <;> omega
 have hmnB:Nat.min (n - i) (n+m - (i+m))=n - i:=by simp only [Nat.min_def]; split <;> omega
 have hcpA:∀ (W:World),(∀ x,W.cell? x=W1.cell? x)→(∀ x,W.frozen? x=W1.frozen? x)→∀ ty dc,(Builtin.copy_ #[57,57] ty #[.slice (some ⟨w.heap.size,i*7,none⟩) (n+m - i) dc,.slice (some ⟨vb,voff,none⟩) m vc]).run Tryz.prog W=.ok (goInt (m:Int)) (W.setCells w.heap.size (i*7) vs):=fun W hWc hWf ty dc=>by
  have:=run_copyNP W 57 57 ty 49 7 w.heap.size (i*7) (n+m - i) dc ⟨vb,voff,none⟩ m vc vs t_itP hsz (by rw [hvl,hmnA])
   (fun j v hj=>by rw [Addr.add_lit,hWc]; exact hOv _ v (hvs j v hj))
   (fun j hj=>by rw [hWc]; exact hN _ (by omega)) (fun j hj=>by rw [hWf]; exact hNf _) h1v
  rw [hmnA] at this
  exact this
 have hGn:n+m≤G:=by rw [hG]; exact grownCap_ge w _ _ _
 have hG63:G≤9223372036854775807:=by
  have:=grownCap_le_maxLen w (n+m) c 49 (by unfold maxLen; omega)
  rw [← hG] at this
  unfold maxLen at this
  omega
 have hGi:¬ (G=i):=by omega
 have hGim:¬ (G=i+m):=by omega
 have hci:¬ (c=i):=by omega
 have hbN:b≠w.heap.size:=by omega
 have hdl:(cs.drop (i*7)).length=(n - i)*7:=by rw [List.length_drop,hcl]; omega
 have hcpB:∀ (W:World),(∀ x,W.cell? x=(W1.setCells w.heap.size (i*7) vs).cell? x)→(∀ x,W.frozen? x=(W1.setCells w.heap.size (i*7) vs).frozen? x)→∀ ty dc sc,(Builtin.copy_ #[57,57] ty #[.slice (some ⟨w.heap.size,(i+m)*7,none⟩) (n+m - (i+m)) dc,.slice (some ⟨b,off+i*7,none⟩) (n - i) sc]).run Tryz.prog W=.ok (goInt ((n - i:Nat):Int)) (W.setCells w.heap.size ((i+m)*7) (cs.drop (i*7))):=fun W hWc hWf ty dc sc=>by
  have:=run_copyNP W 57 57 ty 49 7 w.heap.size ((i+m)*7) (n+m - (i+m)) dc ⟨b,off+i*7,none⟩ (n - i) sc (cs.drop (i*7)) t_itP hsz (by rw [hdl,hmnB])
   (fun j v hj=>by
    rw [Addr.add_lit,hWc,World.cell?_setCells_out _ _ _ _ _ (fun h _=>absurd h hbN),Nat.add_assoc]
    exact hOb _ v (hcs (i*7+j) v (by rwa [List.getElem?_drop] at hj)))
   (fun j hj=>by rw [hWc]; exact isSome_setCells _ _ _ _ (fun t ht=>hN _ (by omega)) _ (hN _ (by omega)))
   (fun j hj=>by rw [hWf,World.frozen?_setCells]; exact hNf _) (fun v hv=>h1c v (List.mem_of_mem_drop hv))
  rw [hmnB] at this
  exact this
 subst hW1
 have hE1:∀ x,((w.alloc (.cells ROW 49)).drew).cell? x=(w.drew.alloc (.cells ROW 49)).cell? x:=fun x=>rfl
 have hE2:∀ x,((w.alloc (.cells ROW 49)).drew).frozen? x=(w.drew.alloc (.cells ROW 49)).frozen? x:=fun x=>rfl
 have hF1:∀ x,(((w.alloc (.cells ROW 49)).drew.setCells w.heap.size (i*7) vs).drew).cell? x=((w.drew.alloc (.cells ROW 49)).setCells w.heap.size (i*7) vs).cell? x:=fun x=>rfl
 have hF2:∀ x,(((w.alloc (.cells ROW 49)).drew.setCells w.heap.size (i*7) vs).drew).frozen? x=((w.drew.alloc (.cells ROW 49)).setCells w.heap.size (i*7) vs).frozen? x:=fun x=>rfl
 have hw1:IntKind.i64.wrap ((i:Int)+(m:Int))=(i:Int)+(m:Int):=by rw [IntKind.wrap_i64]; omega
 have hb1:(0:Int)≤(i:Int)+(m:Int):=by omega
 have hin:i≤n:=by omega
 have htn:((i:Int)+(m:Int)).toNat=i+m:=by omega
 have hb3:(i:Int)≤(n:Int):=by omega
 clear hkk hik hold hROW hG hRl
 go_enter Tryz.func62,Tryz.ntmps62
 go_wp2_with (first
  | (at_builtin; refine Lib.wpList_append_run _ rfl _ _ _ _ rfl _ _ rfl rfl _ _ (hrz _) ?_)
  | (at_builtin; refine wpList_copy_runI _ rfl _ _ 57 57 rfl _ _ rfl rfl (hcpA _ hE1 hE2 _ _) ?_)
  | (at_builtin; refine wpList_copy_runI _ rfl _ _ 57 57 rfl _ _ rfl rfl (hcpB _ (fun _=>rfl) (fun _=>rfl) _ _ _) ?_))
 go_region_law_o (refine step_copy_runI rfl _ _ 57 57 rfl (.slice (some ⟨w.heap.size,(i+m)*7,none⟩) (n+m - (i+m)) (G - (i+m))) (.slice (some ⟨b,off+i*7,none⟩) (n - i) (c - i)) (by simp [Act.eval,Act.put]) (by simp [Act.eval,Act.put]) (hcpB _ hF1 hF2 3 (G - (i+m)) (c - i)) ?_)
 go_wp2
 go_ret
 exact ⟨rfl,rfl⟩
end Go.Proofs.YtldiagnbagpliaaGreatDoor
namespace Go.Proofs.YtldiagnbagpliaaGreatDoor
open Go Go.Lib Go.RowKit
set_option linter.unusedVariables false
set_option linter.unusedSimpArgs false
theorem setCells_otherP (b:Nat):∀ (vs:List Value) (o:Nat) (w:World) (g:Nat),g≠b→(w.setCells b o vs).heap[g]?=w.heap[g]?
 | [],_,_,_,_=>rfl
 | v::r,o,w,g,h=>by
  rw [World.setCells,setCells_otherP b r (o+1) _ g h]
  simp [World.setCell,Array.getElem?_modify,Ne.symm h]
theorem setCells_restP (b:Nat):∀ (vs:List Value) (o:Nat) (w:World),(w.setCells b o vs).os=w.os∧(w.setCells b o vs).tape=w.tape∧(w.setCells b o vs).output=w.output∧(w.setCells b o vs).heap.size=w.heap.size
 | [],_,_=>⟨rfl,rfl,rfl,rfl⟩
 | v::r,o,w=>by
  obtain ⟨h1,h2,h3,h4⟩:=setCells_restP b r (o+1) (w.setCell ⟨b,o,none⟩ v)
  rw [World.setCells]
  exact ⟨h1,h2,h3,by rw [h4]; simp [World.setCell]⟩
def putLP (o:Nat) (vs l:List Value):List Value:=l.take o++vs++l.drop (o+vs.length)
theorem putL_consP {o:Nat} {v:Value} {r l:List Value} (h:o < l.length):putLP (o+1) r (l.set o v)=putLP o (v::r) l:=by
 unfold putLP
 rw [List.drop_set_of_lt (by omega)]
 rw [List.take_add_one,List.take_set_of_le (Nat.le_refl _)]
 simp only [List.getElem?_set_self h,Option.toList_some,List.append_assoc,List.singleton_append,List.length_cons]
 rw [show o+1+r.length=o+(r.length+1) by omega]
theorem setCells_heapP (b t:Nat) (fr:Nat × Nat):∀ (vs:List Value) (o:Nat) (w:World) (l:List Value),w.heap[b]?=some (.cells l.toArray t fr)→o+vs.length≤l.length→(w.setCells b o vs).heap[b]?=some (.cells (putLP o vs l).toArray t fr)
 | [],o,w,l,h,_=>by
  rw [World.setCells,h]
  unfold putLP; simp
 | v::r,o,w,l,h,hl=>by
  rw [List.length_cons] at hl
  have h1:(w.setCell ⟨b,o,none⟩ v).heap[b]?=some (.cells (l.set o v).toArray t fr):=by
   simp [World.setCell,Array.getElem?_modify,h]
  rw [World.setCells,setCells_heapP b t fr r (o+1) _ (l.set o v) h1 (by rw [List.length_set]; omega),putL_consP (by omega)]
theorem putL_lenP {o:Nat} {vs l:List Value} (h:o+vs.length≤l.length):(putLP o vs l).length=l.length:=by
 unfold putLP
 simp only [List.length_append,List.length_take,List.length_drop]
 omega
theorem putL_takeP {o k:Nat} {vs l:List Value} (h:o+vs.length≤l.length) (hk:o+vs.length=k):(putLP o vs l).take k=l.take o++vs:=by
 unfold putLP
 rw [List.take_append_of_le_length (by simp only [List.length_append,List.length_take]; omega),List.take_of_length_le (by simp only [List.length_append,List.length_take]; omega)]
theorem flat_take10P:∀ {zs:List (List AV)} (n:Nat),(∀ z ∈ zs,z.length=7)→(zs.take n).flatten=zs.flatten.take (n*7)∧(zs.drop n).flatten=zs.flatten.drop (n*7)
 | _,0,_=>by simp
 | [],n+1,_=>by simp
 | z::zs,n+1,h=>by
  have hz:=h z List.mem_cons_self
  obtain ⟨h1,h2⟩:=flat_take10P (zs:=zs) n (fun y hy=>h y (List.mem_cons_of_mem _ hy))
  have e:(n+1)*7=z.length+n*7:=by omega
  constructor
  ·rw [List.take_succ_cons,List.flatten_cons,List.flatten_cons,e,List.take_append,h1,List.take_of_length_le (l:=z) (by omega),show z.length+n*7 - z.length=n*7 by omega]
  ·rw [List.drop_succ_cons,List.flatten_cons,e,List.drop_append,h2,List.drop_of_length_le (l:=z) (by omega),show z.length+n*7 - z.length=n*7 by omega,List.nil_append]
def insPP (n q:Nat) (i:Int) (xs ys:LLA):Prop:=n=xs.length∧q=1∧ys.length=1∧0≤i∧i≤n∧n≤900
def sins_sP:SpH
 | [.rw 0 7 n,.int .i64 i,.rw 1 7 q],[.row 49 7 xs,.row 49 7 ys]=>some (insPP n q i xs ys,.rw 0 7 (n+1),[.row 49 7 (xs.take i.toNat++ys++xs.drop i.toNat),.row 49 7 ys])
 | _,_=>none
theorem ins_doneP {S:Pin} {m:Nm} {w w':World} {xs ys zs:LLA} {A:Option Addr} {c g1 c1:Nat} {g' c':Nat} {l:List Value} {vals:List Value}
  (hA:Agree S w) (hm0:m 0=some (.iface 0 (.slice A xs.length c))) (hm1:m 1=some (.iface 0 (.slice (some ⟨g1,0,none⟩) 1 c1)))
  (H1:Held S m w 1 (.row 49 7 ys)) (hnm:∀ k u,m k=some u→k < 2) (hg1:g1 < w.heap.size) (hne:g1≠g')
  (hg:(A=some ⟨g',0,none⟩∧g' < w.heap.size)∨g'=w.heap.size) (hS:∀ o,S g' o=none)
  (r1:w'.os=w.os) (r2:w'.tape=w.tape) (r3:w'.output=w.output) (r4:w.heap.size≤w'.heap.size) (r5:∀ b,b < w.heap.size→b≠g'→w'.heap[b]?=w.heap[b]?)
  (r6:w'.heap[g']?=some (.cells l.toArray 49 (0,0))) (r7:l.length=c'*7) (r8:l.take (zs.length*7)=vals) (hc:zs.length≤c') (hcm:c'≤maxLen)
  (hz:∀ z ∈ zs,z.length=7) (hv:CVl S zs.flatten noNm vals) (h1:∀ v ∈ vals,v.oneCell'=true) (hl:zs.length=xs.length+1) :
  ∃ u S' m',(Ending.returned (.slice (some ⟨g',0,none⟩) (xs.length+1) c'):Ending)=.returned u∧w'.os=w.os∧w'.tape=w.tape∧w'.output=w.output∧w.heap.size≤w'.heap.size∧Ext S S' ∧
   (∀ b,b < w.heap.size→¬ Mof 2 m b→w'.heap[b]?=w.heap[b]?∧∀ o,S' b o=S b o)∧Agree S' w' ∧
   (∀ (q:Nat) (b:Blk),([.row 49 7 zs,.row 49 7 ys]:List Blk)[q]?=some b→Held S' m' w' q b)∧InjB 2 m'∧(∀ q u g,q < 2→m' q=some u→bk u=some g→w.heap.size≤g∨Mof 2 m g)∧MLe m m'∧CV S' (.rw 0 7 (xs.length+1)) m' u:=by
 have hlt:49 < 1000000:=by decide
 have n0:(m.set 0 (.iface 0 (.slice (some ⟨g',0,none⟩) zs.length c'))) 0=some (.iface 0 (.slice (some ⟨g',0,none⟩) zs.length c')):=Nm.set_same _ _ _
 have n1:(m.set 0 (.iface 0 (.slice (some ⟨g',0,none⟩) zs.length c'))) 1=m 1:=Nm.set_ne _ _ (by decide)
 refine ⟨_,S,m.set 0 (.iface 0 (.slice (some ⟨g',0,none⟩) zs.length c')),rfl,r1,r2,r3,r4,.refl _,fun b hb hM=>⟨r5 b hb fun e=>hM ?_,fun _=>rfl⟩,fun b o v h=>?_,fun q b hq=>?_,?_,?_,?_,?_⟩
 ·subst e
  rcases hg with ⟨h,_⟩ | h
  ·exact ⟨0,_,by decide,hm0,by rw [h]; rfl⟩
  ·omega
 ·obtain ⟨k1,k2⟩:=hA b o v h
  have hb:b≠g':=fun e=>by rw [e,hS o] at h; cases h
  exact ⟨by rw [World.cell?_of_block (w:=w) (r5 b (hA.lt h) hb)]; exact k1,k2⟩
 ·match q,hq with
  | 0,hq =>
   simp only [List.getElem?_cons_zero,Option.some.injEq] at hq
   subst hq
   refine ⟨some ⟨g',0,none⟩,c',n0,hc,hcm,.inr ⟨g',l.toArray,(0,0),rfl,by rw [rowTy_lt hlt]; exact r6,.none,by simpa using r7,hS,?_⟩⟩
   rw [rowNm_lo (Nat.lt_trans hlt (by decide))]
   exact row_of_flat hz hv h1 (by simpa using r8)
  | 1,hq =>
   simp only [List.getElem?_cons_succ,List.getElem?_cons_zero,Option.some.injEq] at hq
   subst hq
   refine H1.keep (.refl _) (fun cs vs hi _=>?_) n1 fun u g hu hgu=>?_
   ·obtain ⟨hh,_⟩:=hi
    omega
   ·rw [hm1] at hu
    injection hu with hu
    subst hu
    simp only [bk,Option.some.injEq] at hgu
    subst hgu
    exact ⟨r5 _ hg1 hne,fun _=>rfl⟩
  | q+2,hq=>simp at hq
 ·intro q q' u u' g hq hq' hqq hu hu' hgu
  have key:∀ (q:Nat) (u:Value) (g:Nat),q < 2→(m.set 0 (.iface 0 (.slice (some ⟨g',0,none⟩) zs.length c'))) q=some u→bk u=some g→(q=0∧g=g')∨(q=1∧g=g1):=by
   intro q u g hq hu hgu
   match q,hq with
   | 0,_ =>
    rw [n0] at hu; injection hu with hu; subst hu
    simp only [bk,Option.some.injEq] at hgu
    exact .inl ⟨rfl,hgu.symm⟩
   | 1,_ =>
    rw [n1,hm1] at hu; injection hu with hu; subst hu
    simp only [bk,Option.some.injEq] at hgu
    exact .inr ⟨rfl,hgu.symm⟩
  intro hgu'
  rcases key q u g hq hu hgu with ⟨a1,a2⟩ | ⟨a1,a2⟩ <;> rcases key q' u' g hq' hu' hgu' with ⟨b1,b2⟩ | ⟨b1,b2⟩
  ·omega
  ·exact hne (by rw [← b2,a2])
  ·exact hne (by rw [← a2,b2])
  ·omega
 ·intro q u g hq hu hgu
  match q,hq with
  | 0,_ =>
   rw [n0] at hu; injection hu with hu; subst hu
   simp only [bk,Option.some.injEq] at hgu
   subst hgu
   rcases hg with ⟨h,_⟩ | h
   ·exact .inr ⟨0,_,by decide,hm0,by rw [h]; rfl⟩
   ·exact .inl (by omega)
  | 1,_=>exact .inr ⟨1,u,by decide,by rw [← n1]; exact hu,hgu⟩
 ·exact grow_le hm0 (by omega)
 ·rw [← hl]
  exact CV.rw_mk n0 hc hcm (.inr ⟨g',rfl⟩)
theorem cv_rowP {S:Pin} {m:Nm} {k s n:Nat} {v:Value} {A:Option Addr} {c:Nat} (h:CV S (.rw k s n) m v) (hm:m k=some (.iface 0 (.slice A n c))):v=.slice A n c:=by
 simp only [CV] at h
 obtain ⟨_,A1,q,c1,p1,p2,p3⟩:=h
 rw [hm] at p1
 injection p1 with p1
 injection p1 with _ p1
 injection p1 with e1 e2 e3
 subst e1 e3
 rw [e2]
 exact p3 (by omega)
set_option maxHeartbeats 1000000 in
theorem sins_okP (gl:Glob):HOK Tryz.prog gl 62 sins_sP:=by
 refine ⟨fok Tryz.func62 (by kernel_rfl) (by kernel_rfl),?_⟩
 intro xs0 bs pre r bs2 h hp
 unfold sins_sP at h
 split at h
 rotate_left
 ·cases h
 rename_i n i q xs ys
 simp only [Option.some.injEq,Prod.mk.injEq] at h
 obtain ⟨h1,h2,h3⟩:=h
 subst h1 h2 h3
 obtain ⟨hn,hq,hy,i0,i1,hbg⟩:=hp
 subst hn hq
 intro w S m vs hG hA hnm hheld hinj hv
 have H0:=hheld 0 _ rfl
 have H1:=hheld 1 _ rfl
 have hlt:49 < 1000000:=by decide
 obtain ⟨A,c,a1,a2,a3,a4,a5,V,b1,b2,b3,b4,b5⟩:=H0.vals
 obtain ⟨A1,c1,d1,d2,d3,d4,d5,Y,e1,e2,e3,e4,e5⟩:=H1.vals
 rw [rowNm_lo (Nat.lt_trans hlt (by decide))] at b2 e2
 rw [hy] at d1 d2 e1
 obtain ⟨g1,cur1,fr1,rfl,f1,f2,f3,f4⟩:=d5.resolve_left (fun h=>by omega)
 have hfr1:=f2.lt hlt
 subst hfr1
 rw [rowTy_lt hlt] at f1
 have hg1:g1 < w.heap.size:=(Array.getElem?_eq_some_iff.1 f1).1
 simp only [CVl] at hv
 obtain ⟨u1,us1,v1,hv1,u2,us2,v2,hv2,u3,us3,v3,hv3,v4⟩:=hv
 subst v4 v3 v2
 have hv1:=cv_rowP hv1 a1
 have hv3:=cv_rowP hv3 d1
 simp only [CV] at hv2
 obtain ⟨hv2,_⟩:=hv2
 subst hv1 hv2 hv3
 obtain ⟨k,rfl⟩:∃ k:Nat,i=k:=⟨i.toNat,by omega⟩
 have hvs:vs=#[.slice A xs.length c,.int .i64 k,.slice (some ⟨g1,0,none⟩) 1 c1]:=by apply Array.ext'; simpa using v1
 subst hvs
 have hk:k≤xs.length:=by omega
 have hs1:∀ j v,Y[j]?=some v→w.cell? ⟨g1,0+j,none⟩=some v:=fun j v h=>by rw [Nat.zero_add]; exact e5 g1 rfl j v h
 have hYl:Y.length=1*7:=by rw [e1]
 have hz:∀ z ∈ xs.take k++ys++xs.drop k,z.length=7:=fun z hz=>by
  rcases List.mem_append.1 hz with hz | hz
  ·rcases List.mem_append.1 hz with hz | hz
   ·exact a4 z (List.mem_of_mem_take hz)
   ·exact d4 z hz
  ·exact a4 z (List.mem_of_mem_drop hz)
 have hzl:(xs.take k++ys++xs.drop k).length=xs.length+1:=by
  simp only [List.length_append,List.length_take,List.length_drop,hy]; omega
 obtain ⟨t1,t2⟩:=flat_take10P (zs:=xs) k a4
 have hct:CVl S (xs.take k++ys++xs.drop k).flatten noNm (V.take (k*7)++Y++V.drop (k*7)):=by
  rw [List.flatten_append,List.flatten_append,t1,t2]
  exact ((b2.take _).append e2).append (b2.drop _)
 have hon:∀ v ∈ V.take (k*7)++Y++V.drop (k*7),v.oneCell'=true:=fun v hv=>by
  rcases List.mem_append.1 hv with hv | hv
  ·rcases List.mem_append.1 hv with hv | hv
   ·exact b3 v (List.mem_of_mem_take hv)
   ·exact e3 v hv
  ·exact b3 v (List.mem_of_mem_drop hv)
 have hnm2:∀ k u,m k=some u→k < 2:=hnm
 have a3':c≤9223372036854775807:=by unfold maxLen at a3; omega
 have hdet:(Int.toNat (k:Int))=k:=by omega
 rw [hdet]
 rcases Nat.lt_or_ge c (xs.length+1) with hroom | hroom
 ·
  have hgn:g1≠w.heap.size:=by omega
  obtain ⟨zc,hzc⟩:∃ zc:Array Value,∀ i z,Tryz.prog.info? 49=some i→i.zero=some z→z.cells=zc:=by
   obtain ⟨i0,z0,hi0,hz0,_⟩:=i_itP
   refine ⟨z0.cells,fun i z h1 h2=>?_⟩
   have q1:i=i0:=Option.some.inj (h1.symm.trans hi0)
   rw [q1] at h2
   rw [Option.some.inj (h2.symm.trans hz0)]
  have hzcs:zc.size=7:=by
   obtain ⟨i0,z0,hi0,hz0,_,h,_⟩:=i_itP
   rw [← hzc i0 z0 hi0 hz0]; exact h
  have hG1:xs.length+1≤grownCap w (xs.length+1) c 49:=grownCap_ge w _ _ _
  have hG2:grownCap w (xs.length+1) c 49≤maxLen:=grownCap_le_maxLen w (xs.length+1) c 49 (by unfold maxLen; omega)
  have hSn:∀ o,S w.heap.size o=none:=fun o=>by
   cases e:S w.heap.size o with
   | none=>rfl
   | some v=>have:=hA.lt e; omega
  rcases Nat.lt_or_ge k xs.length with hk2 | hk2
  ·obtain ⟨g,cur,fr,rfl,q1,q2,q3,q4⟩:=a5.resolve_left (fun h=>by omega)
   refine (ins_growP g 0 xs.length c k g1 0 1 c1 V Y w hk2 (by decide) a2 hroom (by omega) b1 hYl (fun j v h=>by rw [Nat.zero_add]; exact b5 g rfl j v h) hs1 b3 e3 zc hzc).mono ?_
   rintro e w' ⟨rfl,rfl⟩
   generalize hGc:grownCap w (xs.length+1) c 49=G at *
   obtain ⟨L0,hL0⟩:∃ L0:List Value,L0=V.take (k*7)++(Builtin.zeroCells zc (xs.length+1 - k)).toList++(Builtin.zeroCells zc (G - (xs.length+1))).toList:=⟨_,rfl⟩
   have hrow:(V.take (k*7)).toArray++Builtin.zeroCells zc (xs.length+1 - k)++Builtin.zeroCells zc (G - (xs.length+1))=L0.toArray:=by
    rw [hL0]; apply Array.ext'; simp
   have hL0l:L0.length=G*7:=by
    rw [hL0]
    simp only [List.length_append,List.length_take,Array.length_toList,zero_sizeP,hzcs,b1]
    omega
   rw [hrow]
   have w1:(w.alloc (.cells L0.toArray 49)).drew.heap[w.heap.size]?=some (.cells L0.toArray 49 (0,0)):=heap_alloc_new w _
   have w2:=setCells_heapP w.heap.size 49 (0,0) Y (k*7) _ L0 w1 (by omega)
   have w3:=setCells_heapP w.heap.size 49 (0,0) (V.drop (k*7)) ((k+1)*7) (((w.alloc (.cells L0.toArray 49)).drew.setCells w.heap.size (k*7) Y).drew) (putLP (k*7) Y L0) w2 (by rw [putL_lenP (by omega),List.length_drop,b1]; omega)
   obtain ⟨s1,s2,s3,s4⟩:=setCells_restP w.heap.size (V.drop (k*7)) ((k+1)*7) (((w.alloc (.cells L0.toArray 49)).drew.setCells w.heap.size (k*7) Y).drew)
   obtain ⟨s5,s6,s7,s8⟩:=setCells_restP w.heap.size Y (k*7) (w.alloc (.cells L0.toArray 49)).drew
   have s9:(w.alloc (.cells L0.toArray 49)).drew.heap.size=w.heap.size+1:=by
    show (w.alloc (.cells L0.toArray 49)).heap.size=_
    rw [World.size_alloc]
   exact ins_doneP hA a1 d1 H1 hnm2 hg1 hgn (.inr rfl) hSn (s1.trans s5) (s2.trans s6) (s3.trans s7) (by rw [s4]; show w.heap.size≤((w.alloc (.cells L0.toArray 49)).drew.setCells w.heap.size (k*7) Y).heap.size; rw [s8,s9]; omega)
    (fun b hb hne=>by
     rw [setCells_otherP _ _ _ _ b hne]
     show ((w.alloc (.cells L0.toArray 49)).drew.setCells w.heap.size (k*7) Y).heap[b]?=_
     rw [setCells_otherP _ _ _ _ b hne]
     exact heap_alloc_old w _ hb)
    w3 (by rw [putL_lenP (by rw [putL_lenP (by omega),List.length_drop,b1]; omega),putL_lenP (by omega)]; exact hL0l)
    (by
     rw [hzl,putL_takeP (by rw [putL_lenP (by omega),List.length_drop,b1]; omega) (by rw [List.length_drop,b1]; omega)]
     rw [show ((k+1)*7)=k*7+Y.length by omega,putL_takeP (by omega) rfl]
     have x:L0.take (k*7)=V.take (k*7):=by
      rw [hL0,List.append_assoc,List.take_append_of_le_length (l₁:=V.take (k*7)) (by rw [List.length_take,b1]; omega),List.take_of_length_le (l:=V.take (k*7)) (by rw [List.length_take]; omega)]
     rw [x])
    (by rw [hzl]; exact hG1) hG2 hz hct hon hzl
  ·have hkn:k=xs.length:=by omega
   subst hkn
   have hnl:A=none→xs.length=0:=fun hn=>by
    rcases a5 with ⟨_,h⟩ | ⟨g,cur,fr,h,_⟩
    ·omega
    ·rw [hn] at h; cases h
   refine (ins_end_growP A xs.length c g1 0 1 c1 V Y w (by decide) a2 hroom (by omega) b1 hYl hnl (fun a ha j v h=>?_) hs1 e3 zc hzc).mono ?_
   ·rcases a5 with ⟨h0,_⟩ | ⟨g,cur,fr,h0,_⟩
    ·rw [h0] at ha; cases ha
    ·rw [h0] at ha; injection ha with ha; subst ha
     rw [Addr.add_lit,Nat.zero_add]; exact b5 g h0 j v h
   ·rintro e w' ⟨rfl,rfl⟩
    generalize hGc:grownCap w (xs.length+1) c 49=G at *
    obtain ⟨L0,hL0⟩:∃ L0:List Value,L0=V++Y++(Builtin.zeroCells zc (G - (xs.length+1))).toList:=⟨_,rfl⟩
    have hrow:(V++Y).toArray++Builtin.zeroCells zc (G - (xs.length+1))=L0.toArray:=by
     rw [hL0]; apply Array.ext'; simp
    have hL0l:L0.length=G*7:=by
     rw [hL0]
     simp only [List.length_append,Array.length_toList,zero_sizeP,hzcs,b1,hYl]
     omega
    rw [hrow]
    have w1:(w.drew.alloc (.cells L0.toArray 49)).heap[w.heap.size]?=some (.cells L0.toArray 49 (0,0)):=heap_alloc_new w.drew _
    exact ins_doneP hA a1 d1 H1 hnm2 hg1 hgn (.inr rfl) hSn rfl rfl rfl (by show w.heap.size≤(w.drew.alloc (.cells L0.toArray 49)).heap.size; rw [World.size_alloc]; exact Nat.le_succ _) (fun b hb hne=>heap_alloc_old w.drew _ hb) w1 hL0l
     (by
      rw [hzl,hL0,List.take_append_of_le_length (by rw [List.length_append,b1,hYl]; omega),List.take_of_length_le (by rw [List.length_append,b1,hYl]; omega)]
      have x1:V.take (xs.length*7)=V:=List.take_of_length_le (by omega)
      have x2:V.drop (xs.length*7)=[]:=List.drop_eq_nil_of_le (by omega)
      rw [x1,x2,List.append_nil])
     (by rw [hzl]; exact hG1) hG2 hz hct hon hzl
 ·
  obtain ⟨g,cur,fr,rfl,q1,q2,q3,q4⟩:=a5.resolve_left (fun h=>by omega)
  have hfr:=q2.lt hlt
  subst hfr
  rw [rowTy_lt hlt] at q1
  have hgw:g < w.heap.size:=(Array.getElem?_eq_some_iff.1 q1).1
  have hgn:g1≠g:=fun h=>hinj 1 0 _ _ g1 (by simp) (by simp) (by decide) d1 a1 rfl (by rw [h]; rfl)
  obtain ⟨_,_,_,hAe,p1,_,p3,p4⟩:=b4.resolve_left (fun h=>by omega)
  injection hAe with hAe
  injection hAe with hAe
  subst hAe
  rw [rowTy_lt hlt,q1] at p1
  injection p1 with p1
  injection p1 with p1
  subst p1
  obtain ⟨L,hL⟩:∃ L,L=cur.toList:=⟨_,rfl⟩
  have hcur:cur=L.toArray:=by rw [hL]
  rw [hcur] at q1
  rw [← hL] at p4
  have hLl:L.length=c*7:=by rw [hL,Array.length_toList]; exact q3
  have hcell:∀ j,j < (xs.length+1)*7→(w.cell? ⟨g,0+j,none⟩).isSome=true:=fun j hj=>by
   simp only [World.cell?,q1,Nat.zero_add]
   have:j < L.length:=by rw [hLl]; have:=Nat.mul_le_mul_right 7 hroom; omega
   simp [List.getElem?_eq_getElem this]
  have hfz:∀ j,w.frozen? ⟨g,j,none⟩=false:=fun j=>by simp [World.frozen?,q1]
  have hLn:(xs.length+1)*7≤L.length:=by rw [hLl]; exact Nat.mul_le_mul_right 7 hroom
  rcases Nat.lt_or_ge k xs.length with hk2 | hk2
  ·refine (ins_shiftP g 0 xs.length c k g1 0 1 c1 V Y w hk2 (by decide) hroom (by omega) hgn b1 hYl (fun j v h=>by rw [Nat.zero_add]; exact b5 g rfl j v h) hcell (fun j _=>hfz _) hs1 b3 e3 49 49 cur1.size L.length (by simp [World.shape?,f1]) (by simp [World.shape?,q1]) (by omega) (by simp [World.frozen?,f1]) (by simp [World.frozen?,f1])).mono ?_
   rintro e w' ⟨rfl,rfl⟩
   rw [Nat.zero_add,Nat.zero_add]
   have w2:=setCells_heapP g 49 (0,0) (V.drop (k*7)) ((k+1)*7) w.drew L q1 (by rw [List.length_drop,b1]; omega)
   have w3:=setCells_heapP g 49 (0,0) Y (k*7) _ _ w2 (by rw [putL_lenP (by rw [List.length_drop,b1]; omega)]; omega)
   obtain ⟨s1,s2,s3,s4⟩:=setCells_restP g Y (k*7) (w.drew.setCells g ((k+1)*7) (V.drop (k*7)))
   obtain ⟨s5,s6,s7,s8⟩:=setCells_restP g (V.drop (k*7)) ((k+1)*7) w.drew
   exact ins_doneP hA a1 d1 H1 hnm2 hg1 hgn (.inl ⟨rfl,hgw⟩) q4 (s1.trans s5) (s2.trans s6) (s3.trans s7) (by rw [s4,s8]; exact Nat.le_refl _)
    (fun b hb hne=>by rw [setCells_otherP _ _ _ _ b hne,setCells_otherP _ _ _ _ b hne]; rfl)
    w3 (by rw [putL_lenP (by rw [putL_lenP (by rw [List.length_drop,b1]; omega)]; omega),putL_lenP (by rw [List.length_drop,b1]; omega)]; exact hLl)
    (by
     rw [hzl]
     unfold putLP
     have x1:(L.take ((k+1)*7)).length=(k+1)*7:=by rw [List.length_take]; omega
     have x3:V.take (k*7)=L.take (k*7):=by rw [← p4,List.take_take,Nat.min_eq_left (by omega)]
     have y1:(L.take ((k+1)*7)++V.drop (k*7)++L.drop ((k+1)*7+(V.drop (k*7)).length)).take (k*7)=V.take (k*7):=by
      rw [List.append_assoc,List.take_append_of_le_length (by omega),List.take_take,Nat.min_eq_left (by omega),x3]
     have y2:(L.take ((k+1)*7)++V.drop (k*7)++L.drop ((k+1)*7+(V.drop (k*7)).length)).drop (k*7+Y.length)=V.drop (k*7)++L.drop ((k+1)*7+(V.drop (k*7)).length):=by
      rw [List.append_assoc,List.drop_append,List.drop_of_length_le (by omega),x1,show k*7+Y.length - (k+1)*7=0 by omega]
      rfl
     rw [y1,y2,← List.append_assoc,List.take_append_of_le_length (by simp only [List.length_append,List.length_take,List.length_drop,b1,hYl]; omega),List.take_of_length_le (by simp only [List.length_append,List.length_take,List.length_drop,b1,hYl]; omega)])
    (by rw [hzl]; exact hroom) a3 hz hct hon hzl
  ·have hkn:k=xs.length:=by omega
   subst hkn
   refine (ins_end_roomP g 0 xs.length c g1 0 1 c1 Y w (by decide) hroom (by omega) hYl (fun j hj=>by rw [Nat.add_assoc]; exact hcell _ (by omega)) (fun j _=>hfz _) hs1 e3).mono ?_
   rintro e w' ⟨rfl,rfl⟩
   rw [Nat.zero_add]
   have w2:=setCells_heapP g 49 (0,0) Y (xs.length*7) w L q1 (by omega)
   obtain ⟨s1,s2,s3,s4⟩:=setCells_restP g Y (xs.length*7) w
   exact ins_doneP hA a1 d1 H1 hnm2 hg1 hgn (.inl ⟨rfl,hgw⟩) q4 s1 s2 s3 (by rw [s4]; exact Nat.le_refl _)
    (fun b hb hne=>setCells_otherP _ _ _ _ b hne)
    w2 (by rw [putL_lenP (by omega)]; exact hLl)
    (by
     rw [hzl,putL_takeP (by omega) (by omega),p4]
     have x1:V.take (xs.length*7)=V:=List.take_of_length_le (by omega)
     have x2:V.drop (xs.length*7)=[]:=List.drop_eq_nil_of_le (by omega)
     rw [x1,x2,List.append_nil])
    (by rw [hzl]; exact hroom) a3 hz hct hon hzl
end Go.Proofs.YtldiagnbagpliaaGreatDoor
namespace Go.Proofs.YtldiagnbagpliaaGreatDoor
open Go
set_option linter.unusedVariables false
set_option linter.unusedSimpArgs false
def sinS_s:SpH:=sins_sS
theorem sinS_ok (gl:Glob):HOK Tryz.prog gl 60 sinS_s:=sins_okS gl
def sinP_s:SpH:=sins_sP
theorem sinP_ok (gl:Glob):HOK Tryz.prog gl 62 sinP_s:=sins_okP gl
def seD (l:LLR) (nm:ByteArray):LLR:=hoP l (stN l nm)
def setE (l:LLR) (k:Int) (nm:ByteArray) (fr:Int) (cl:Bool) (f a b c:Int) (bs:LLR):Int :=
 if rgV l≠0 then rgV l else if exK k=false then 4 else if nmOk nm=false then 3 else if pdV k fr cl f a b c bs=false then 1 else
 if stH l nm=true then (if rE (l.getD (stN l nm) [])≠k then 7 else if pdH (seD l nm) fr=true then 0 else if 8≤((seD l nm).length:Int) then 2 else 0) else if 60≤(l.length:Int) then 2 else 0
def putP (ps:LLR) (fr:Int) (p:List AV):LLR:=if pdH ps fr=true then setEl ps (pdN ps fr) 0 p else ps.take (pdN ps fr)++[p]++ps.drop (pdN ps fr)
def setL (l:LLR) (k:Int) (nm:ByteArray) (fr:Int) (p:List AV):LLR :=
 if stH l nm=true then setEl l (stN l nm) 2 [.sl 7 false (putP (seD l nm) fr p)] else l.take (stN l nm)++[stA k nm [p]]++l.drop (stN l nm)
def setO (l:LLR) (k:Int) (nm:ByteArray) (fr:Int) (cl:Bool) (f a b c:Int) (bs:LLR):LLR:=if setE l k nm fr cl f a b c bs=0 then setL l k nm fr (pdA fr cl f a b c bs) else []
theorem setEl_twice {l:LLR} {i:Nat} {a b c x y:AV} (hi:i < l.length) (h:l.getD i []=[a,b,c]):setEl (setEl l i 2 [x]) i 2 [y]=setEl l i 2 [y]:=by
 refine ll_ext (by simp only [setEl_len]) fun j hj=>?_
 by_cases q:j=i
 ·subst q
  rw [setEl_get,if_pos ⟨rfl,by rw [setEl_len]; exact hi⟩,setEl_get,if_pos ⟨rfl,hi⟩,setEl_get,if_pos ⟨rfl,hi⟩,h]; rfl
 ·rw [setEl_get,if_neg (fun z=>q z.1),setEl_get,if_neg (fun z=>q z.1),setEl_get,if_neg (fun z=>q z.1)]
theorem st_put {l:LLR} (hl:StsP l) (i b:Nat) (Q:LLR):mapLL (frsA b 7 Q) (setEl l i 2 [.rw b 7 Q.length])=setEl l i 2 [.sl 7 false Q]:=by
 rw [mapLL_setEl,(flat_frs _ _ _).st hl,List.map_cons,List.map_nil]
 have e2:frsA b 7 Q (.rw b 7 Q.length)=.sl 7 false Q:=by simp only [frsA,if_true,true_and]
 rw [e2]
theorem se_err {l:LLR} {k:Int} {nm:ByteArray} {fr:Int} {cl:Bool} {f a b c:Int} {bs:LLR} {e:Int} (h:setE l k nm fr cl f a b c bs=e) (he:e≠0):(setO l k nm fr cl f a b c bs=[]∧True)∧e=setE l k nm fr cl f a b c bs∧True :=
 ⟨⟨if_neg (by rw [h]; exact he),trivial⟩,h.symm,trivial⟩
theorem se_ok {l:LLR} {k:Int} {nm:ByteArray} {fr:Int} {cl:Bool} {f a b c:Int} {bs X:LLR} (h:setE l k nm fr cl f a b c bs=0) (hx:X=setL l k nm fr (pdA fr cl f a b c bs)):((True∧X=setO l k nm fr cl f a b c bs)∧True)∧0=setE l k nm fr cl f a b c bs∧True :=
 ⟨⟨⟨trivial,by unfold setO; rw [if_pos h]; exact hx⟩,trivial⟩,h.symm,trivial⟩
theorem rg_len {l:LLR} (h:rgV l=0):l.length≤60∧∀ i,i < l.length→(hoP l i).length≤8:=by
 unfold rgV at h
 split at h
 ·cases h
 ·rename_i q
  refine ⟨by omega,fun i hi=>?_⟩
  have q1:l.any p1R=false:=by
   cases z:l.any p1R with
   | false=>rfl
   | true=>exact absurd (.inr z) q
  have:=List.any_eq_false.1 q1 (l.getD i []) (by rw [gD_lt hi]; exact List.getElem_mem _)
  unfold p1R s1B at this
  simp only [Bool.or_eq_true,not_or,decide_eq_true_eq] at this
  have h2:=this.2
  show (sPs (l.getD i [])).length≤8
  omega
def gset_s:Sp
 | [.agg [.sl 3 g l],.int .i64 k,.str nm,.agg [.int .i64 fr,.bool cl,.int .i64 f,.int .i64 a,.int .i64 b,.int .i64 c,.sl 2 h bs]]=>some (StsP l∧RdsP bs∧bs.length≤1000,.tup [.agg [.sl 3 false (setO l k nm fr cl f a b c bs)],.int .i64 (setE l k nm fr cl f a b c bs)])
 | _=>none
def gset_T (rgV:LLR→Int) (nmOk:ByteArray→Bool) (setO:LLR→Int→ByteArray→Int→Bool→Int→Int→Int→Int→LLR→LLR) (setE:LLR→Int→ByteArray→Int→Bool→Int→Int→Int→Int→LLR→Int) (p1R:List AV→Bool) (p2R:List AV→Bool) (p3R:List AV→Bool) (p4R:List AV→Bool) (p5R:List AV→Bool) (exK:Int→Bool) (nrm:Int→Int→Int→Int→Int × Int × Int × Int) (vld:Int→Int→Int→Int→Bool) (isN:Int→Int→Int→Int→Bool) (pdV:Int→Int→Bool→Int→Int→Int→Int→LLR→Bool) (nonP:Int→Int→Int→Int→Bool) (iL:Int→ByteArray) (inLo:Int→Int) (inHi:Int→Int) (inD:Int→Int) (inE:Int→Int):Prop :=
 ∀ (g h:Bool) (l bs:List (List AV)) (k fr f a b c:Int) (cl:Bool) (nm:ByteArray),StsP l∧RdsP bs∧bs.length≤(1000:Nat)→True∧True→IR9 k→nm.size.le (9223372036854775807:Nat)→(IR9 fr)∧True∧(IR9 f)∧((-9223372036854775808:Int)≤a∧a
≤(9223372036854775807:Int))∧(IR9 b)∧(IR9 c)∧True∧True→StsP l∧bif decide ¬rgV l=(0:Int) then (setO l k nm fr cl f a b c bs=[]∧True)∧rgV l=setE l k nm fr cl f a b c bs∧True else True∧bif !exK k then (setO l k nm fr cl f a b c bs=[]∧True)∧(4:Int)=setE l k nm fr cl f a b c bs∧True else
 True∧bif !nmOk nm then (setO l k nm fr cl f a b c bs=[]∧True)∧(3:Int)=setE l k nm fr cl f a b c bs∧True else RdsP bs∧bif !pdV k fr cl f a b c bs then (setO l k nm fr cl f a b c bs=[]∧True)∧(1:Int)=setE l k nm fr cl f a b c bs∧True else StsP l∧bs.length≤(1000:Nat)∧(((SrcS l∧l.length=l.length)∧mapLL (rnT (rnP [(1040:Nat)] [(1:Nat)])) (mapLL (rnT (rnP [(1:Nat)] [(1040:Nat)])) (hol l (stN l nm)
 (1:Nat)))=hol l (stN l nm) (1:Nat))∧hoP l (stN l nm)=hoP l (stN l nm))∧bif !stH l nm then bif decide ((60:Int)≤(↑l.length:Int)) then (setO l k nm fr cl f a b c bs=[]∧True)∧(2:Int)=setE l k nm fr cl f a b c bs∧True else (l.length=(mapLL (frsA (1040:Nat) (7:Nat) (hoP l (stN l nm))) (mapLL (rnT (rnP [(1:Nat)] [(1040:Nat)])) (mapLL (rnT (rnP [(1040:Nat)] [(1:Nat)])) (mapLL (rnT (rnP [(1:Nat)]
 [(1040:Nat)])) (hol l (stN l nm) (1:Nat)))))).length∧(1:Nat)=1∧[[AV.int .i64 k,.str nm,.sl (7:Nat) false [[AV.int .i64 fr,.bool cl,.int .i64 f,.int .i64 a,.int .i64 b,.int .i64 c,.sl (2:Nat) false bs]]]].length=(1:Nat)∧(0:Int)≤(↑(stN l nm):Int)∧(↑(stN l nm):Int)≤(↑l.length:Int)∧l.length≤(900:Nat))∧bif decide (l.length+(1:Nat)=(List.take (↑(stN l nm):Int).toNat (mapLL (frsA (1040:Nat)
 (7:Nat) (hoP l (stN l nm))) (mapLL (rnT (rnP [(1:Nat)] [(1040:Nat)])) (mapLL (rnT (rnP [(1040:Nat)] [(1:Nat)])) (mapLL (rnT (rnP [(1:Nat)] [(1040:Nat)])) (hol l (stN l nm) (1:Nat))))))++[[AV.int .i64 k,.str nm,.sl (7:Nat) false [[AV.int .i64 fr,.bool cl,.int .i64 f,.int .i64 a,.int .i64 b,.int .i64 c,.sl (2:Nat) false bs]]]]++List.drop (↑(stN l nm):Int).toNat (mapLL (frsA (1040:Nat) (7:Nat)
 (hoP l (stN l nm))) (mapLL (rnT (rnP [(1:Nat)] [(1040:Nat)])) (mapLL (rnT (rnP [(1040:Nat)] [(1:Nat)])) (mapLL (rnT (rnP [(1:Nat)] [(1040:Nat)])) (hol l (stN l nm) (1:Nat))))))).length) then ((True∧List.take (↑(stN l nm):Int).toNat (mapLL (frsA (1040:Nat) (7:Nat) (hoP l (stN l nm))) (mapLL (rnT (rnP [(1:Nat)] [(1040:Nat)])) (mapLL (rnT (rnP [(1040:Nat)] [(1:Nat)])) (mapLL (rnT (rnP [(1:Nat)]
 [(1040:Nat)])) (hol l (stN l nm) (1:Nat))))))++[[AV.int .i64 k,.str nm,.sl (7:Nat) false [[AV.int .i64 fr,.bool cl,.int .i64 f,.int .i64 a,.int .i64 b,.int .i64 c,.sl (2:Nat) false bs]]]]++List.drop (↑(stN l nm):Int).toNat (mapLL (frsA (1040:Nat) (7:Nat) (hoP l (stN l nm))) (mapLL (rnT (rnP [(1:Nat)] [(1040:Nat)])) (mapLL (rnT (rnP [(1040:Nat)] [(1:Nat)])) (mapLL (rnT (rnP [(1:Nat)]
 [(1040:Nat)])) (hol l (stN l nm) (1:Nat))))))=setO l k nm fr cl f a b c bs)∧True)∧(0:Int)=setE l k nm fr cl f a b c bs∧True else False else bif decide ((0:Int)≤(↑(stN l nm):Int)∧(↑(stN l nm):Int) < (↑l.length:Int)) then bif decide (l.length=(mapLL (rnT (rnP [(1:Nat)] [(1040:Nat)])) (mapLL (rnT (rnP [(1040:Nat)] [(1:Nat)])) (mapLL (rnT (rnP [(1:Nat)] [(1040:Nat)])) (hol l (stN l nm)
 (1:Nat))))).length∧(↑(stN l nm):Int).toNat < (mapLL (rnT (rnP [(1:Nat)] [(1040:Nat)])) (mapLL (rnT (rnP [(1040:Nat)] [(1:Nat)])) (mapLL (rnT (rnP [(1:Nat)] [(1040:Nat)])) (hol l (stN l nm) (1:Nat))))).length) then ∃ n,List.take [AV.int .i64 n].length (List.drop (0:Nat) ((mapLL (rnT (rnP [(1:Nat)] [(1040:Nat)])) (mapLL (rnT (rnP [(1040:Nat)] [(1:Nat)])) (mapLL (rnT (rnP [(1:Nat)] [(1040:Nat)])) (hol
 l (stN l nm) (1:Nat))))).getD (↑(stN l nm):Int).toNat []))=[AV.int .i64 n]∧bif decide ¬n=k then (setO l k nm fr cl f a b c bs=[]∧True)∧(7:Int)=setE l k nm fr cl f a b c bs∧True else bif decide (l.length=(mapLL (rnT (rnP [(1:Nat)] [(1040:Nat)])) (mapLL (rnT (rnP [(1040:Nat)] [(1:Nat)])) (mapLL (rnT (rnP [(1:Nat)] [(1040:Nat)])) (hol l (stN l nm) (1:Nat))))).length∧(↑(stN l nm):Int).toNat < (mapLL
 (rnT (rnP [(1:Nat)] [(1040:Nat)])) (mapLL (rnT (rnP [(1040:Nat)] [(1:Nat)])) (mapLL (rnT (rnP [(1:Nat)] [(1040:Nat)])) (hol l (stN l nm) (1:Nat))))).length) then ∃ n s n_1,List.take [AV.int .i64 n,.str s,.rw (1040:Nat) (7:Nat) n_1].length (List.drop (0:Nat) ((mapLL (rnT (rnP [(1:Nat)] [(1040:Nat)])) (mapLL (rnT (rnP [(1040:Nat)] [(1:Nat)])) (mapLL (rnT (rnP [(1:Nat)] [(1040:Nat)])) (hol l (stN l
 nm) (1:Nat))))).getD (↑(stN l nm):Int).toNat []))=[AV.int .i64 n,.str s,.rw (1040:Nat) (7:Nat) n_1]∧(SrcD (hoP l (stN l nm))∧n_1=List.length (hoP l (stN l nm)))∧bif pdH (hoP l (stN l nm)) fr then bif decide (l.length=(mapLL (rnT (rnP [(1:Nat)] [(1040:Nat)])) (mapLL (rnT (rnP [(1040:Nat)] [(1:Nat)])) (mapLL (rnT (rnP [(1:Nat)] [(1040:Nat)])) (hol l (stN l nm) (1:Nat))))).length∧(↑(stN l
 nm):Int).toNat < (mapLL (rnT (rnP [(1:Nat)] [(1040:Nat)])) (mapLL (rnT (rnP [(1040:Nat)] [(1:Nat)])) (mapLL (rnT (rnP [(1:Nat)] [(1040:Nat)])) (hol l (stN l nm) (1:Nat))))).length) then ∃ n,List.take [AV.rw (1040:Nat) (7:Nat) n].length (List.drop (2:Nat) ((mapLL (rnT (rnP [(1:Nat)] [(1040:Nat)])) (mapLL (rnT (rnP [(1040:Nat)] [(1:Nat)])) (mapLL (rnT (rnP [(1:Nat)] [(1040:Nat)])) (hol l (stN l nm)
 (1:Nat))))).getD (↑(stN l nm):Int).toNat []))=[AV.rw (1040:Nat) (7:Nat) n]∧bif decide ((0:Int)≤(↑(pdN (hoP l (stN l nm)) fr):Int)∧(↑(pdN (hoP l (stN l nm)) fr):Int) < (↑n:Int)) then bif decide (n=List.length (hoP l (stN l nm))∧(↑(pdN (hoP l (stN l nm)) fr):Int).toNat < List.length (hoP l (stN l nm))) then bif decide (l.length=(mapLL (frsA (1040:Nat) (7:Nat) (setEl (hoP l (stN l nm)) (↑(pdN (hoP l
 (stN l nm)) fr):Int).toNat (0:Nat) [AV.int .i64 fr,.bool cl,.int .i64 f,.int .i64 a,.int .i64 b,.int .i64 c,.sl (2:Nat) false bs])) (mapLL (rnT (rnP [(1:Nat)] [(1040:Nat)])) (mapLL (rnT (rnP [(1040:Nat)] [(1:Nat)])) (mapLL (rnT (rnP [(1:Nat)] [(1040:Nat)])) (hol l (stN l nm) (1:Nat)))))).length) then ((True∧mapLL (frsA (1040:Nat) (7:Nat) (setEl (hoP l (stN l nm)) (↑(pdN (hoP l (stN l nm))
 fr):Int).toNat (0:Nat) [AV.int .i64 fr,.bool cl,.int .i64 f,.int .i64 a,.int .i64 b,.int .i64 c,.sl (2:Nat) false bs])) (mapLL (rnT (rnP [(1:Nat)] [(1040:Nat)])) (mapLL (rnT (rnP [(1040:Nat)] [(1:Nat)])) (mapLL (rnT (rnP [(1:Nat)] [(1040:Nat)])) (hol l (stN l nm) (1:Nat)))))=setO l k nm fr cl f a b c bs)∧True)∧(0:Int)=setE l k nm fr cl f a b c bs∧True else False else False else False else False
 else bif decide (l.length=(mapLL (rnT (rnP [(1:Nat)] [(1040:Nat)])) (mapLL (rnT (rnP [(1040:Nat)] [(1:Nat)])) (mapLL (rnT (rnP [(1:Nat)] [(1040:Nat)])) (hol l (stN l nm) (1:Nat))))).length∧(↑(stN l nm):Int).toNat < (mapLL (rnT (rnP [(1:Nat)] [(1040:Nat)])) (mapLL (rnT (rnP [(1040:Nat)] [(1:Nat)])) (mapLL (rnT (rnP [(1:Nat)] [(1040:Nat)])) (hol l (stN l nm) (1:Nat))))).length) then ∃ n,List.take
 [AV.rw (1040:Nat) (7:Nat) n].length (List.drop (2:Nat) ((mapLL (rnT (rnP [(1:Nat)] [(1040:Nat)])) (mapLL (rnT (rnP [(1040:Nat)] [(1:Nat)])) (mapLL (rnT (rnP [(1:Nat)] [(1040:Nat)])) (hol l (stN l nm) (1:Nat))))).getD (↑(stN l nm):Int).toNat []))=[AV.rw (1040:Nat) (7:Nat) n]∧bif decide ((8:Int)≤(↑n:Int)) then (setO l k nm fr cl f a b c bs=[]∧True)∧(2:Int)=setE l k nm fr cl f a b c bs∧True else bif
 decide (l.length=(mapLL (rnT (rnP [(1:Nat)] [(1040:Nat)])) (mapLL (rnT (rnP [(1040:Nat)] [(1:Nat)])) (mapLL (rnT (rnP [(1:Nat)] [(1040:Nat)])) (hol l (stN l nm) (1:Nat))))).length∧(↑(stN l nm):Int).toNat < (mapLL (rnT (rnP [(1:Nat)] [(1040:Nat)])) (mapLL (rnT (rnP [(1040:Nat)] [(1:Nat)])) (mapLL (rnT (rnP [(1:Nat)] [(1040:Nat)])) (hol l (stN l nm) (1:Nat))))).length) then ∃ n,List.take [AV.rw
 (1040:Nat) (7:Nat) n].length (List.drop (2:Nat) ((mapLL (rnT (rnP [(1:Nat)] [(1040:Nat)])) (mapLL (rnT (rnP [(1040:Nat)] [(1:Nat)])) (mapLL (rnT (rnP [(1:Nat)] [(1040:Nat)])) (hol l (stN l nm) (1:Nat))))).getD (↑(stN l nm):Int).toNat []))=[AV.rw (1040:Nat) (7:Nat) n]∧(n=List.length (hoP l (stN l nm))∧(1:Nat)=1∧[[AV.int .i64 fr,.bool cl,.int .i64 f,.int .i64 a,.int .i64 b,.int .i64 c,.sl (2:Nat)
 false bs]].length=(1:Nat)∧(0:Int)≤(↑(pdN (hoP l (stN l nm)) fr):Int)∧(↑(pdN (hoP l (stN l nm)) fr):Int)≤(↑n:Int)∧n≤(900:Nat))∧bif decide (l.length=(mapLL (rnT (rnP [(1:Nat)] [(1040:Nat)])) (mapLL (rnT (rnP [(1040:Nat)] [(1:Nat)])) (mapLL (rnT (rnP [(1:Nat)] [(1040:Nat)])) (hol l (stN l nm) (1:Nat))))).length∧(↑(stN l nm):Int).toNat < (mapLL (rnT (rnP [(1:Nat)] [(1040:Nat)])) (mapLL (rnT (rnP
 [(1040:Nat)] [(1:Nat)])) (mapLL (rnT (rnP [(1:Nat)] [(1040:Nat)])) (hol l (stN l nm) (1:Nat))))).length) then bif decide (l.length=(mapLL (frsA (1040:Nat) (7:Nat) (List.take (↑(pdN (hoP l (stN l nm)) fr):Int).toNat (hoP l (stN l nm))++[[AV.int .i64 fr,.bool cl,.int .i64 f,.int .i64 a,.int .i64 b,.int .i64 c,.sl (2:Nat) false bs]]++List.drop (↑(pdN (hoP l (stN l nm)) fr):Int).toNat (hoP l (stN l
 nm)))) (setEl (mapLL (rnT (rnP [(1:Nat)] [(1040:Nat)])) (mapLL (rnT (rnP [(1040:Nat)] [(1:Nat)])) (mapLL (rnT (rnP [(1:Nat)] [(1040:Nat)])) (hol l (stN l nm) (1:Nat))))) (↑(stN l nm):Int).toNat (2:Nat) [AV.rw (1040:Nat) (7:Nat) (n+(1:Nat))])).length) then ((True∧mapLL (frsA (1040:Nat) (7:Nat) (List.take (↑(pdN (hoP l (stN l nm)) fr):Int).toNat (hoP l (stN l nm))++[[AV.int .i64 fr,.bool cl,.int
 .i64 f,.int .i64 a,.int .i64 b,.int .i64 c,.sl (2:Nat) false bs]]++List.drop (↑(pdN (hoP l (stN l nm)) fr):Int).toNat (hoP l (stN l nm)))) (setEl (mapLL (rnT (rnP [(1:Nat)] [(1040:Nat)])) (mapLL (rnT (rnP [(1040:Nat)] [(1:Nat)])) (mapLL (rnT (rnP [(1:Nat)] [(1040:Nat)])) (hol l (stN l nm) (1:Nat))))) (↑(stN l nm):Int).toNat (2:Nat) [AV.rw (1040:Nat) (7:Nat) (n+(1:Nat))])=setO l k nm fr cl f a b
 c bs)∧True)∧(0:Int)=setE l k nm fr cl f a b c bs∧True else False else False else False else False else False else False else False
theorem gset_P:gset_T rgV nmOk setO setE p1R p2R p3R p4R p5R exK nrm vld isN pdV nonP iL inLo inHi inD inE:=by
 unfold gset_T
 intro g h l bs k fr f a b c cl nm ⟨hp,hb,hbl⟩ _
 intros
 have hE:setE l k nm fr cl f a b c bs=setE l k nm fr cl f a b c bs:=rfl
 conv at hE=>rhs; unfold setE
 refine ⟨hp,csx (fun q=>se_err (hE.trans (if_pos q)) q) (fun q=>?_)⟩
 rw [if_neg q] at hE
 have h0:=Decidable.not_not.1 q
 have hz:=rg_zero hp h0
 obtain ⟨l60,p8⟩:=rg_len h0
 refine ⟨trivial,csplit (fun q2=>se_err (hE.trans (if_pos (by simpa using q2))) (by decide)) (fun q2=>?_)⟩
 rw [if_neg (by simpa using q2)] at hE
 refine ⟨trivial,csplit (fun q3=>se_err (hE.trans (if_pos (by simpa using q3))) (by decide)) (fun q3=>?_)⟩
 rw [if_neg (by simpa using q3)] at hE
 refine ⟨hb,csplit (fun q4=>se_err (hE.trans (if_pos (by simpa using q4))) (by decide)) (fun q4=>?_)⟩
 rw [if_neg (by simpa using q4)] at hE
 have X1:mapLL (rnT (rnP [1] [1040])) (hol l (stN l nm) 1)=hol l (stN l nm) 1040:=(flat_rn _).hol hp rfl
 have X2:mapLL (rnT (rnP [1040] [1])) (hol l (stN l nm) 1040)=hol l (stN l nm) 1:=(flat_rn _).hol hp rfl
 have X3:mapLL (frsA 1040 7 (hoP l (stN l nm))) (hol l (stN l nm) 1040)=l:=hol_frs hp _ _
 rw [X1,X2,X1,X3]
 have hiI:stN l nm≤l.length:=fp_le _ _
 have eI:((stN l nm:Nat):Int).toNat=stN l nm:=Int.toNat_natCast _
 rw [eI]
 refine ⟨hp,hbl,⟨⟨⟨hz.src,rfl⟩,rfl⟩,rfl⟩,csplit (fun q5=>?_) (fun q5=>?_)⟩
 ·rw [if_neg (by simpa using q5)] at hE
  refine csx (fun q6=>se_err (hE.trans (if_pos q6)) (by decide)) (fun q6=>?_)
  rw [if_neg q6] at hE
  refine ⟨⟨rfl,rfl,rfl,by omega,by omega,by omega⟩,cd1 ?_ (se_ok hE ?_)⟩
  ·simp only [List.length_append,List.length_take,List.length_drop,List.length_singleton]; omega
  ·unfold setL
   rw [if_neg (by simpa using q5)]; rfl
 ·have q5:stH l nm=true:=by simpa using q5
  rw [if_pos q5] at hE
  have hlt:=stH_lt q5
  obtain ⟨k2,nm2,ps,hrow,hps⟩:=hp.fr (stN l nm) hlt
  have hP:hoP l (stN l nm)=ps:=by unfold hoP; rw [hrow]; rfl
  have hD:seD l nm=ps:=hP
  have hk2:rE (l.getD (stN l nm) [])=k2:=by rw [hrow]; rfl
  have hsrc:SrcD ps:=⟨hps,by rw [← hP]; exact hz.fa _ hlt⟩
  have hl8:ps.length≤8:=hP ▸ p8 _ hlt
  have hL:l.length=(hol l (stN l nm) 1040).length:=(hol_len _ _ _).symm
  have hg:(hol l (stN l nm) 1040).getD (stN l nm) []=[.int .i64 k2,.str nm2,.rw 1040 7 ps.length]:=by
   unfold hol; rw [hP]; exact setEl_at hlt hrow
  have hdn:pdN ps fr≤ps.length:=fp_le _ _
  have eD:((pdN ps fr:Nat):Int).toNat=pdN ps fr:=Int.toNat_natCast _
  rw [hk2,hD] at hE
  rw [hP,eD]
  have hS:setL l k nm fr (pdA fr cl f a b c bs)=setEl l (stN l nm) 2 [.sl 7 false (putP ps fr (pdA fr cl f a b c bs))]:=by unfold setL; rw [if_pos q5,hD]
  refine cd1 (by omega) (cd1 ⟨hL,by omega⟩ ⟨k2,by rw [hg]; rfl,csx (fun q6=>se_err (hE.trans (if_pos q6)) (by decide)) (fun q6=>?_)⟩)
  rw [if_neg q6] at hE
  refine cd1 ⟨hL,by omega⟩ ⟨k2,nm2,ps.length,by rw [hg]; rfl,⟨hsrc,rfl⟩,csplit (fun q7=>?_) (fun q7=>?_)⟩
  ·rw [if_pos q7] at hE
   have hjl:pdN ps fr < ps.length:=by
    have:=q7
    unfold pdH fpB at this
    rw [Bool.and_eq_true] at this
    exact of_decide_eq_true this.1
   refine cd1 ⟨hL,by omega⟩ ⟨ps.length,by rw [hg]; rfl,cd1 (by omega) (cd1 ⟨rfl,by omega⟩ (cd1 (by rw [mapLL_len]; exact hL) (se_ok hE ?_)))⟩
   rw [hS]
   unfold putP
   rw [if_pos q7]
   have:=st_put hp (stN l nm) 1040 (setEl ps (pdN ps fr) 0 (pdA fr cl f a b c bs))
   rw [setEl_len] at this
   unfold hol
   rw [hP]
   exact this
  ·rw [if_neg (by rw [q7]; decide)] at hE
   refine cd1 ⟨hL,by omega⟩ ⟨ps.length,by rw [hg]; rfl,csx (fun q8=>se_err (hE.trans (if_pos q8)) (by decide)) (fun q8=>?_)⟩
   rw [if_neg q8] at hE
   refine cd1 ⟨hL,by omega⟩ ⟨ps.length,by rw [hg]; rfl,⟨rfl,rfl,rfl,by omega,by omega,by omega⟩,cd1 ⟨hL,by omega⟩ (cd1 (by rw [mapLL_len,setEl_len]; exact hL) (se_ok hE ?_))⟩
   rw [hS]
   unfold putP
   rw [if_neg (by rw [q7]; decide)]
   have hq:ps.length+1=(ps.take (pdN ps fr)++[pdA fr cl f a b c bs]++ps.drop (pdN ps fr)).length:=by
    simp only [List.length_append,List.length_take,List.length_drop,List.length_singleton]; omega
   have:=st_put hp (stN l nm) 1040 (ps.take (pdN ps fr)++[pdA fr cl f a b c bs]++ps.drop (pdN ps fr))
   unfold hol
   rw [setEl_twice hlt hrow,hq]
   exact this
def gset_S (rgV:LLR→Int) (nmOk:ByteArray→Bool) (setO:LLR→Int→ByteArray→Int→Bool→Int→Int→Int→Int→LLR→LLR) (setE:LLR→Int→ByteArray→Int→Bool→Int→Int→Int→Int→LLR→Int) (p1R:List AV→Bool) (p2R:List AV→Bool) (p3R:List AV→Bool) (p4R:List AV→Bool) (p5R:List AV→Bool) (exK:Int→Bool) (nrm:Int→Int→Int→Int→Int × Int × Int × Int) (vld:Int→Int→Int→Int→Bool) (isN:Int→Int→Int→Int→Bool) (pdV:Int→Int→Bool→Int→Int→Int→Int→LLR→Bool) (nonP:Int→Int→Int→Int→Bool) (iL:Int→ByteArray) (inLo:Int→Int) (inHi:Int→Int) (inD:Int→Int) (inE:Int→Int):Prop:=∀ (g h:Bool) (l bs:List (List AV)) (k fr f a b c:Int) (cl:Bool) (nm:ByteArray),StsP l∧RdsP bs∧bs.length≤1000→fnK Tryz.prog { glob:=glb,spec:=lk [(28,(gvalidR_s rgV p1R p2R p3R p4R p5R)),(45,(gexists_s exK)),(56,(gname_s nmOk)),(57,(gvalidP_s nrm vld isN pdV nonP iL inLo inHi inD inE)),(59,cloRd_s)],specH:=lk [(60,sinS_s),(62,sinP_s),(58,(gcop_s (Go.Proofs.YtldiagnbagpliaaGreatDoor.stN l nm))),(47,(gstB_s l (Go.Proofs.YtldiagnbagpliaaGreatDoor.stN l nm))),(61,gperB_s)],shape:=[77,84,94,106,114],slz:=[(84,[1040007]),(94,[1040007]),(106,[1040007]),(114,[1040007])],nowf:=true,bst:=[59] } { nt:=119,drop:=drp [(1,393216),(2,524288),(3,6291456),(4,117440512),(5,134217728),(6,3758096384),(7,4294967296),(8,257698037760),(9,274877906944),(10,1649267441664),(11,32985348833280),(12,2216615441596416),(13,2251799813685248),(14,63050394783186944),(15,144115188075855872),(16,590007579982553939968),(17,590295810358705651712),(18,17708874310761169551360),(19,585573443875836006498304),(20,1208925819614629174706176),(21,1235522187646151016549711872),(22,2534063260417173422718507286528),(23,5070602400912917605986812821504),(24,1287933009831881071920650456662016),(25,163557351043847070298710634370433024),(26,166153499473114484112975882535043072),(27,332306998946228968225951765070086144)],act:=fun id=>cond (Nat.beq id 16||Nat.beq id 27) [.frz 1040,.cls 40] [] } (fun _ _=>none) 6 Tryz.f26 [.agg [.sl 3 g l],.int .i64 k,.str nm,.agg [.int .i64 fr,.bool cl,.int .i64 f,.int .i64 a,.int .i64 b,.int .i64 c,.sl 2 h bs]] (.tup [.agg [.sl 3 false (setO l k nm fr cl f a b c bs)],.int .i64 (setE l k nm fr cl f a b c bs)])
theorem gset_e (rgV:LLR→Int) (nmOk:ByteArray→Bool) (setO:LLR→Int→ByteArray→Int→Bool→Int→Int→Int→Int→LLR→LLR) (setE:LLR→Int→ByteArray→Int→Bool→Int→Int→Int→Int→LLR→Int) (p1R:List AV→Bool) (p2R:List AV→Bool) (p3R:List AV→Bool) (p4R:List AV→Bool) (p5R:List AV→Bool) (exK:Int→Bool) (nrm:Int→Int→Int→Int→Int × Int × Int × Int) (vld:Int→Int→Int→Int→Bool) (isN:Int→Int→Int→Int→Bool) (pdV:Int→Int→Bool→Int→Int→Int→Int→LLR→Bool) (nonP:Int→Int→Int→Int→Bool) (iL:Int→ByteArray) (inLo:Int→Int) (inHi:Int→Int) (inD:Int→Int) (inE:Int→Int):gset_T rgV nmOk setO setE p1R p2R p3R p4R p5R exK nrm vld isN pdV nonP iL inLo inHi inD inE=gset_S rgV nmOk setO setE p1R p2R p3R p4R p5R exK nrm vld isN pdV nonP iL inLo inHi inD inE:=by kernel_rfl
theorem gset_v:gset_S rgV nmOk setO setE p1R p2R p3R p4R p5R exK nrm vld isN pdV nonP iL inLo inHi inD inE:=Eq.mp (gset_e ..) (gset_P)
theorem gset_ok:SOK Tryz.prog glb 26 gset_s:=by
 refine ⟨fok Tryz.func26 (by kernel_rfl) (by kernel_rfl),?_⟩
 intro xs pre r h hp
 unfold gset_s at h
 split at h
 ·rename_i g l k nm fr cl f a b c hh bs
  simp only [Option.some.injEq,Prod.mk.injEq] at h
  obtain ⟨h1,h2⟩:=h
  subst h1 h2
  exact fnK_sound tyNil (by exact specOK rfl rfl ⟨gvalidR_ok,gexists_ok glb,gname_ok glb,gvalidP_ok,cloRd_ok glb,trivial⟩ ⟨sinS_ok glb,sinP_ok glb,gcop_ok (stN l nm) glb,gstB_ok l (stN l nm) glb,gperB_ok glb,trivial⟩) (by kernel_rfl) Tryz.func26 rfl (gset_v _ _ _ _ _ _ _ _ _ _ _ _ hp)
 ·cases h
end Go.Proofs.YtldiagnbagpliaaGreatDoor
namespace Go.Proofs.YtldiagnbagpliaaGreatDoor
open Go
set_option linter.unusedVariables false
set_option linter.unusedSimpArgs false
def awN:ByteArray:=⟨#[(48:UInt8),(49:UInt8),(50:UInt8),(51:UInt8),(52:UInt8)]⟩
def awP1:List AV:=pdA 0 false 0 840 0 0 [[.int .i64 1,.int .i64 3]]
def awP2:List AV:=pdA 1000 false 0 0 840 0 []
def awL1:LLR:=[stA 1 awN [awP1]]
def awL2:LLR:=[stA 1 awN [awP1,awP2]]
theorem aw_e1:setO [] 1 ⟨#[(48:UInt8),(49:UInt8),(50:UInt8),(51:UInt8),(52:UInt8)]⟩ 0 false 0 840 0 0 [[.int .i64 1,.int .i64 3]]=awL1:=by kernel_rfl
theorem aw_e2:setO awL1 1 ⟨#[(48:UInt8),(49:UInt8),(50:UInt8),(51:UInt8),(52:UInt8)]⟩ 1000 false 0 0 840 0 []=awL2:=by kernel_rfl
theorem rds_lit1 {e v:Int} (h:rng .i64 e) (h2:rng .i64 v):RdsP [[.int .i64 e,.int .i64 v]]:=rds_add rdsP_nil h h2 (by simp)
theorem aw_s1:StsP awL1:=⟨fun i hi=>by
 have hi:i=0:=by simp [awL1] at hi; exact hi
 subst hi
 refine ⟨1,awN,[awP1],rfl,fun j hj=>?_,by simp⟩
 have hj:j=0:=by simpa using hj
 subst hj
 exact ⟨0,false,0,840,0,0,_,rfl,rds_lit1 (by decide) (by decide),by decide⟩,by simp [awL1]⟩
theorem aw_s2:StsP awL2:=⟨fun i hi=>by
 have hi:i=0:=by simp [awL2] at hi; exact hi
 subst hi
 refine ⟨1,awN,[awP1,awP2],rfl,fun j hj=>?_,by simp⟩
 have hj:j=0∨j=1:=by simp at hj; omega
 rcases hj with rfl | rfl
 ·exact ⟨0,false,0,840,0,0,_,rfl,rds_lit1 (by decide) (by decide),by decide⟩
 ·exact ⟨1000,false,0,0,840,0,_,rfl,rdsP_nil,by decide⟩,by simp [awL2]⟩
theorem sts_nil:StsP []:=⟨fun i h=>by simp at h,by simp⟩
def lawake_s (apE:LLR→Int→ByteArray→Int→Int→Int→Int→Int→LLR→Int) (apX:Nat→LLR→Int→ByteArray→Int→Int→Int) (apP:LLR→ByteArray→Int→List AV) (zI:Int→Int→Int) (zS:Int→LLR→LLR) (unb:LLR→LLR→LLR) (pB:List AV→LLR):Sp
 | []=>some (True,.bool true)
 | _=>none
def lawake_T (apE:LLR→Int→ByteArray→Int→Int→Int→Int→Int→LLR→Int) (apX:Nat→LLR→Int→ByteArray→Int→Int→Int) (apP:LLR→ByteArray→Int→List AV) (zI:Int→Int→Int) (zS:Int→LLR→LLR) (unb:LLR→LLR→LLR) (pB:List AV→LLR) (rgV:LLR→Int) (stN:LLR→ByteArray→Nat) (stH:LLR→ByteArray→Bool) (pI:Nat→List AV→Int) (pC:List AV→Bool) (atR:LLR→Int→List AV) (atB:LLR→Int→Bool) (exK:Int→Bool) (vdE:LLR→Int) (isN:Int→Int→Int→Int→Bool) (zN:Int→ByteArray→ByteArray):Prop :=
  (StsP []∧RdsP [[AV.int .i64 (1:Int),.int .i64 (3:Int)]]∧(1:Nat)≤(1000:Nat))∧(StsP (setO [] (1:Int) { data:=#[(48:UInt8),(49:UInt8),(50:UInt8),(51:UInt8),(52:UInt8)] } (0:Int) false (0:Int) (840:Int) (0:Int) (0:Int) [[AV.int .i64 (1:Int),.int .i64 (3:Int)]])∧RdsP []∧(0:Nat)≤(1000:Nat))∧(StsP (setO (setO [] (1:Int) { data:=#[(48:UInt8),(49:UInt8),(50:UInt8),(51:UInt8),(52 :
 UInt8)] } (0:Int) false (0:Int) (840:Int) (0:Int) (0:Int) [[AV.int .i64 (1:Int),.int .i64 (3:Int)]]) (1:Int) { data:=#[(48:UInt8),(49:UInt8),(50:UInt8),(51:UInt8),(52:UInt8)] } (1000:Int) false (0:Int) (0:Int) (840:Int) (0:Int) [])∧RdsP [[AV.int .i64 (1:Int),.int .i64 (10132:Int)]]∧(1:Nat)≤(1000:Nat))∧(StsP (setO (setO [] (1:Int) { data:=#[(48:UInt8),(49:UInt8),(50:UInt8),(51
:UInt8),(52:UInt8)] } (0:Int) false (0:Int) (840:Int) (0:Int) (0:Int) [[AV.int .i64 (1:Int),.int .i64 (3:Int)]]) (1:Int) { data:=#[(48:UInt8),(49:UInt8),(50:UInt8),(51:UInt8),(52:UInt8)] } (1000:Int) false (0:Int) (0:Int) (840:Int) (0:Int) [])∧RdsP [[AV.int .i64 (1:Int),.int .i64 (10132:Int)]]∧(1:Nat)≤(1000:Nat))∧bif decide (apE (setO (setO [] (1:Int) { data:=#[(48:UInt8),(49 :
 UInt8),(50:UInt8),(51:UInt8),(52:UInt8)] } (0:Int) false (0:Int) (840:Int) (0:Int) (0:Int) [[AV.int .i64 (1:Int),.int .i64 (3:Int)]]) (1:Int) { data:=#[(48:UInt8),(49:UInt8),(50:UInt8),(51:UInt8),(52:UInt8)] } (1000:Int) false (0:Int) (0:Int) (840:Int) (0:Int) []) (1:Int) { data:=#[(48:UInt8),(49:UInt8),(50:UInt8),(51:UInt8),(52:UInt8)] } (999:Int) (0:Int) (0:Int)
 (0:Int) (0:Int) [[AV.int .i64 (1:Int),.int .i64 (10132:Int)]]=(0:Int)) then bif decide (apE (setO (setO [] (1:Int) { data:=#[(48:UInt8),(49:UInt8),(50:UInt8),(51:UInt8),(52:UInt8)] } (0:Int) false (0:Int) (840:Int) (0:Int) (0:Int) [[AV.int .i64 (1:Int),.int .i64 (3:Int)]]) (1:Int) { data:=#[(48:UInt8),(49:UInt8),(50:UInt8),(51:UInt8),(52:UInt8)] } (1000:Int) false (0:Int)
 (0:Int) (840:Int) (0:Int) []) (1:Int) { data:=#[(48:UInt8),(49:UInt8),(50:UInt8),(51:UInt8),(52:UInt8)] } (1000:Int) (0:Int) (0:Int) (0:Int) (0:Int) [[AV.int .i64 (1:Int),.int .i64 (10132:Int)]]=(0:Int)) then bif decide (zI (apE (setO (setO [] (1:Int) { data:=#[(48:UInt8),(49:UInt8),(50:UInt8),(51:UInt8),(52:UInt8)] } (0:Int) false (0:Int) (840:Int) (0:Int) (0:Int) [[AV.int
 .i64 (1:Int),.int .i64 (3:Int)]]) (1:Int) { data:=#[(48:UInt8),(49:UInt8),(50:UInt8),(51:UInt8),(52:UInt8)] } (1000:Int) false (0:Int) (0:Int) (840:Int) (0:Int) []) (1:Int) { data:=#[(48:UInt8),(49:UInt8),(50:UInt8),(51:UInt8),(52:UInt8)] } (999:Int) (0:Int) (0:Int) (0:Int) (0:Int) [[AV.int .i64 (1:Int),.int .i64 (10132:Int)]]) (apX (2:Nat) (setO (setO [] (1:Int) { data :=
 #[(48:UInt8),(49:UInt8),(50:UInt8),(51:UInt8),(52:UInt8)] } (0:Int) false (0:Int) (840:Int) (0:Int) (0:Int) [[AV.int .i64 (1:Int),.int .i64 (3:Int)]]) (1:Int) { data:=#[(48:UInt8),(49:UInt8),(50:UInt8),(51:UInt8),(52:UInt8)] } (1000:Int) false (0:Int) (0:Int) (840:Int) (0:Int) []) (1:Int) { data:=#[(48:UInt8),(49:UInt8),(50:UInt8),(51:UInt8),(52:UInt8)] } (999:Int)
 (0:Int))=(0:Int))&&(decide (zI (apE (setO (setO [] (1:Int) { data:=#[(48:UInt8),(49:UInt8),(50:UInt8),(51:UInt8),(52:UInt8)] } (0:Int) false (0:Int) (840:Int) (0:Int) (0:Int) [[AV.int .i64 (1:Int),.int .i64 (3:Int)]]) (1:Int) { data:=#[(48:UInt8),(49:UInt8),(50:UInt8),(51:UInt8),(52:UInt8)] } (1000:Int) false (0:Int) (0:Int) (840:Int) (0:Int) []) (1:Int) { data:=#[(48 :
 UInt8),(49:UInt8),(50:UInt8),(51:UInt8),(52:UInt8)] } (999:Int) (0:Int) (0:Int) (0:Int) (0:Int) [[AV.int .i64 (1:Int),.int .i64 (10132:Int)]]) (apX (3:Nat) (setO (setO [] (1:Int) { data:=#[(48:UInt8),(49:UInt8),(50:UInt8),(51:UInt8),(52:UInt8)] } (0:Int) false (0:Int) (840:Int) (0:Int) (0:Int) [[AV.int .i64 (1:Int),.int .i64 (3:Int)]]) (1:Int) { data:=#[(48:UInt8),(49 :
 UInt8),(50:UInt8),(51:UInt8),(52:UInt8)] } (1000:Int) false (0:Int) (0:Int) (840:Int) (0:Int) []) (1:Int) { data:=#[(48:UInt8),(49:UInt8),(50:UInt8),(51:UInt8),(52:UInt8)] } (999:Int) (0:Int))=(840:Int))&&(decide (zI (apE (setO (setO [] (1:Int) { data:=#[(48:UInt8),(49:UInt8),(50:UInt8),(51:UInt8),(52:UInt8)] } (0:Int) false (0:Int) (840:Int) (0:Int) (0:Int) [[AV.int
 .i64 (1:Int),.int .i64 (3:Int)]]) (1:Int) { data:=#[(48:UInt8),(49:UInt8),(50:UInt8),(51:UInt8),(52:UInt8)] } (1000:Int) false (0:Int) (0:Int) (840:Int) (0:Int) []) (1:Int) { data:=#[(48:UInt8),(49:UInt8),(50:UInt8),(51:UInt8),(52:UInt8)] } (999:Int) (0:Int) (0:Int) (0:Int) (0:Int) [[AV.int .i64 (1:Int),.int .i64 (10132:Int)]]) (apX (4:Nat) (setO (setO [] (1:Int) { data :=
 #[(48:UInt8),(49:UInt8),(50:UInt8),(51:UInt8),(52:UInt8)] } (0:Int) false (0:Int) (840:Int) (0:Int) (0:Int) [[AV.int .i64 (1:Int),.int .i64 (3:Int)]]) (1:Int) { data:=#[(48:UInt8),(49:UInt8),(50:UInt8),(51:UInt8),(52:UInt8)] } (1000:Int) false (0:Int) (0:Int) (840:Int) (0:Int) []) (1:Int) { data:=#[(48:UInt8),(49:UInt8),(50:UInt8),(51:UInt8),(52:UInt8)] } (999:Int)
 (0:Int))=(0:Int))&&(decide (zI (apE (setO (setO [] (1:Int) { data:=#[(48:UInt8),(49:UInt8),(50:UInt8),(51:UInt8),(52:UInt8)] } (0:Int) false (0:Int) (840:Int) (0:Int) (0:Int) [[AV.int .i64 (1:Int),.int .i64 (3:Int)]]) (1:Int) { data:=#[(48:UInt8),(49:UInt8),(50:UInt8),(51:UInt8),(52:UInt8)] } (1000:Int) false (0:Int) (0:Int) (840:Int) (0:Int) []) (1:Int) { data:=#[(48 :
 UInt8),(49:UInt8),(50:UInt8),(51:UInt8),(52:UInt8)] } (999:Int) (0:Int) (0:Int) (0:Int) (0:Int) [[AV.int .i64 (1:Int),.int .i64 (10132:Int)]]) (apX (5:Nat) (setO (setO [] (1:Int) { data:=#[(48:UInt8),(49:UInt8),(50:UInt8),(51:UInt8),(52:UInt8)] } (0:Int) false (0:Int) (840:Int) (0:Int) (0:Int) [[AV.int .i64 (1:Int),.int .i64 (3:Int)]]) (1:Int) { data:=#[(48:UInt8),(49 :
 UInt8),(50:UInt8),(51:UInt8),(52:UInt8)] } (1000:Int) false (0:Int) (0:Int) (840:Int) (0:Int) []) (1:Int) { data:=#[(48:UInt8),(49:UInt8),(50:UInt8),(51:UInt8),(52:UInt8)] } (999:Int) (0:Int))=(0:Int))&&true))) then bif decide ((0:Int)≤(0:Int)∧(0:Int) < (↑(List.length (zS (apE (setO (setO [] (1:Int) { data:=#[(48:UInt8),(49:UInt8),(50:UInt8),(51:UInt8),(52:UInt8)]
 } (0:Int) false (0:Int) (840:Int) (0:Int) (0:Int) [[AV.int .i64 (1:Int),.int .i64 (3:Int)]]) (1:Int) { data:=#[(48:UInt8),(49:UInt8),(50:UInt8),(51:UInt8),(52:UInt8)] } (1000:Int) false (0:Int) (0:Int) (840:Int) (0:Int) []) (1:Int) { data:=#[(48:UInt8),(49:UInt8),(50:UInt8),(51:UInt8),(52:UInt8)] } (999:Int) (0:Int) (0:Int) (0:Int) (0:Int) [[AV.int .i64 (1:Int),.int .i64
 (10132:Int)]]) (unb [[AV.int .i64 (1:Int),.int .i64 (10132:Int)]] (pB (apP (setO (setO [] (1:Int) { data:=#[(48:UInt8),(49:UInt8),(50:UInt8),(51:UInt8),(52:UInt8)] } (0:Int) false (0:Int) (840:Int) (0:Int) (0:Int) [[AV.int .i64 (1:Int),.int .i64 (3:Int)]]) (1:Int) { data:=#[(48:UInt8),(49:UInt8),(50:UInt8),(51:UInt8),(52:UInt8)] } (1000:Int) false (0:Int) (0:Int) (840:Int)
 (0:Int) []) { data:=#[(48:UInt8),(49:UInt8),(50:UInt8),(51:UInt8),(52:UInt8)] } (999:Int)))))):Int)) then ∃ n,List.take [AV.int .i64 n].length (List.drop (1:Nat) (List.getD (zS (apE (setO (setO [] (1:Int) { data:=#[(48:UInt8),(49:UInt8),(50:UInt8),(51:UInt8),(52:UInt8)] } (0:Int) false (0:Int) (840:Int) (0:Int) (0:Int) [[AV.int .i64 (1:Int),.int .i64 (3:Int)]]) (1:Int) {
 data:=#[(48:UInt8),(49:UInt8),(50:UInt8),(51:UInt8),(52:UInt8)] } (1000:Int) false (0:Int) (0:Int) (840:Int) (0:Int) []) (1:Int) { data:=#[(48:UInt8),(49:UInt8),(50:UInt8),(51:UInt8),(52:UInt8)] } (999:Int) (0:Int) (0:Int) (0:Int) (0:Int) [[AV.int .i64 (1:Int),.int .i64 (10132:Int)]]) (unb [[AV.int .i64 (1:Int),.int .i64 (10132:Int)]] (pB (apP (setO (setO [] (1:Int) { data
:=#[(48:UInt8),(49:UInt8),(50:UInt8),(51:UInt8),(52:UInt8)] } (0:Int) false (0:Int) (840:Int) (0:Int) (0:Int) [[AV.int .i64 (1:Int),.int .i64 (3:Int)]]) (1:Int) { data:=#[(48:UInt8),(49:UInt8),(50:UInt8),(51:UInt8),(52:UInt8)] } (1000:Int) false (0:Int) (0:Int) (840:Int) (0:Int) []) { data:=#[(48:UInt8),(49:UInt8),(50:UInt8),(51:UInt8),(52:UInt8)] } (999:Int)))))
 (0:Nat) []))=[AV.int .i64 n]∧bif decide (n=(10129:Int)) then bif decide (zI (apE (setO (setO [] (1:Int) { data:=#[(48:UInt8),(49:UInt8),(50:UInt8),(51:UInt8),(52:UInt8)] } (0:Int) false (0:Int) (840:Int) (0:Int) (0:Int) [[AV.int .i64 (1:Int),.int .i64 (3:Int)]]) (1:Int) { data:=#[(48:UInt8),(49:UInt8),(50:UInt8),(51:UInt8),(52:UInt8)] } (1000:Int) false (0:Int) (0:Int)
 (840:Int) (0:Int) []) (1:Int) { data:=#[(48:UInt8),(49:UInt8),(50:UInt8),(51:UInt8),(52:UInt8)] } (1000:Int) (0:Int) (0:Int) (0:Int) (0:Int) [[AV.int .i64 (1:Int),.int .i64 (10132:Int)]]) (apX (2:Nat) (setO (setO [] (1:Int) { data:=#[(48:UInt8),(49:UInt8),(50:UInt8),(51:UInt8),(52:UInt8)] } (0:Int) false (0:Int) (840:Int) (0:Int) (0:Int) [[AV.int .i64 (1:Int),.int .i64
 (3:Int)]]) (1:Int) { data:=#[(48:UInt8),(49:UInt8),(50:UInt8),(51:UInt8),(52:UInt8)] } (1000:Int) false (0:Int) (0:Int) (840:Int) (0:Int) []) (1:Int) { data:=#[(48:UInt8),(49:UInt8),(50:UInt8),(51:UInt8),(52:UInt8)] } (1000:Int) (0:Int))=(0:Int))&&(decide (zI (apE (setO (setO [] (1:Int) { data:=#[(48:UInt8),(49:UInt8),(50:UInt8),(51:UInt8),(52:UInt8)] } (0:Int)
 false (0:Int) (840:Int) (0:Int) (0:Int) [[AV.int .i64 (1:Int),.int .i64 (3:Int)]]) (1:Int) { data:=#[(48:UInt8),(49:UInt8),(50:UInt8),(51:UInt8),(52:UInt8)] } (1000:Int) false (0:Int) (0:Int) (840:Int) (0:Int) []) (1:Int) { data:=#[(48:UInt8),(49:UInt8),(50:UInt8),(51:UInt8),(52:UInt8)] } (1000:Int) (0:Int) (0:Int) (0:Int) (0:Int) [[AV.int .i64 (1:Int),.int .i64
 (10132:Int)]]) (apX (3:Nat) (setO (setO [] (1:Int) { data:=#[(48:UInt8),(49:UInt8),(50:UInt8),(51:UInt8),(52:UInt8)] } (0:Int) false (0:Int) (840:Int) (0:Int) (0:Int) [[AV.int .i64 (1:Int),.int .i64 (3:Int)]]) (1:Int) { data:=#[(48:UInt8),(49:UInt8),(50:UInt8),(51:UInt8),(52:UInt8)] } (1000:Int) false (0:Int) (0:Int) (840:Int) (0:Int) []) (1:Int) { data:=#[(48:UInt8),(49
:UInt8),(50:UInt8),(51:UInt8),(52:UInt8)] } (1000:Int) (0:Int))=(0:Int))&&(decide (zI (apE (setO (setO [] (1:Int) { data:=#[(48:UInt8),(49:UInt8),(50:UInt8),(51:UInt8),(52:UInt8)] } (0:Int) false (0:Int) (840:Int) (0:Int) (0:Int) [[AV.int .i64 (1:Int),.int .i64 (3:Int)]]) (1:Int) { data:=#[(48:UInt8),(49:UInt8),(50:UInt8),(51:UInt8),(52:UInt8)] } (1000:Int) false
 (0:Int) (0:Int) (840:Int) (0:Int) []) (1:Int) { data:=#[(48:UInt8),(49:UInt8),(50:UInt8),(51:UInt8),(52:UInt8)] } (1000:Int) (0:Int) (0:Int) (0:Int) (0:Int) [[AV.int .i64 (1:Int),.int .i64 (10132:Int)]]) (apX (4:Nat) (setO (setO [] (1:Int) { data:=#[(48:UInt8),(49:UInt8),(50:UInt8),(51:UInt8),(52:UInt8)] } (0:Int) false (0:Int) (840:Int) (0:Int) (0:Int) [[AV.int .i64
 (1:Int),.int .i64 (3:Int)]]) (1:Int) { data:=#[(48:UInt8),(49:UInt8),(50:UInt8),(51:UInt8),(52:UInt8)] } (1000:Int) false (0:Int) (0:Int) (840:Int) (0:Int) []) (1:Int) { data:=#[(48:UInt8),(49:UInt8),(50:UInt8),(51:UInt8),(52:UInt8)] } (1000:Int) (0:Int))=(840:Int))&&(decide (zI (apE (setO (setO [] (1:Int) { data:=#[(48:UInt8),(49:UInt8),(50:UInt8),(51:UInt8),(52
:UInt8)] } (0:Int) false (0:Int) (840:Int) (0:Int) (0:Int) [[AV.int .i64 (1:Int),.int .i64 (3:Int)]]) (1:Int) { data:=#[(48:UInt8),(49:UInt8),(50:UInt8),(51:UInt8),(52:UInt8)] } (1000:Int) false (0:Int) (0:Int) (840:Int) (0:Int) []) (1:Int) { data:=#[(48:UInt8),(49:UInt8),(50:UInt8),(51:UInt8),(52:UInt8)] } (1000:Int) (0:Int) (0:Int) (0:Int) (0:Int) [[AV.int .i64
 (1:Int),.int .i64 (10132:Int)]]) (apX (5:Nat) (setO (setO [] (1:Int) { data:=#[(48:UInt8),(49:UInt8),(50:UInt8),(51:UInt8),(52:UInt8)] } (0:Int) false (0:Int) (840:Int) (0:Int) (0:Int) [[AV.int .i64 (1:Int),.int .i64 (3:Int)]]) (1:Int) { data:=#[(48:UInt8),(49:UInt8),(50:UInt8),(51:UInt8),(52:UInt8)] } (1000:Int) false (0:Int) (0:Int) (840:Int) (0:Int) []) (1:Int) { data :=
 #[(48:UInt8),(49:UInt8),(50:UInt8),(51:UInt8),(52:UInt8)] } (1000:Int) (0:Int))=(0:Int))&&true))) then bif decide ((0:Int)≤(0:Int)∧(0:Int) < (↑(List.length (zS (apE (setO (setO [] (1:Int) { data:=#[(48:UInt8),(49:UInt8),(50:UInt8),(51:UInt8),(52:UInt8)] } (0:Int) false (0:Int) (840:Int) (0:Int) (0:Int) [[AV.int .i64 (1:Int),.int .i64 (3:Int)]]) (1:Int) { data:=#[(48 :
 UInt8),(49:UInt8),(50:UInt8),(51:UInt8),(52:UInt8)] } (1000:Int) false (0:Int) (0:Int) (840:Int) (0:Int) []) (1:Int) { data:=#[(48:UInt8),(49:UInt8),(50:UInt8),(51:UInt8),(52:UInt8)] } (1000:Int) (0:Int) (0:Int) (0:Int) (0:Int) [[AV.int .i64 (1:Int),.int .i64 (10132:Int)]]) (unb [[AV.int .i64 (1:Int),.int .i64 (10132:Int)]] (pB (apP (setO (setO [] (1:Int) { data:=#[(48 :
 UInt8),(49:UInt8),(50:UInt8),(51:UInt8),(52:UInt8)] } (0:Int) false (0:Int) (840:Int) (0:Int) (0:Int) [[AV.int .i64 (1:Int),.int .i64 (3:Int)]]) (1:Int) { data:=#[(48:UInt8),(49:UInt8),(50:UInt8),(51:UInt8),(52:UInt8)] } (1000:Int) false (0:Int) (0:Int) (840:Int) (0:Int) []) { data:=#[(48:UInt8),(49:UInt8),(50:UInt8),(51:UInt8),(52:UInt8)] } (1000:Int)))))):Int))
 then ∃ n,List.take [AV.int .i64 n].length (List.drop (1:Nat) (List.getD (zS (apE (setO (setO [] (1:Int) { data:=#[(48:UInt8),(49:UInt8),(50:UInt8),(51:UInt8),(52:UInt8)] } (0:Int) false (0:Int) (840:Int) (0:Int) (0:Int) [[AV.int .i64 (1:Int),.int .i64 (3:Int)]]) (1:Int) { data:=#[(48:UInt8),(49:UInt8),(50:UInt8),(51:UInt8),(52:UInt8)] } (1000:Int) false (0:Int) (0:Int)
 (840:Int) (0:Int) []) (1:Int) { data:=#[(48:UInt8),(49:UInt8),(50:UInt8),(51:UInt8),(52:UInt8)] } (1000:Int) (0:Int) (0:Int) (0:Int) (0:Int) [[AV.int .i64 (1:Int),.int .i64 (10132:Int)]]) (unb [[AV.int .i64 (1:Int),.int .i64 (10132:Int)]] (pB (apP (setO (setO [] (1:Int) { data:=#[(48:UInt8),(49:UInt8),(50:UInt8),(51:UInt8),(52:UInt8)] } (0:Int) false (0:Int) (840:Int)
 (0:Int) (0:Int) [[AV.int .i64 (1:Int),.int .i64 (3:Int)]]) (1:Int) { data:=#[(48:UInt8),(49:UInt8),(50:UInt8),(51:UInt8),(52:UInt8)] } (1000:Int) false (0:Int) (0:Int) (840:Int) (0:Int) []) { data:=#[(48:UInt8),(49:UInt8),(50:UInt8),(51:UInt8),(52:UInt8)] } (1000:Int))))) (0:Nat) []))=[AV.int .i64 n]∧decide (n=(10132:Int))=true else False else false=true else false=true else
 False else false=true else false=true else false=true
theorem lawake_P:lawake_T apE apX apP zI zS unb pB rgV stN stH pI pC atR atB exK vdE isN zN:=by
 unfold lawake_T
 rw [aw_e1,aw_e2]
 exact ⟨⟨sts_nil,rds_lit1 (by decide) (by decide),by decide⟩,⟨aw_s1,rdsP_nil,by decide⟩,⟨aw_s2,rds_lit1 (by decide) (by decide),by decide⟩,⟨aw_s2,rds_lit1 (by decide) (by decide),by decide⟩,
  c1 (by kernel_rfl) (c1 (by kernel_rfl) (c1 (by kernel_rfl) (c1 (by kernel_rfl) ⟨10129,by kernel_rfl,c1 (by kernel_rfl) (c1 (by kernel_rfl) (c1 (by kernel_rfl) ⟨10132,by kernel_rfl,by kernel_rfl⟩))⟩)))⟩
def lawake_S (apE:LLR→Int→ByteArray→Int→Int→Int→Int→Int→LLR→Int) (apX:Nat→LLR→Int→ByteArray→Int→Int→Int) (apP:LLR→ByteArray→Int→List AV) (zI:Int→Int→Int) (zS:Int→LLR→LLR) (unb:LLR→LLR→LLR) (pB:List AV→LLR) (rgV:LLR→Int) (stN:LLR→ByteArray→Nat) (stH:LLR→ByteArray→Bool) (pI:Nat→List AV→Int) (pC:List AV→Bool) (atR:LLR→Int→List AV) (atB:LLR→Int→Bool) (exK:Int→Bool) (vdE:LLR→Int) (isN:Int→Int→Int→Int→Bool) (zN:Int→ByteArray→ByteArray):Prop:=fnK Tryz.prog { glob:=glb,spec:=lk [(26,gset_s),(16,(gApply_s rgV stN stH pI pC pB atR atB exK vdE isN unb zI zN zS apE apX apP))],specH:=lk [],shape:=[66,80],nowf:=true,nls:=[(24,0,3),(49,6,2)],bst:=[49,29] } { nt:=83,drop:=drp [(1,261632),(2,33292288),(3,234881024),(4,16911433728),(5,17179869184),(6,2164663517184),(7,9671406556914834374393856)],tys:=[26] } (fun _ _=>none) 6 Tryz.f9 [] (.bool true)
theorem lawake_e (apE:LLR→Int→ByteArray→Int→Int→Int→Int→Int→LLR→Int) (apX:Nat→LLR→Int→ByteArray→Int→Int→Int) (apP:LLR→ByteArray→Int→List AV) (zI:Int→Int→Int) (zS:Int→LLR→LLR) (unb:LLR→LLR→LLR) (pB:List AV→LLR) (rgV:LLR→Int) (stN:LLR→ByteArray→Nat) (stH:LLR→ByteArray→Bool) (pI:Nat→List AV→Int) (pC:List AV→Bool) (atR:LLR→Int→List AV) (atB:LLR→Int→Bool) (exK:Int→Bool) (vdE:LLR→Int) (isN:Int→Int→Int→Int→Bool) (zN:Int→ByteArray→ByteArray):lawake_T apE apX apP zI zS unb pB rgV stN stH pI pC atR atB exK vdE isN zN=lawake_S apE apX apP zI zS unb pB rgV stN stH pI pC atR atB exK vdE isN zN:=by kernel_rfl
theorem lawake_v:lawake_S apE apX apP zI zS unb pB rgV stN stH pI pC atR atB exK vdE isN zN:=Eq.mp (lawake_e ..) (lawake_P)
theorem lawake_ok:SOK Tryz.prog glb 9 (lawake_s apE apX apP zI zS unb pB):=by
 refine ⟨fok Tryz.func9 (by kernel_rfl) (by kernel_rfl),?_⟩
 intro xs pre r h hp
 unfold lawake_s at h
 split at h
 ·simp only [Option.some.injEq,Prod.mk.injEq] at h
  obtain ⟨h1,h2⟩:=h
  subst h1 h2
  exact fnK_sound (tyOf (by kernel_rfl)) (by exact specOK rfl rfl ⟨(gset_ok),(gApply_ok),trivial⟩ trivial) (by kernel_rfl) Tryz.func9 rfl (lawake_v  )
 ·cases h
end Go.Proofs.YtldiagnbagpliaaGreatDoor
namespace Go.Proofs.YtldiagnbagpliaaGreatDoor
open Go
set_option linter.unusedVariables false
set_option linter.unusedSimpArgs false
structure RfdP (code:Int) (xs:List (List AV)) (i:Int):Prop where
 flo:0≤i
 fhi:i≤xs.length
 fno:∀ j:Nat,(j:Int) < i→cdP code (xs.getD j [])=false
theorem StsW.p {l:LLR} {q m:Nat} (h:StsW l q m) (hm:m≤1000000):StsP l:=⟨fun i hi=>by obtain ⟨k,nm,ps,hr,hp,_⟩:=h.fr i hi; exact ⟨k,nm,ps,hr,hp⟩,Nat.le_trans h.fl hm⟩
theorem RdV.p {ys:LLR} (h:RdV 12 ys):RdsP ys∧ys.length≤11:=by
 have hl:=h.flen
 refine ⟨⟨fun i hi=>?_,by omega⟩,by omega⟩
 obtain ⟨e,v,h1,h2,h3,h4⟩:=h.frow i hi
 have hb:=in_bd (c:=e) (by omega)
 refine ⟨e,v,h1,?_,?_⟩ <;> (show _∧_; omega)
theorem ap_bias {l:LLR} (hl:StsP l) (n:ByteArray) (t:Int):RdsP (pB (apP l n t)):=by
 unfold apP
 split
 ·rename_i h
  obtain ⟨k,nm,ps,hr,hp⟩:=hl.fr (stN l n) (stH_lt h)
  rw [hr]
  exact at_bias hp
 ·exact rdsP_nil
structure CbP (c:Int):Prop where
 flo:1≤c
 fhi:c≤12
structure PfP (l:LLR) (k:Int) (nm:ByteArray) (t:Int) (x:Int × Bool × Int × Int × Int × Int × LLR):Prop where
 fb:x.2.2.2.2.2.2=pB (apP l nm t)
 fk:k=1→x.2.2.1=pI 2 (apP l nm t)∧x.2.2.2.1=pI 3 (apP l nm t)∧x.2.2.2.2.1=pI 4 (apP l nm t)∧x.2.2.2.2.2.1=pI 5 (apP l nm t)
structure OneU (x:Unit):Prop where
 fx:x=()
end Go.Proofs.YtldiagnbagpliaaGreatDoor
namespace Go.Proofs.YtldiagnbagpliaaGreatDoor
open Go
set_option linter.unusedVariables false
set_option linter.unusedSimpArgs false
def anT (p:List AV→Bool) (l:LLR) (i:Int):Bool:=(l.take i.toNat).any p
def ordT (l:LLR) (i:Int):Bool:=anT p5R l i||!(snO (l.take i.toNat))
def ordN (l:LLR) (i:Int):Bool:=anT p5R l i||!(snO (l.take (i+1).toNat))
def unT (ps:LLR) (q:Int):Bool:=!(ascB (ps.take q.toNat))
theorem anT_zero (p:List AV→Bool) (l:LLR):anT p l 0=false:=rfl
theorem anT_step (p:List AV→Bool) {l:LLR} {i:Int} (h0:0≤i) (h:i < l.length):anT p l (i+1)=(anT p l i||p (l.getD i.toNat [])):=by
 unfold anT
 have hi:i.toNat < l.length:=by omega
 rw [show (i+1).toNat=i.toNat+1 by omega,List.take_add_one,List.getElem?_eq_getElem hi,Option.toList_some,List.any_append,gD_lt hi]
 simp
theorem anT_all (p:List AV→Bool) {l:LLR} {i:Int} (h:¬ i < l.length):anT p l i=l.any p:=by
 unfold anT; rw [List.take_of_length_le (by omega)]
theorem take_gD {l:LLR} {n j:Nat} (h:j < n):(l.take n).getD j []=l.getD j []:=by
 rw [List.getD_eq_getElem?_getD,List.getD_eq_getElem?_getD,List.getElem?_take,if_pos h]
theorem pairT_step (R:List AV→List AV→Prop) [∀ a b,Decidable (R a b)] {l:LLR} {n:Nat} (h:n < l.length) :
  decide (∀ j,j < (l.take (n+1)).length→j=0∨R ((l.take (n+1)).getD (j - 1) []) ((l.take (n+1)).getD j []))=(decide (∀ j,j < (l.take n).length→j=0∨R ((l.take n).getD (j - 1) []) ((l.take n).getD j []))&&decide (n=0∨R (l.getD (n - 1) []) (l.getD n []))):=by
 have e1:(l.take (n+1)).length=n+1:=by rw [List.length_take]; omega
 have e2:(l.take n).length=n:=by rw [List.length_take]; omega
 rw [Bool.eq_iff_iff]
 simp only [decide_eq_true_eq,Bool.and_eq_true,e1,e2]
 constructor
 ·intro hh
  refine ⟨fun j hj=>?_,?_⟩
  ·have:=hh j (by omega)
   rwa [take_gD (by omega),take_gD (by omega)] at this ⊢
  ·have:=hh n (by omega)
   rwa [take_gD (by omega),take_gD (by omega)] at this
 ·rintro ⟨h1,h2⟩ j hj
  rw [take_gD (by omega),take_gD (by omega)]
  by_cases q:j=n
  ·subst q; exact h2
  ·have:=h1 j (by omega)
   rwa [take_gD (by omega),take_gD (by omega)] at this
theorem asc_step1 {ps:LLR} {n:Nat} (h:n < ps.length):ascB (ps.take (n+1))=(ascB (ps.take n)&&decide (n=0∨rE (ps.getD (n - 1) []) < rE (ps.getD n []))) :=
 pairT_step (fun a b=>rE a < rE b) h
theorem sn_step1 {l:LLR} {n:Nat} (h:n < l.length):snO (l.take (n+1))=(snO (l.take n)&&decide (n=0∨Op.bytesLess (sNm (l.getD (n - 1) [])).toList (sNm (l.getD n [])).toList=true)) :=
 pairT_step (fun a b=>Op.bytesLess (sNm a).toList (sNm b).toList=true) h
theorem unT_step {ps:LLR} {q:Int} (h0:0≤q) (h:q < ps.length):unT ps (q+1)=(unT ps q||(decide (0 < q)&&decide (rE (ps.getD q.toNat [])≤rE (ps.getD (q - 1).toNat [])))):=by
 unfold unT
 rw [show (q+1).toNat=q.toNat+1 by omega,asc_step1 (by omega),show (q - 1).toNat=q.toNat - 1 by omega,Bool.not_and]
 congr 1
 rw [Bool.eq_iff_iff]
 simp only [Bool.not_eq_true',decide_eq_false_iff_not,Bool.and_eq_true,decide_eq_true_eq,not_or]
 constructor
 ·rintro ⟨a,b⟩; exact ⟨by omega,by omega⟩
 ·rintro ⟨a,b⟩; exact ⟨by omega,by omega⟩
theorem ordN_step {l:LLR} {i:Int} (h0:0≤i) (h:i < l.length):ordN l i=(ordT l i||(decide (0 < i)&&!(Op.bytesLess (sNm (l.getD (i - 1).toNat [])).toList (sNm (l.getD i.toNat [])).toList))):=by
 unfold ordN ordT
 rw [show (i+1).toNat=i.toNat+1 by omega,sn_step1 (by omega),show (i - 1).toNat=i.toNat - 1 by omega,Bool.not_and,← Bool.or_assoc]
 congr 1
 rw [Bool.eq_iff_iff]
 simp only [Bool.not_eq_true',decide_eq_false_iff_not,Bool.and_eq_true,decide_eq_true_eq,not_or,Bool.not_eq_true]
 constructor
 ·rintro ⟨a,b⟩; exact ⟨by omega,b⟩
 ·rintro ⟨a,b⟩; exact ⟨by omega,b⟩
theorem ordT_step {l:LLR} {i:Int} (h0:0≤i) (h:i < l.length):ordT l (i+1)=(ordN l i||p5R (l.getD i.toNat [])):=by
 unfold ordT ordN
 rw [anT_step p5R h0 h]
 cases anT p5R l i <;> cases p5R (l.getD i.toNat []) <;> cases snO (l.take (i+1).toNat) <;> rfl
theorem anT_any {p:List AV→Bool} {l:LLR} {i:Int} (h:anT p l i=true):l.any p=true:=by
 obtain ⟨x,hx,hp⟩:=List.any_eq_true.1 h
 exact List.any_eq_true.2 ⟨x,List.mem_of_mem_take hx,hp⟩
theorem ordT_zero (l:LLR):ordT l 0=false:=by simp [ordT,anT,snO]
theorem unT_zero (ps:LLR):unT ps 0=false:=by simp [unT,ascB]
theorem unT_all {ps:LLR} {q:Int} (h:¬ q < ps.length):unT ps q=!(ascB ps):=by unfold unT; rw [List.take_of_length_le (by omega)]
theorem ordT_all {l:LLR} {i:Int} (h:¬ i < l.length):ordT l i=(l.any p5R||!(snO l)):=by unfold ordT; rw [anT_all _ h,List.take_of_length_le (by omega)]
theorem rg_two {l:LLR} {i:Int} (h:(decide (60 < (l.length:Int))||anT p1R l i)=true):2=rgV l:=by
 unfold rgV
 rw [if_pos]
 rw [Bool.or_eq_true] at h
 rcases h with h | h
 ·exact .inl (of_decide_eq_true h)
 ·exact .inr (anT_any h)
structure VfI (l:LLR) (x:Int × Bool):Prop where
 flo:0≤x.1
 fhi:x.1≤l.length
 fb:x.2=(decide (60 < (l.length:Int))||anT p1R l x.1)
def vf3 (l:LLR) (g:Bool):LInv:=⟨Int × Bool,fun x=>⟨[(1,.ptr 1 0),(3,.ptr 3 0),(4,.int .i64 x.1)],[(1,.cells [.sl 3 g l]),(3,.cells [.bool x.2,.bool false,.bool false,.bool false])]⟩,VfI l,fun x=>(l.length - x.1).toNat,none⟩
structure VfE (o b1 b2 b3:Bool) (x:Bool × Bool × Bool × Bool × Bool):Prop where
 fo:x.1=o
 f0:x.2.1=false
 f1:x.2.2.1=b1
 f2:x.2.2.2.1=b2
 f3:x.2.2.2.2=b3
structure VfJ (l:LLR) (x:Int × Bool × Bool × Bool × Bool × Bool):Prop where
 flo:0≤x.1
 fhi:x.1≤l.length
 fe:VfE (ordT l x.1) (anT p2R l x.1) (anT p3R l x.1) (anT p4R l x.1) x.2
def vf11 (l:LLR) (g:Bool):LInv:=⟨Int × Bool × Bool × Bool × Bool × Bool,fun x=>⟨[(1,.ptr 1 0),(3,.ptr 3 0),(6,.bool x.2.1),(7,.int .i64 x.1)],[(1,.cells [.sl 3 g l]),(3,.cells [.bool x.2.2.1,.bool x.2.2.2.1,.bool x.2.2.2.2.1,.bool x.2.2.2.2.2])]⟩,VfJ l,fun x=>(l.length - x.1).toNat,none⟩
structure VfK (l:LLR) (i:Int) (k:Int) (ps:LLR) (x:Int × Bool × Bool × Bool × Bool × Bool):Prop where
 flo:0≤x.1
 fhi:x.1≤ps.length
 fe:VfE (ordN l i||unT ps x.1) (anT p2R l (i+1)) (anT p3R l (i+1)) (anT p4R l i||anT (bdP k) ps x.1) x.2
def vf18 (l:LLR) (g:Bool) (i k:Int) (nm:AV) (ps:LLR):LInv:=⟨Int × Bool × Bool × Bool × Bool × Bool,fun x=>⟨[(1,.ptr 1 0),(3,.ptr 3 0),(6,.bool x.2.1),(7,.int .i64 i),(8,.ptr 8 0),(9,.int .i64 x.1)],[(1,.cells [.sl 3 g l]),(3,.cells [.bool x.2.2.1,.bool x.2.2.2.1,.bool x.2.2.2.2.1,.bool x.2.2.2.2.2]),(8,.cells [.int .i64 k,nm,.sl 7 false ps])]⟩,VfK l i k ps,fun x=>(ps.length - x.1).toNat,none⟩
def vfC (l:LLR) (g:Bool) (i k:Int) (nm:AV) (ps:LLR) (more:List (Nat × AV)) (o b1 b2 b3:Bool):LInv:=⟨Bool × Bool × Bool × Bool × Bool,fun x=>⟨[(1,.ptr 1 0),(3,.ptr 3 0),(6,.bool x.1),(7,.int .i64 i),(8,.ptr 8 0)]++more,[(1,.cells [.sl 3 g l]),(3,.cells [.bool x.2.1,.bool x.2.2.1,.bool x.2.2.2.1,.bool x.2.2.2.2]),(8,.cells [.int .i64 k,nm,.sl 7 false ps])]⟩,VfE o b1 b2 b3,fun _=>0,none⟩
def vfX (l:LLR) (g:Bool) (st:St) (K:Int→Int→AV→LLR→LInv):Option LInv:=match lk st.tmps 7,lk st.heap 8 with
 | some (.int _ i),some (.cells [.int _ k,nm,.sl _ _ ps])=>some (K i k nm ps)
 | _,_=>none
def vfJ (l:LLR) (g:Bool) (id:Nat) (st:St):Option LInv:=cond (Nat.beq id 3) (some (vf3 l g)) (cond (Nat.beq id 11) (some (vf11 l g)) (cond (Nat.beq id 18) (vfX l g st fun i k nm ps=>vf18 l g i k nm ps)
 (cond (Nat.beq id 100015) (vfX l g st fun i k nm ps=>vfC l g i k nm ps [] (ordT l i) (anT p2R l (i+1)) (anT p3R l i) (anT p4R l i))
 (cond (Nat.beq id 100016) (vfX l g st fun i k nm ps=>vfC l g i k nm ps [] (ordT l i) (anT p2R l (i+1)) (anT p3R l (i+1)) (anT p4R l i))
 (cond (Nat.beq id 100017) (vfX l g st fun i k nm ps=>vfC l g i k nm ps [] (ordN l i) (anT p2R l (i+1)) (anT p3R l (i+1)) (anT p4R l i))
 (cond (Nat.beq id 100021) (match lk st.tmps 9 with
 | some (.int _ q)=>vfX l g st fun i k nm ps=>vfC l g i k nm ps [(9,.int .i64 q)] (ordN l i||unT ps q) (anT p2R l (i+1)) (anT p3R l (i+1)) (anT p4R l i||anT (bdP k) ps (q+1))
 | _=>none) none))))))
def rvalidF_s (pdV:Int→Int→Bool→Int→Int→Int→Int→LLR→Bool) (nmOk:ByteArray→Bool) (rgV:LLR→Int):Sp
 | [.agg [.sl 3 g l]]=>some (StsP l,.int .i64 (rgV l))
 | _=>none
def rvalidF_T (pdV:Int→Int→Bool→Int→Int→Int→Int→LLR→Bool) (nmOk:ByteArray→Bool) (rgV:LLR→Int) (nrm:Int→Int→Int→Int→Int × Int × Int × Int) (vld:Int→Int→Int→Int→Bool) (isN:Int→Int→Int→Int→Bool) (inB:Int→Bool) (bsOk:LLR→Bool):Prop :=
  ∀ (gl:Glob) (l:List (List AV)) (g:Bool),StsP l→True∧True→(∃ x,VfI l x∧((0:Nat)=0∧(0:Nat)=0∧(0:Int)=x.fst∧True)∧(((bif g then g=true else True)∧l=l)∧True)∧(decide ((60:Int) < (↑l.length:Int))=x.snd∧false=false∧false=false∧false=false∧True)∧True)∧∀ (x:Int × Bool),VfI l x→bif decide (x.fst < (↑l.length:Int)) then bif !x.snd then bif decide (0≤x.fst∧x.fst < (↑l.length:Int)) then ∃ n s
 xs,List.take [AV.int .i64 n,.str s,.sl (7:Nat) false xs].length (l.getD x.fst.toNat [])=[AV.int .i64 n,.str s,.sl (7:Nat) false xs]∧bif decide ((↑xs.length:Int)=(0:Int)) then bif decide (rng .i64 (x.fst+(1:Int))) then ∃ y,VfI l y∧(vf3 l g).m y < (vf3 l g).m x∧((0:Nat)=0∧(0:Nat)=0∧x.fst+(1:Int)=y.fst∧True)∧(((bif g then g=true else
 True)∧l=l)∧True)∧(true=y.snd∧false=false∧false=false∧false=false∧True)∧True else False else bif decide (rng .i64 (x.fst+(1:Int))) then ∃ y,VfI l y∧(vf3 l g).m y < (vf3 l g).m x∧((0:Nat)=0∧(0:Nat)=0∧x.fst+(1:Int)=y.fst∧True)∧(((bif g then g=true else True)∧l=l)∧True)∧(decide ((8:Int) < (↑xs.length:Int))=y.snd∧false=false∧false=false∧false=false∧True)∧True else False else False else bif x.snd
 then (2:Int)=rgV l else (∃ x_1,VfJ l x_1∧((0:Nat)=0∧(0:Nat)=0∧false=x_1.snd.fst∧(0:Int)=x_1.fst∧True)∧(((bif g then g=true else True)∧l=l)∧True)∧(x.snd=x_1.snd.snd.fst∧false=x_1.snd.snd.snd.fst∧false=x_1.snd.snd.snd.snd.fst∧false=x_1.snd.snd.snd.snd.snd∧True)∧True)∧∀ (x:Int × Bool × Bool × Bool × Bool × Bool),VfJ l x→bif decide (x.fst < (↑l.length:Int)) then bif decide (0≤x.fst∧x.fst <
 (↑l.length:Int)) then ∃ n s xs,List.take [AV.int .i64 n,.str s,.sl (7:Nat) false xs].length (l.getD x.fst.toNat [])=[AV.int .i64 n,.str s,.sl (7:Nat) false xs]∧(bif x.snd.snd.snd.fst then ∃ x_1,VfE (ordT l x.fst) (anT p2R l (x.fst+(1:Int))) (anT p3R l x.fst) (anT p4R l x.fst) x_1∧((0:Nat)=0∧(0:Nat)=0∧x.snd.fst=x_1.fst∧x.fst=x.fst∧(0:Nat)=0∧True)∧(((bif g then g=true else
 True)∧l=l)∧True)∧(x.snd.snd.fst=x_1.snd.fst∧true=x_1.snd.snd.fst∧x.snd.snd.snd.snd.fst=x_1.snd.snd.snd.fst∧x.snd.snd.snd.snd.snd=x_1.snd.snd.snd.snd∧True)∧(n=n∧s=s∧(True∧xs=xs)∧True)∧True else True∧∃ x_1,VfE (ordT l x.fst) (anT p2R l (x.fst+(1:Int))) (anT p3R l x.fst) (anT p4R l x.fst) x_1∧((0:Nat)=0∧(0:Nat)=0∧x.snd.fst=x_1.fst∧x.fst=x.fst∧(0:Nat)=0∧True)∧(((bif g then g=true else
 True)∧l=l)∧True)∧(x.snd.snd.fst=x_1.snd.fst∧(!decide (1≤n∧n≤(3:Int)))=x_1.snd.snd.fst∧x.snd.snd.snd.snd.fst=x_1.snd.snd.snd.fst∧x.snd.snd.snd.snd.snd=x_1.snd.snd.snd.snd∧True)∧(n=n∧s=s∧(True∧xs=xs)∧True)∧True)∧∀ (x_1:Bool × Bool × Bool × Bool × Bool),VfE (ordT l x.fst) (anT p2R l (x.fst+(1:Int))) (anT p3R l x.fst) (anT p4R l x.fst) x_1→(bif x_1.snd.snd.snd.fst then ∃ x_2,VfE (ordT l
 x.fst) (anT p2R l (x.fst+(1:Int))) (anT p3R l (x.fst+(1:Int))) (anT p4R l x.fst) x_2∧((0:Nat)=0∧(0:Nat)=0∧x_1.fst=x_2.fst∧x.fst=x.fst∧(0:Nat)=0∧True)∧(((bif g then g=true else True)∧l=l)∧True)∧(x_1.snd.fst=x_2.snd.fst∧x_1.snd.snd.fst=x_2.snd.snd.fst∧true=x_2.snd.snd.snd.fst∧x_1.snd.snd.snd.snd=x_2.snd.snd.snd.snd∧True)∧(n=n∧s=s∧(True∧xs=xs)∧True)∧True else True∧∃ x_2,VfE (ordT l x.fst) (anT p2R
 l (x.fst+(1:Int))) (anT p3R l (x.fst+(1:Int))) (anT p4R l x.fst) x_2∧((0:Nat)=0∧(0:Nat)=0∧x_1.fst=x_2.fst∧x.fst=x.fst∧(0:Nat)=0∧True)∧(((bif g then g=true else True)∧l=l)∧True)∧(x_1.snd.fst=x_2.snd.fst∧x_1.snd.snd.fst=x_2.snd.snd.fst∧(!nmOk s)=x_2.snd.snd.snd.fst∧x_1.snd.snd.snd.snd=x_2.snd.snd.snd.snd∧True)∧(n=n∧s=s∧(True∧xs=xs)∧True)∧True)∧∀ (x_2:Bool × Bool × Bool × Bool × Bool),VfE (ordT
 l x.fst) (anT p2R l (x.fst+(1:Int))) (anT p3R l (x.fst+(1:Int))) (anT p4R l x.fst) x_2→(bif x_2.fst then ∃ x_3,VfE (ordN l x.fst) (anT p2R l (x.fst+(1:Int))) (anT p3R l (x.fst+(1:Int))) (anT p4R l x.fst) x_3∧((0:Nat)=0∧(0:Nat)=0∧true=x_3.fst∧x.fst=x.fst∧(0:Nat)=0∧True)∧(((bif g then g=true else
 True)∧l=l)∧True)∧(x_2.snd.fst=x_3.snd.fst∧x_2.snd.snd.fst=x_3.snd.snd.fst∧x_2.snd.snd.snd.fst=x_3.snd.snd.snd.fst∧x_2.snd.snd.snd.snd=x_3.snd.snd.snd.snd∧True)∧(n=n∧s=s∧(True∧xs=xs)∧True)∧True else bif decide (0 < x.fst) then bif decide (rng .i64 (x.fst - (1:Int))) then bif decide (0≤x.fst - (1:Int)∧x.fst - (1:Int) < (↑l.length:Int)) then ∃ s_1,List.take [AV.str s_1].length (List.drop
 (1:Nat) (l.getD (x.fst - (1:Int)).toNat []))=[AV.str s_1]∧∃ x_3,VfE (ordN l x.fst) (anT p2R l (x.fst+(1:Int))) (anT p3R l (x.fst+(1:Int))) (anT p4R l x.fst) x_3∧((0:Nat)=0∧(0:Nat)=0∧(!Op.bytesLess s_1.toList s.toList)=x_3.fst∧x.fst=x.fst∧(0:Nat)=0∧True)∧(((bif g then g=true else
 True)∧l=l)∧True)∧(x_2.snd.fst=x_3.snd.fst∧x_2.snd.snd.fst=x_3.snd.snd.fst∧x_2.snd.snd.snd.fst=x_3.snd.snd.snd.fst∧x_2.snd.snd.snd.snd=x_3.snd.snd.snd.snd∧True)∧(n=n∧s=s∧(True∧xs=xs)∧True)∧True else False else False else ∃ x_3,VfE (ordN l x.fst) (anT p2R l (x.fst+(1:Int))) (anT p3R l (x.fst+(1:Int))) (anT p4R l x.fst) x_3∧((0:Nat)=0∧(0:Nat)=0∧false=x_3.fst∧x.fst=x.fst∧(0:Nat)=0∧True)∧(((bif g
 then g=true else True)∧l=l)∧True)∧(x_2.snd.fst=x_3.snd.fst∧x_2.snd.snd.fst=x_3.snd.snd.fst∧x_2.snd.snd.snd.fst=x_3.snd.snd.snd.fst∧x_2.snd.snd.snd.snd=x_3.snd.snd.snd.snd∧True)∧(n=n∧s=s∧(True∧xs=xs)∧True)∧True)∧∀ (x_3:Bool × Bool × Bool × Bool × Bool),VfE (ordN l x.fst) (anT p2R l (x.fst+(1:Int))) (anT p3R l (x.fst+(1:Int))) (anT p4R l x.fst) x_3→(∃ x_4,VfK l x.fst n xs
 x_4∧((0:Nat)=0∧(0:Nat)=0∧x_3.fst=x_4.snd.fst∧x.fst=x.fst∧(0:Nat)=0∧(0:Int)=x_4.fst∧True)∧(((bif g then g=true else True)∧l=l)∧True)∧(x_3.snd.fst=x_4.snd.snd.fst∧x_3.snd.snd.fst=x_4.snd.snd.snd.fst∧x_3.snd.snd.snd.fst=x_4.snd.snd.snd.snd.fst∧x_3.snd.snd.snd.snd=x_4.snd.snd.snd.snd.snd∧True)∧(n=n∧s=s∧(True∧xs=xs)∧True)∧True)∧∀ (x_4:Int × Bool × Bool × Bool × Bool × Bool),VfK l x.fst n xs x_4→bif
 decide (x_4.fst < (↑xs.length:Int)) then (bif x_4.snd.snd.snd.snd.snd then ∃ x_5,VfE (ordN l x.fst||unT xs x_4.fst) (anT p2R l (x.fst+(1:Int))) (anT p3R l (x.fst+(1:Int))) (anT p4R l x.fst||anT (bdP n) xs (x_4.fst+(1:Int))) x_5∧((0:Nat)=0∧(0:Nat)=0∧x_4.snd.fst=x_5.fst∧x.fst=x.fst∧(0:Nat)=0∧x_4.fst=x_4.fst∧True)∧(((bif g then g=true else
 True)∧l=l)∧True)∧(x_4.snd.snd.fst=x_5.snd.fst∧x_4.snd.snd.snd.fst=x_5.snd.snd.fst∧x_4.snd.snd.snd.snd.fst=x_5.snd.snd.snd.fst∧true=x_5.snd.snd.snd.snd∧True)∧(n=n∧s=s∧(True∧xs=xs)∧True)∧True else bif decide (0≤x_4.fst∧x_4.fst < (↑xs.length:Int)) then ∃ n_1 b n_2 n_3 n_4 n_5 xs_1,List.take [AV.int .i64 n_1,.bool b,.int .i64 n_2,.int .i64 n_3,.int .i64 n_4,.int .i64 n_5,.sl (2:Nat) false
 xs_1].length (xs.getD x_4.fst.toNat [])=[AV.int .i64 n_1,.bool b,.int .i64 n_2,.int .i64 n_3,.int .i64 n_4,.int .i64 n_5,.sl (2:Nat) false xs_1]∧RdsP xs_1∧∃ x_5,VfE (ordN l x.fst||unT xs x_4.fst) (anT p2R l (x.fst+(1:Int))) (anT p3R l (x.fst+(1:Int))) (anT p4R l x.fst||anT (bdP n) xs (x_4.fst+(1:Int)))
 x_5∧((0:Nat)=0∧(0:Nat)=0∧x_4.snd.fst=x_5.fst∧x.fst=x.fst∧(0:Nat)=0∧x_4.fst=x_4.fst∧True)∧(((bif g then g=true else True)∧l=l)∧True)∧(x_4.snd.snd.fst=x_5.snd.fst∧x_4.snd.snd.snd.fst=x_5.snd.snd.fst∧x_4.snd.snd.snd.snd.fst=x_5.snd.snd.snd.fst∧(!pdV n n_1 b n_2 n_3 n_4 n_5 xs_1)=x_5.snd.snd.snd.snd∧True)∧(n=n∧s=s∧(True∧xs=xs)∧True)∧True else False)∧∀ (x_5:Bool × Bool × Bool × Bool × Bool),VfE (ordN
 l x.fst||unT xs x_4.fst) (anT p2R l (x.fst+(1:Int))) (anT p3R l (x.fst+(1:Int))) (anT p4R l x.fst||anT (bdP n) xs (x_4.fst+(1:Int))) x_5→bif x_5.fst then bif decide (rng .i64 (x_4.fst+(1:Int))) then ∃ y,VfK l x.fst n xs y∧((fun i k nm ps=>vf18 l g i k nm ps) x.fst n (AV.str s) xs).m y < ((fun i k nm ps=>vf18 l g i k nm ps) x.fst n (AV.str s) xs).m
 x_4∧((0:Nat)=0∧(0:Nat)=0∧true=y.snd.fst∧x.fst=x.fst∧(0:Nat)=0∧x_4.fst+(1:Int)=y.fst∧True)∧(((bif g then g=true else True)∧l=l)∧True)∧(x_5.snd.fst=y.snd.snd.fst∧x_5.snd.snd.fst=y.snd.snd.snd.fst∧x_5.snd.snd.snd.fst=y.snd.snd.snd.snd.fst∧x_5.snd.snd.snd.snd=y.snd.snd.snd.snd.snd∧True)∧(n=n∧s=s∧(True∧xs=xs)∧True)∧True else False else bif decide (0 < x_4.fst) then bif decide (rng .i64 (x_4.fst
 - (1:Int))) then bif decide (0≤x_4.fst - (1:Int)∧x_4.fst - (1:Int) < (↑xs.length:Int)) then ∃ n_1,List.take [AV.int .i64 n_1].length (List.drop (0:Nat) (xs.getD (x_4.fst - (1:Int)).toNat []))=[AV.int .i64 n_1]∧bif decide (0≤x_4.fst∧x_4.fst < (↑xs.length:Int)) then ∃ n_2,List.take [AV.int .i64 n_2].length (List.drop (0:Nat) (xs.getD x_4.fst.toNat []))=[AV.int .i64 n_2]∧bif decide
 (rng .i64 (x_4.fst+(1:Int))) then ∃ y,VfK l x.fst n xs y∧((fun i k nm ps=>vf18 l g i k nm ps) x.fst n (AV.str s) xs).m y < ((fun i k nm ps=>vf18 l g i k nm ps) x.fst n (AV.str s) xs).m x_4∧((0:Nat)=0∧(0:Nat)=0∧decide (n_2≤n_1)=y.snd.fst∧x.fst=x.fst∧(0:Nat)=0∧x_4.fst+(1:Int)=y.fst∧True)∧(((bif g then g=true else
 True)∧l=l)∧True)∧(x_5.snd.fst=y.snd.snd.fst∧x_5.snd.snd.fst=y.snd.snd.snd.fst∧x_5.snd.snd.snd.fst=y.snd.snd.snd.snd.fst∧x_5.snd.snd.snd.snd=y.snd.snd.snd.snd.snd∧True)∧(n=n∧s=s∧(True∧xs=xs)∧True)∧True else False else False else False else False else bif decide (rng .i64 (x_4.fst+(1:Int))) then ∃ y,VfK l x.fst n xs y∧((fun i k nm ps=>vf18 l g i k nm ps) x.fst n (AV.str s) xs).m y < ((fun i k nm
 ps=>vf18 l g i k nm ps) x.fst n (AV.str s) xs).m x_4∧((0:Nat)=0∧(0:Nat)=0∧false=y.snd.fst∧x.fst=x.fst∧(0:Nat)=0∧x_4.fst+(1:Int)=y.fst∧True)∧(((bif g then g=true else True)∧l=l)∧True)∧(x_5.snd.fst=y.snd.snd.fst∧x_5.snd.snd.fst=y.snd.snd.snd.fst∧x_5.snd.snd.snd.fst=y.snd.snd.snd.snd.fst∧x_5.snd.snd.snd.snd=y.snd.snd.snd.snd.snd∧True)∧(n=n∧s=s∧(True∧xs=xs)∧True)∧True else False else bif decide
 (rng .i64 (x.fst+(1:Int))) then ∃ y,VfJ l y∧(vf11 l g).m y < (vf11 l g).m x∧((0:Nat)=0∧(0:Nat)=0∧x_4.snd.fst=y.snd.fst∧x.fst+(1:Int)=y.fst∧True)∧(((bif g then g=true else True)∧l=l)∧True)∧(x_4.snd.snd.fst=y.snd.snd.fst∧x_4.snd.snd.snd.fst=y.snd.snd.snd.fst∧x_4.snd.snd.snd.snd.fst=y.snd.snd.snd.snd.fst∧x_4.snd.snd.snd.snd.snd=y.snd.snd.snd.snd.snd∧True)∧True else False else False else bif
 x.snd.snd.snd.fst then (4:Int)=rgV l else bif x.snd.snd.snd.snd.fst then (3:Int)=rgV l else bif x.snd.snd.snd.snd.snd then (1:Int)=rgV l else bif x.snd.fst then (8:Int)=rgV l else (0:Int)=rgV l else bif x.snd then (2:Int)=rgV l else (∃ x_1,VfJ l x_1∧((0:Nat)=0∧(0:Nat)=0∧false=x_1.snd.fst∧(0:Int)=x_1.fst∧True)∧(((bif g then g=true else
 True)∧l=l)∧True)∧(x.snd=x_1.snd.snd.fst∧false=x_1.snd.snd.snd.fst∧false=x_1.snd.snd.snd.snd.fst∧false=x_1.snd.snd.snd.snd.snd∧True)∧True)∧∀ (x:Int × Bool × Bool × Bool × Bool × Bool),VfJ l x→bif decide (x.fst < (↑l.length:Int)) then bif decide (0≤x.fst∧x.fst < (↑l.length:Int)) then ∃ n s xs,List.take [AV.int .i64 n,.str s,.sl (7:Nat) false xs].length (l.getD x.fst.toNat [])=[AV.int .i64
 n,.str s,.sl (7:Nat) false xs]∧(bif x.snd.snd.snd.fst then ∃ x_1,VfE (ordT l x.fst) (anT p2R l (x.fst+(1:Int))) (anT p3R l x.fst) (anT p4R l x.fst) x_1∧((0:Nat)=0∧(0:Nat)=0∧x.snd.fst=x_1.fst∧x.fst=x.fst∧(0:Nat)=0∧True)∧(((bif g then g=true else
 True)∧l=l)∧True)∧(x.snd.snd.fst=x_1.snd.fst∧true=x_1.snd.snd.fst∧x.snd.snd.snd.snd.fst=x_1.snd.snd.snd.fst∧x.snd.snd.snd.snd.snd=x_1.snd.snd.snd.snd∧True)∧(n=n∧s=s∧(True∧xs=xs)∧True)∧True else True∧∃ x_1,VfE (ordT l x.fst) (anT p2R l (x.fst+(1:Int))) (anT p3R l x.fst) (anT p4R l x.fst) x_1∧((0:Nat)=0∧(0:Nat)=0∧x.snd.fst=x_1.fst∧x.fst=x.fst∧(0:Nat)=0∧True)∧(((bif g then g=true else
 True)∧l=l)∧True)∧(x.snd.snd.fst=x_1.snd.fst∧(!decide (1≤n∧n≤(3:Int)))=x_1.snd.snd.fst∧x.snd.snd.snd.snd.fst=x_1.snd.snd.snd.fst∧x.snd.snd.snd.snd.snd=x_1.snd.snd.snd.snd∧True)∧(n=n∧s=s∧(True∧xs=xs)∧True)∧True)∧∀ (x_1:Bool × Bool × Bool × Bool × Bool),VfE (ordT l x.fst) (anT p2R l (x.fst+(1:Int))) (anT p3R l x.fst) (anT p4R l x.fst) x_1→(bif x_1.snd.snd.snd.fst then ∃ x_2,VfE (ordT l
 x.fst) (anT p2R l (x.fst+(1:Int))) (anT p3R l (x.fst+(1:Int))) (anT p4R l x.fst) x_2∧((0:Nat)=0∧(0:Nat)=0∧x_1.fst=x_2.fst∧x.fst=x.fst∧(0:Nat)=0∧True)∧(((bif g then g=true else True)∧l=l)∧True)∧(x_1.snd.fst=x_2.snd.fst∧x_1.snd.snd.fst=x_2.snd.snd.fst∧true=x_2.snd.snd.snd.fst∧x_1.snd.snd.snd.snd=x_2.snd.snd.snd.snd∧True)∧(n=n∧s=s∧(True∧xs=xs)∧True)∧True else True∧∃ x_2,VfE (ordT l x.fst) (anT p2R
 l (x.fst+(1:Int))) (anT p3R l (x.fst+(1:Int))) (anT p4R l x.fst) x_2∧((0:Nat)=0∧(0:Nat)=0∧x_1.fst=x_2.fst∧x.fst=x.fst∧(0:Nat)=0∧True)∧(((bif g then g=true else True)∧l=l)∧True)∧(x_1.snd.fst=x_2.snd.fst∧x_1.snd.snd.fst=x_2.snd.snd.fst∧(!nmOk s)=x_2.snd.snd.snd.fst∧x_1.snd.snd.snd.snd=x_2.snd.snd.snd.snd∧True)∧(n=n∧s=s∧(True∧xs=xs)∧True)∧True)∧∀ (x_2:Bool × Bool × Bool × Bool × Bool),VfE (ordT
 l x.fst) (anT p2R l (x.fst+(1:Int))) (anT p3R l (x.fst+(1:Int))) (anT p4R l x.fst) x_2→(bif x_2.fst then ∃ x_3,VfE (ordN l x.fst) (anT p2R l (x.fst+(1:Int))) (anT p3R l (x.fst+(1:Int))) (anT p4R l x.fst) x_3∧((0:Nat)=0∧(0:Nat)=0∧true=x_3.fst∧x.fst=x.fst∧(0:Nat)=0∧True)∧(((bif g then g=true else
 True)∧l=l)∧True)∧(x_2.snd.fst=x_3.snd.fst∧x_2.snd.snd.fst=x_3.snd.snd.fst∧x_2.snd.snd.snd.fst=x_3.snd.snd.snd.fst∧x_2.snd.snd.snd.snd=x_3.snd.snd.snd.snd∧True)∧(n=n∧s=s∧(True∧xs=xs)∧True)∧True else bif decide (0 < x.fst) then bif decide (rng .i64 (x.fst - (1:Int))) then bif decide (0≤x.fst - (1:Int)∧x.fst - (1:Int) < (↑l.length:Int)) then ∃ s_1,List.take [AV.str s_1].length (List.drop
 (1:Nat) (l.getD (x.fst - (1:Int)).toNat []))=[AV.str s_1]∧∃ x_3,VfE (ordN l x.fst) (anT p2R l (x.fst+(1:Int))) (anT p3R l (x.fst+(1:Int))) (anT p4R l x.fst) x_3∧((0:Nat)=0∧(0:Nat)=0∧(!Op.bytesLess s_1.toList s.toList)=x_3.fst∧x.fst=x.fst∧(0:Nat)=0∧True)∧(((bif g then g=true else
 True)∧l=l)∧True)∧(x_2.snd.fst=x_3.snd.fst∧x_2.snd.snd.fst=x_3.snd.snd.fst∧x_2.snd.snd.snd.fst=x_3.snd.snd.snd.fst∧x_2.snd.snd.snd.snd=x_3.snd.snd.snd.snd∧True)∧(n=n∧s=s∧(True∧xs=xs)∧True)∧True else False else False else ∃ x_3,VfE (ordN l x.fst) (anT p2R l (x.fst+(1:Int))) (anT p3R l (x.fst+(1:Int))) (anT p4R l x.fst) x_3∧((0:Nat)=0∧(0:Nat)=0∧false=x_3.fst∧x.fst=x.fst∧(0:Nat)=0∧True)∧(((bif g
 then g=true else True)∧l=l)∧True)∧(x_2.snd.fst=x_3.snd.fst∧x_2.snd.snd.fst=x_3.snd.snd.fst∧x_2.snd.snd.snd.fst=x_3.snd.snd.snd.fst∧x_2.snd.snd.snd.snd=x_3.snd.snd.snd.snd∧True)∧(n=n∧s=s∧(True∧xs=xs)∧True)∧True)∧∀ (x_3:Bool × Bool × Bool × Bool × Bool),VfE (ordN l x.fst) (anT p2R l (x.fst+(1:Int))) (anT p3R l (x.fst+(1:Int))) (anT p4R l x.fst) x_3→(∃ x_4,VfK l x.fst n xs
 x_4∧((0:Nat)=0∧(0:Nat)=0∧x_3.fst=x_4.snd.fst∧x.fst=x.fst∧(0:Nat)=0∧(0:Int)=x_4.fst∧True)∧(((bif g then g=true else True)∧l=l)∧True)∧(x_3.snd.fst=x_4.snd.snd.fst∧x_3.snd.snd.fst=x_4.snd.snd.snd.fst∧x_3.snd.snd.snd.fst=x_4.snd.snd.snd.snd.fst∧x_3.snd.snd.snd.snd=x_4.snd.snd.snd.snd.snd∧True)∧(n=n∧s=s∧(True∧xs=xs)∧True)∧True)∧∀ (x_4:Int × Bool × Bool × Bool × Bool × Bool),VfK l x.fst n xs x_4→bif
 decide (x_4.fst < (↑xs.length:Int)) then (bif x_4.snd.snd.snd.snd.snd then ∃ x_5,VfE (ordN l x.fst||unT xs x_4.fst) (anT p2R l (x.fst+(1:Int))) (anT p3R l (x.fst+(1:Int))) (anT p4R l x.fst||anT (bdP n) xs (x_4.fst+(1:Int))) x_5∧((0:Nat)=0∧(0:Nat)=0∧x_4.snd.fst=x_5.fst∧x.fst=x.fst∧(0:Nat)=0∧x_4.fst=x_4.fst∧True)∧(((bif g then g=true else
 True)∧l=l)∧True)∧(x_4.snd.snd.fst=x_5.snd.fst∧x_4.snd.snd.snd.fst=x_5.snd.snd.fst∧x_4.snd.snd.snd.snd.fst=x_5.snd.snd.snd.fst∧true=x_5.snd.snd.snd.snd∧True)∧(n=n∧s=s∧(True∧xs=xs)∧True)∧True else bif decide (0≤x_4.fst∧x_4.fst < (↑xs.length:Int)) then ∃ n_1 b n_2 n_3 n_4 n_5 xs_1,List.take [AV.int .i64 n_1,.bool b,.int .i64 n_2,.int .i64 n_3,.int .i64 n_4,.int .i64 n_5,.sl (2:Nat) false
 xs_1].length (xs.getD x_4.fst.toNat [])=[AV.int .i64 n_1,.bool b,.int .i64 n_2,.int .i64 n_3,.int .i64 n_4,.int .i64 n_5,.sl (2:Nat) false xs_1]∧RdsP xs_1∧∃ x_5,VfE (ordN l x.fst||unT xs x_4.fst) (anT p2R l (x.fst+(1:Int))) (anT p3R l (x.fst+(1:Int))) (anT p4R l x.fst||anT (bdP n) xs (x_4.fst+(1:Int)))
 x_5∧((0:Nat)=0∧(0:Nat)=0∧x_4.snd.fst=x_5.fst∧x.fst=x.fst∧(0:Nat)=0∧x_4.fst=x_4.fst∧True)∧(((bif g then g=true else True)∧l=l)∧True)∧(x_4.snd.snd.fst=x_5.snd.fst∧x_4.snd.snd.snd.fst=x_5.snd.snd.fst∧x_4.snd.snd.snd.snd.fst=x_5.snd.snd.snd.fst∧(!pdV n n_1 b n_2 n_3 n_4 n_5 xs_1)=x_5.snd.snd.snd.snd∧True)∧(n=n∧s=s∧(True∧xs=xs)∧True)∧True else False)∧∀ (x_5:Bool × Bool × Bool × Bool × Bool),VfE (ordN
 l x.fst||unT xs x_4.fst) (anT p2R l (x.fst+(1:Int))) (anT p3R l (x.fst+(1:Int))) (anT p4R l x.fst||anT (bdP n) xs (x_4.fst+(1:Int))) x_5→bif x_5.fst then bif decide (rng .i64 (x_4.fst+(1:Int))) then ∃ y,VfK l x.fst n xs y∧((fun i k nm ps=>vf18 l g i k nm ps) x.fst n (AV.str s) xs).m y < ((fun i k nm ps=>vf18 l g i k nm ps) x.fst n (AV.str s) xs).m
 x_4∧((0:Nat)=0∧(0:Nat)=0∧true=y.snd.fst∧x.fst=x.fst∧(0:Nat)=0∧x_4.fst+(1:Int)=y.fst∧True)∧(((bif g then g=true else True)∧l=l)∧True)∧(x_5.snd.fst=y.snd.snd.fst∧x_5.snd.snd.fst=y.snd.snd.snd.fst∧x_5.snd.snd.snd.fst=y.snd.snd.snd.snd.fst∧x_5.snd.snd.snd.snd=y.snd.snd.snd.snd.snd∧True)∧(n=n∧s=s∧(True∧xs=xs)∧True)∧True else False else bif decide (0 < x_4.fst) then bif decide (rng .i64 (x_4.fst
 - (1:Int))) then bif decide (0≤x_4.fst - (1:Int)∧x_4.fst - (1:Int) < (↑xs.length:Int)) then ∃ n_1,List.take [AV.int .i64 n_1].length (List.drop (0:Nat) (xs.getD (x_4.fst - (1:Int)).toNat []))=[AV.int .i64 n_1]∧bif decide (0≤x_4.fst∧x_4.fst < (↑xs.length:Int)) then ∃ n_2,List.take [AV.int .i64 n_2].length (List.drop (0:Nat) (xs.getD x_4.fst.toNat []))=[AV.int .i64 n_2]∧bif decide
 (rng .i64 (x_4.fst+(1:Int))) then ∃ y,VfK l x.fst n xs y∧((fun i k nm ps=>vf18 l g i k nm ps) x.fst n (AV.str s) xs).m y < ((fun i k nm ps=>vf18 l g i k nm ps) x.fst n (AV.str s) xs).m x_4∧((0:Nat)=0∧(0:Nat)=0∧decide (n_2≤n_1)=y.snd.fst∧x.fst=x.fst∧(0:Nat)=0∧x_4.fst+(1:Int)=y.fst∧True)∧(((bif g then g=true else
 True)∧l=l)∧True)∧(x_5.snd.fst=y.snd.snd.fst∧x_5.snd.snd.fst=y.snd.snd.snd.fst∧x_5.snd.snd.snd.fst=y.snd.snd.snd.snd.fst∧x_5.snd.snd.snd.snd=y.snd.snd.snd.snd.snd∧True)∧(n=n∧s=s∧(True∧xs=xs)∧True)∧True else False else False else False else False else bif decide (rng .i64 (x_4.fst+(1:Int))) then ∃ y,VfK l x.fst n xs y∧((fun i k nm ps=>vf18 l g i k nm ps) x.fst n (AV.str s) xs).m y < ((fun i k nm
 ps=>vf18 l g i k nm ps) x.fst n (AV.str s) xs).m x_4∧((0:Nat)=0∧(0:Nat)=0∧false=y.snd.fst∧x.fst=x.fst∧(0:Nat)=0∧x_4.fst+(1:Int)=y.fst∧True)∧(((bif g then g=true else True)∧l=l)∧True)∧(x_5.snd.fst=y.snd.snd.fst∧x_5.snd.snd.fst=y.snd.snd.snd.fst∧x_5.snd.snd.snd.fst=y.snd.snd.snd.snd.fst∧x_5.snd.snd.snd.snd=y.snd.snd.snd.snd.snd∧True)∧(n=n∧s=s∧(True∧xs=xs)∧True)∧True else False else bif decide
 (rng .i64 (x.fst+(1:Int))) then ∃ y,VfJ l y∧(vf11 l g).m y < (vf11 l g).m x∧((0:Nat)=0∧(0:Nat)=0∧x_4.snd.fst=y.snd.fst∧x.fst+(1:Int)=y.fst∧True)∧(((bif g then g=true else True)∧l=l)∧True)∧(x_4.snd.snd.fst=y.snd.snd.fst∧x_4.snd.snd.snd.fst=y.snd.snd.snd.fst∧x_4.snd.snd.snd.snd.fst=y.snd.snd.snd.snd.fst∧x_4.snd.snd.snd.snd.snd=y.snd.snd.snd.snd.snd∧True)∧True else False else False else bif
 x.snd.snd.snd.fst then (4:Int)=rgV l else bif x.snd.snd.snd.snd.fst then (3:Int)=rgV l else bif x.snd.snd.snd.snd.snd then (1:Int)=rgV l else bif x.snd.fst then (8:Int)=rgV l else (0:Int)=rgV l
theorem rvalidF_P:rvalidF_T pdV nmOk rgV nrm vld isN inB bsOk:=by
 unfold rvalidF_T
 intro gl l g hl _
 have ll:=hl.fs
 have bg:cond g (g=true) True:=by cases g <;> trivial
 refine ⟨⟨(0,decide (60 < (l.length:Int))),⟨by simp,by simp,by simp [anT_zero]⟩,by (repeat' (first | exact trivial | exact rfl | assumption | apply And.intro))⟩,?_⟩
 rintro ⟨i,b⟩ ⟨i0,i1,fb⟩
 simp only at i0 i1 fb
 dsimp only
 refine csx (fun hi=>csplit (fun hb=>cd1 (by omega) ?_) (fun hb=>csplit (fun hb2=>rg_two (fb ▸ hb2)) (fun hb2=>by rw [hb2] at hb; cases hb))) (fun hi=>csplit (fun hb2=>rg_two (fb ▸ hb2)) (fun hb2=>?_))
 ·obtain ⟨k,nm,ps,hr,hp⟩:=hl.fr i.toNat (by omega)
  have hb:b=false:=by simpa using hb
  have S1:anT p1R l (i+1)=(anT p1R l i||s1B ps):=by rw [anT_step p1R i0 hi,hr]; rfl
  rw [hb] at fb
  obtain ⟨h60,ha⟩:=Bool.or_eq_false_iff.1 fb.symm
  exact ⟨k,nm,ps,by rw [hr]; rfl,csx (fun q=>cdI (by omega) ⟨(i+1,true),⟨by simp only; omega,by simp only; omega,by simp only [S1,h60,ha]; unfold s1B; rw [decide_eq_true (show ps.length=0 by omega)]; rfl⟩,by simp only [vf3]; omega,by (repeat' (first | exact trivial | exact rfl | assumption | apply And.intro))⟩) (fun q=>cdI (by omega) ⟨(i+1,decide (8 < (ps.length:Int))),⟨by simp only; omega,by simp only; omega,by simp only [S1,h60,ha]; unfold s1B; rw [decide_eq_false (show ¬ ps.length=0 by omega)]; rfl⟩,by simp only [vf3]; omega,by (repeat' (first | exact trivial | exact rfl | assumption | apply And.intro))⟩)⟩
 rw [hb2] at fb
 obtain ⟨h60,ha⟩:=Bool.or_eq_false_iff.1 fb.symm
 rw [anT_all _ hi] at ha
 have R0:rgV l=if l.any p2R=true then 4 else if l.any p3R=true then 3 else if l.any p4R=true then 1 else if l.any p5R=true then 8 else if snO l=true then 0 else 8:=by
  have:¬ (60 < (l.length:Int)∨l.any p1R=true):=by
   rintro (z | z)
   ·exact absurd z (of_decide_eq_false h60)
   ·rw [ha] at z; cases z
  unfold rgV; rw [if_neg this]
 clear i0 i1 fb hi
 refine ⟨⟨(0,false,b,false,false,false),⟨by simp,by simp,⟨(ordT_zero l).symm,hb2,rfl,rfl,rfl⟩⟩,by (repeat' (first | exact trivial | exact rfl | assumption | apply And.intro))⟩,?_⟩
 rintro ⟨i,o,b0,b1,b2,b3⟩ ⟨i0,i1,fo,f0,f1,f2,f3⟩
 simp only at i0 i1 fo f0 f1 f2 f3
 dsimp only
 refine csx (fun hi=>cd1 (by omega) ?_) (fun hi=>?_)
 ·obtain ⟨k,nm,ps,hr,hp⟩:=hl.fr i.toNat (by omega)
  have hs:=hp.fs
  have S2:anT p2R l (i+1)=(anT p2R l i||!(decide (1≤k∧k≤3))):=by rw [anT_step p2R i0 hi,hr]; rfl
  have S3:anT p3R l (i+1)=(anT p3R l i||!(nmOk nm)):=by rw [anT_step p3R i0 hi,hr]; rfl
  have S4:anT p4R l (i+1)=(anT p4R l i||ps.any (bdP k)):=by rw [anT_step p4R i0 hi,hr]; rfl
  have S5:ordT l (i+1)=(ordN l i||!(ascB ps)):=by rw [ordT_step i0 hi,hr]; rfl
  refine ⟨k,nm,ps,by rw [hr]; rfl,csplit (fun q=>⟨(o,b0,true,b2,b3),⟨fo,f0,by simp only [S2,← f1,q]; rfl,f2,f3⟩,by (repeat' (first | exact trivial | exact rfl | assumption | apply And.intro))⟩) (fun q=>⟨trivial,(o,b0,!decide (1≤k∧k≤3),b2,b3),⟨fo,f0,by simp only [S2,← f1,q]; rfl,f2,f3⟩,by (repeat' (first | exact trivial | exact rfl | assumption | apply And.intro))⟩),?_⟩
  clear fo f0 f1 f2 f3
  rintro ⟨o,b0,b1,b2,b3⟩ ⟨fo,f0,f1,f2,f3⟩
  simp only at fo f0 f1 f2 f3
  dsimp only
  refine ⟨csplit (fun q=>⟨(o,b0,b1,true,b3),⟨fo,f0,f1,by simp only [S3,← f2,q]; rfl,f3⟩,by (repeat' (first | exact trivial | exact rfl | assumption | apply And.intro))⟩) (fun q=>⟨trivial,(o,b0,b1,!nmOk nm,b3),⟨fo,f0,f1,by simp only [S3,← f2,q]; rfl,f3⟩,by (repeat' (first | exact trivial | exact rfl | assumption | apply And.intro))⟩),?_⟩
  clear fo f0 f1 f2 f3
  rintro ⟨o,b0,b1,b2,b3⟩ ⟨fo,f0,f1,f2,f3⟩
  simp only at fo f0 f1 f2 f3
  dsimp only
  have SN:=ordN_step i0 hi
  have hnm:sNm (l.getD i.toNat [])=nm:=by rw [hr]; rfl
  rw [hnm] at SN
  refine ⟨csplit (fun q=>⟨(true,b0,b1,b2,b3),⟨by simp only [SN,← fo,q]; rfl,f0,f1,f2,f3⟩,by (repeat' (first | exact trivial | exact rfl | assumption | apply And.intro))⟩) (fun q=>csx (fun q2=>cdI (by omega) (cd1 (by omega) ?_)) (fun q2=>⟨(false,b0,b1,b2,b3),⟨by simp only [SN,← fo,q,decide_eq_false q2]; rfl,f0,f1,f2,f3⟩,by (repeat' (first | exact trivial | exact rfl | assumption | apply And.intro))⟩)),?_⟩
  ·obtain ⟨k',nm',ps',hr',_⟩:=hl.fr (i - 1).toNat (by omega)
   have hnm':sNm (l.getD (i - 1).toNat [])=nm':=by rw [hr']; rfl
   rw [hnm'] at SN
   exact ⟨nm',by rw [hr']; rfl,(!Op.bytesLess nm'.toList nm.toList,b0,b1,b2,b3),⟨by simp only [SN,← fo,q,decide_eq_true q2]; rfl,f0,f1,f2,f3⟩,by (repeat' (first | exact trivial | exact rfl | assumption | apply And.intro))⟩
  clear fo f0 f1 f2 f3
  rintro ⟨o,b0,b1,b2,b3⟩ ⟨fo,f0,f1,f2,f3⟩
  simp only at fo f0 f1 f2 f3
  dsimp only
  refine ⟨⟨(0,o,b0,b1,b2,b3),⟨by simp,by simp,⟨by simp only [unT_zero,Bool.or_false]; exact fo,f0,f1,f2,by simp only [anT_zero,Bool.or_false]; exact f3⟩⟩,by (repeat' (first | exact trivial | exact rfl | assumption | apply And.intro))⟩,?_⟩
  clear fo f0 f1 f2 f3
  rintro ⟨q,o,b0,b1,b2,b3⟩ ⟨q0,q1,fo,f0,f1,f2,f3⟩
  simp only at q0 q1 fo f0 f1 f2 f3
  dsimp only
  refine csx (fun hq=>⟨csplit (fun z=>?_) (fun z=>cd1 (by omega) ?_),?_⟩) (fun hq=>cdI (by omega) ⟨(i+1,o,b0,b1,b2,b3),⟨by simp only; omega,by simp only; omega,⟨by simp only [S5]; rw [fo,unT_all hq],f0,f1,f2,by simp only [S4]; rw [f3,anT_all _ hq]⟩⟩,by simp only [vf11]; omega,by (repeat' (first | exact trivial | exact rfl | assumption | apply And.intro))⟩)
  ·obtain ⟨fr,cl,f,a,b,c,bs,he,hb,_⟩:=hp.fr q.toNat (by omega)
   have SB:anT (bdP k) ps (q+1)=(anT (bdP k) ps q||bdP k (ps.getD q.toNat [])):=anT_step _ q0 hq
   exact ⟨(o,b0,b1,b2,true),⟨fo,f0,f1,f2,by simp only [SB,← Bool.or_assoc,← f3,z]; rfl⟩,by (repeat' (first | exact trivial | exact rfl | assumption | apply And.intro))⟩
  ·obtain ⟨fr,cl,f,a,b,c,bs,he,hb,_⟩:=hp.fr q.toNat (by omega)
   have SB:anT (bdP k) ps (q+1)=(anT (bdP k) ps q||!pdV k fr cl f a b c bs):=by rw [anT_step _ q0 hq,he]; rfl
   exact ⟨fr,cl,f,a,b,c,bs,by rw [he]; rfl,hb,(o,b0,b1,b2,!pdV k fr cl f a b c bs),⟨fo,f0,f1,f2,by simp only [SB,← Bool.or_assoc,← f3,z]; rfl⟩,by (repeat' (first | exact trivial | exact rfl | assumption | apply And.intro))⟩
  clear fo f0 f1 f2 f3
  rintro ⟨o,b0,b1,b2,b3⟩ ⟨fo,f0,f1,f2,f3⟩
  simp only at fo f0 f1 f2 f3
  dsimp only
  have SU:=unT_step q0 hq
  refine csplit (fun z=>cdI (by omega) ⟨(q+1,true,b0,b1,b2,b3),⟨by simp only; omega,by simp only; omega,⟨by simp only [SU,← Bool.or_assoc,← fo,z]; rfl,f0,f1,f2,f3⟩⟩,by simp only [vf18]; omega,by (repeat' (first | exact trivial | exact rfl | assumption | apply And.intro))⟩) (fun z=>csx (fun z2=>cdI (by omega) (cd1 (by omega) ?_)) (fun z2=>cdI (by omega) ⟨(q+1,false,b0,b1,b2,b3),⟨by simp only; omega,by simp only; omega,⟨by simp only [SU,← Bool.or_assoc,← fo,z,decide_eq_false z2]; rfl,f0,f1,f2,f3⟩⟩,by simp only [vf18]; omega,by (repeat' (first | exact trivial | exact rfl | assumption | apply And.intro))⟩))
  obtain ⟨fr,cl,f,a,b,c,bs,he,hb,_⟩:=hp.fr (q - 1).toNat (by omega)
  obtain ⟨fr2,cl2,f2',a2,b2',c2,bs2,he2,hb2,_⟩:=hp.fr q.toNat (by omega)
  have e1:rE (ps.getD (q - 1).toNat [])=fr:=by rw [he]; rfl
  have e2:rE (ps.getD q.toNat [])=fr2:=by rw [he2]; rfl
  rw [e1,e2] at SU
  exact ⟨fr,by rw [he]; rfl,cd1 (by omega) ⟨fr2,by rw [he2]; rfl,cdI (by omega) ⟨(q+1,decide (fr2≤fr),b0,b1,b2,b3),⟨by simp only; omega,by simp only; omega,⟨by simp only [SU,← Bool.or_assoc,← fo,z,decide_eq_true z2]; simp,f0,f1,f2,f3⟩⟩,by simp only [vf18]; omega,by (repeat' (first | exact trivial | exact rfl | assumption | apply And.intro))⟩⟩⟩
 ·rw [ordT_all hi] at fo
  rw [anT_all _ hi] at f1 f2 f3
  rw [R0,← f1,← f2,← f3]
  refine csplit (fun q=>by rw [q]; rfl) (fun q=>csplit (fun q2=>by rw [q,q2]; rfl) (fun q2=>csplit (fun q3=>by rw [q,q2,q3]; rfl) (fun q3=>csplit (fun q4=>?_) (fun q4=>?_))))
  ·rw [q,q2,q3]
   rw [fo] at q4
   cases z:l.any p5R with
   | true=>rfl
   | false=>rw [z] at q4; rw [show snO l=false by simpa using q4]; rfl
  ·rw [q,q2,q3]
   rw [fo] at q4
   obtain ⟨z1,z2⟩:=Bool.or_eq_false_iff.1 q4
   rw [z1,show snO l=true by simpa using z2]; rfl
def rvalidF_S (pdV:Int→Int→Bool→Int→Int→Int→Int→LLR→Bool) (nmOk:ByteArray→Bool) (rgV:LLR→Int) (nrm:Int→Int→Int→Int→Int × Int × Int × Int) (vld:Int→Int→Int→Int→Bool) (isN:Int→Int→Int→Int→Bool) (inB:Int→Bool) (bsOk:LLR→Bool):Prop:=∀ (gl:Glob) (l:List (List AV)) (g:Bool),StsP l→fnK Tryz.prog { glob:=gl,spec:=lk [(51,rkind_s),(75,(rname_s nmOk)),(76,(rperiod_s nrm vld isN pdV inB bsOk))],specH:=lk [],shape:=[31,56,86,108,124,130],slz:=[(31,[7]),(56,[7]),(108,[2])],nowf:=true } { nt:=145,drop:=drp [(1,31744),(3,16744448),(4,100663296),(5,4160749568),(6,8791798054912),(7,8796093022208),(11,527765581332480),(12,3377699720527872),(13,139611588448485376),(14,73642861106762350592),(15,37705144886662323503104),(16,4951722378209658142434787328),(18,74276402357122816493947453440),(19,475368975085586025561263702016),(20,10383959891769541142360244306837504),(21,21778061098346344592000717814640507092992),(22,130668428897640369969935849253798993199104),(24,1045347431181122959759486794030391945592832),(26,8362779449448983678075894352243135564742656),(28,22300745198530623141535718272648361505980416)] } (vfJ l g) 6 Tryz.f32 [.agg [.sl 3 g l]] (.int .i64 (rgV l))
theorem rvalidF_e (pdV:Int→Int→Bool→Int→Int→Int→Int→LLR→Bool) (nmOk:ByteArray→Bool) (rgV:LLR→Int) (nrm:Int→Int→Int→Int→Int × Int × Int × Int) (vld:Int→Int→Int→Int→Bool) (isN:Int→Int→Int→Int→Bool) (inB:Int→Bool) (bsOk:LLR→Bool):rvalidF_T pdV nmOk rgV nrm vld isN inB bsOk=rvalidF_S pdV nmOk rgV nrm vld isN inB bsOk:=by kernel_rfl
theorem rvalidF_v:rvalidF_S pdV nmOk rgV nrm vld isN inB bsOk:=Eq.mp (rvalidF_e ..) (rvalidF_P)
theorem rvalidF_ok (gl:Glob):SOK Tryz.prog gl 32 (rvalidF_s pdV nmOk rgV):=by
 refine ⟨fok Tryz.func32 (by kernel_rfl) (by kernel_rfl),?_⟩
 intro xs pre r h hp
 unfold rvalidF_s at h
 split at h
 ·simp only [Option.some.injEq,Prod.mk.injEq] at h
  obtain ⟨h1,h2⟩:=h
  subst h1 h2
  exact fnK_sound tyNil (by exact specOK rfl rfl ⟨(rkind_ok gl),(rname_ok gl),(rperiod_ok gl),trivial⟩ trivial) (by kernel_rfl) Tryz.func32 rfl (rvalidF_v gl _ _ hp)
 ·cases h
end Go.Proofs.YtldiagnbagpliaaGreatDoor
