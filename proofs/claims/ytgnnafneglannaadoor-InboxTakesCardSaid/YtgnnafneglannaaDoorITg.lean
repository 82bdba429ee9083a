import Derived.Test.YtgnnafneglannaaDoorITf
namespace Go.Proofs.YtgnnafneglannaaDoor
open Go
set_option linter.unusedVariables false
set_option linter.unusedSimpArgs false
structure RaI (l : LLA) (x : List AV) (i : Int) : Prop where
  flo : 0≤i
  fhi : i≤l.length
  fl : ∀ k : Nat,(k : Int) < i→itC (l.getD k []) x < 0
def raS (l : LLA) (k t f a b c co ar : Int) (n : ByteArray) (rd : LLA) (g : Bool) (i : Int) : St := ⟨[(0,.sl 10 g l),(3,.ptr 3 0),(4,.nils),(5,.int .i64 0),(8,.int .i64 i)],[(3,.cells [.int .i64 k,.str n,.int .i64 t,.int .i64 f,.int .i64 a,.int .i64 b,.int .i64 c,.sl 2 false rd,.int .i64 co,.int .i64 ar])]⟩
def ra8 (l : LLA) (k t f a b c co ar : Int) (n : ByteArray) (rd : LLA) (g : Bool) : LInv := ⟨Int,raS l k t f a b c co ar n rd g,RaI l (itA k n t f a b c rd co ar),fun i => (l.length - i).toNat,none⟩
structure RaE (l : LLA) (x : List AV) (i : Int) : Prop where
  fe : i=(posI l x : Nat)
def raC (l : LLA) (k t f a b c co ar : Int) (n : ByteArray) (rd : LLA) (g : Bool) : LInv := ⟨Int,raS l k t f a b c co ar n rd g,RaE l (itA k n t f a b c rd co ar),fun i => 0,none⟩
theorem radd_fin {l L : LLA} (hL : L=l) {x : List AV} (hl : l.length≤150) (hpl : posI l x≤l.length) (hO : adE l x=0→adO l x=addI l x) (hO2 : ¬ adE l x=0→adO l x=[]) (hh : ¬ hasI l x=true) (hE : adE l x=if 150≤l.length then 2 else 0) : cond (decide (150≤(l.length : Int))) (adO l x=[]∧2=adE l x∧True) (cond (decide (0≤((posI l x : Nat) : Int)∧((posI l x : Nat) : Int)≤l.length)) (cond (decide ((0 : Int)≤0∧0≤((posI l x : Nat) : Int))) (cond (decide (0=0∧0 + (l.take (posI l x)).length≤9223372036854775807∧(0 + (l.take (posI l x)).length) * 104≤140737488355328)) (cond (decide ((l.take (posI l x)).length=(l.take (posI l x)).length∧(l.take (posI l x)).length + [x].length≤9223372036854775807∧((l.take (posI l x)).length + [x].length) * 104≤140737488355328)) (cond (decide (0≤(l.length : Int)∧(l.length : Int)≤l.length)) (cond (decide (0≤((posI l x : Nat) : Int)∧((posI l x : Nat) : Int)≤l.length)) (cond (decide ((l.take (posI l x) ++ [x]).length=(l.take (posI l x) ++ [x]).length∧(l.take (posI l x) ++ [x]).length + (L.drop (posI l x)).length≤9223372036854775807∧((l.take (posI l x) ++ [x]).length + (L.drop (posI l x)).length) * 104≤140737488355328)) (cond (decide ((l.take (posI l x) ++ [x] ++ L.drop (posI l x)).length=(l.take (posI l x) ++ [x] ++ L.drop (posI l x)).length)) ((True∧l.take (posI l x) ++ [x] ++ L.drop (posI l x)=adO l x)∧0=adE l x∧True) False) False) False) False) False) False) False) False) := by
  subst hL
  refine csx (fun w => ?_) (fun w => ?_)
  · rw [if_pos (by omega)] at hE
    exact ⟨hO2 (by rw [hE]; decide),hE.symm,trivial⟩
  · rw [if_neg (by omega)] at hE
    have h1 : (L.take (posI L x)).length=posI L x := by rw [List.length_take]; omega
    have h2 : (L.drop (posI L x)).length=L.length - posI L x := List.length_drop
    refine cd1 (by omega) (cd1 (by omega) (cd1 ⟨rfl,by omega,by omega⟩ (cd1 ⟨rfl,by rw [h1]; simp; omega,by rw [h1]; simp; omega⟩ (cd1 (by omega) (cd1 (by omega) (cd1 ⟨rfl,by rw [List.length_append,h1,h2]; simp; omega,by rw [List.length_append,h1,h2]; simp; omega⟩ (cd1 rfl ⟨⟨trivial,?_⟩,hE.symm,trivial⟩)))))))
    rw [hO hE]
    unfold addI insI
    rw [if_neg hh,List.append_assoc]; rfl
def radd_s (posI : LLA→List AV→Nat) (inV : LLA→Int) (itC : List AV→List AV→Int) (itE : Int→ByteArray→Int→Int→Int→Int→Int→LLA→Int→Int→Int) (adE : LLA→List AV→Int) (adO : LLA→List AV→LLA) : Sp
  | [.sl 10 g l,.agg [.int .i64 k,.str n,.int .i64 t,.int .i64 f,.int .i64 a,.int .i64 b,.int .i64 c,.sl 2 false rd,.int .i64 co,.int .i64 ar]] => some (AdP l rd,.tup [.sl 10 false (adO l (itA k n t f a b c rd co ar)),.int .i64 (adE l (itA k n t f a b c rd co ar))])
  | _ => none
set_option maxRecDepth 100000 in
def radd_T (posI : LLA→List AV→Nat) (inV : LLA→Int) (itC : List AV→List AV→Int) (itE : Int→ByteArray→Int→Int→Int→Int→Int→LLA→Int→Int→Int) (adE : LLA→List AV→Int) (adO : LLA→List AV→LLA) (gpE : Int→ByteArray→Int→Int→Int→Int→Int→LLA→Int) (inB : Int→Bool) (rdC : LLA→LLA→Int) (cmpI : Int→Int→Int) (cmpS : ByteArray→ByteArray→Int) : Prop :=
  ∀ (gl : Glob) (l : List (List AV)) (g : Bool) (k t f a b c co ar:Int) (n : ByteArray) (rd : List (List AV)),AdP l rd→True→((-9223372036854775808:Int)≤k∧k≤(9223372036854775807:Int))∧n.size.le (9223372036854775807:Nat)∧((-9223372036854775808:Int)≤t∧t≤(9223372036854775807:Int))∧((-9223372036854775808:Int)≤f∧f≤(9223372036854775807:Int))∧((-9223372036854775808:Int)≤a∧a ≤
 (9223372036854775807:Int))∧((-9223372036854775808:Int)≤b∧b≤(9223372036854775807:Int))∧((-9223372036854775808:Int)≤c∧c≤(9223372036854775807:Int))∧True∧((-9223372036854775808:Int)≤co∧co≤(9223372036854775807:Int))∧((-9223372036854775808:Int)≤ar∧ar≤(9223372036854775807:Int))∧True→ItsP l∧bif decide ¬inV l=(0:Int) then adO l (itA k n t f a b c rd co ar)=[]∧inV l=adE l (itA k n t f a b c
 rd co ar)∧True else RdsP rd∧bif decide ¬itE k n t f a b c rd co ar=(0:Int) then adO l (itA k n t f a b c rd co ar)=[]∧itE k n t f a b c rd co ar=adE l (itA k n t f a b c rd co ar)∧True else ((∃ x,RaI l (itA k n t f a b c rd co ar) x∧(((bif g then g=true else True)∧l=l)∧(0:Nat)=0∧True∧(0:Int)=0∧(0:Int)=x∧True)∧(k=k∧n=n∧t=t∧f=f∧a=a∧b=b∧c=c∧(True∧rd=rd)∧co=co∧ar=ar∧True)∧True)∧∀ (x:Int),RaI l (itA k n
 t f a b c rd co ar) x→bif decide (x < (↑l.length:Int)) then bif decide ((0:Int)≤x∧x < (↑l.length:Int)) then ∃ n_1 s n_2 n_3 n_4 n_5 n_6 xs n_7 n_8,List.take [AV.int .i64 n_1,.str s,.int .i64 n_2,.int .i64 n_3,.int .i64 n_4,.int .i64 n_5,.int .i64 n_6,.sl (2:Nat) false xs,.int .i64 n_7,.int .i64 n_8].length (l.getD x.toNat [])=[AV.int .i64 n_1,.str s,.int .i64 n_2,.int .i64 n_3,.int .i64 n_4,.int
 .i64 n_5,.int .i64 n_6,.sl (2:Nat) false xs,.int .i64 n_7,.int .i64 n_8]∧(RdsP xs∧RdsP rd)∧bif decide (itC (itA n_1 s n_2 n_3 n_4 n_5 n_6 xs n_7 n_8) (itA k n t f a b c rd co ar) < (0:Int)) then bif decide (rng .i64 (x + (1:Int))) then ∃ y,RaI l (itA k n t f a b c rd co ar) y∧(ra8 l k t f a b c co ar n rd g).m y < (ra8 l k t f a b c co ar n rd g).m x∧(((bif g then g=true else
 True)∧l=l)∧(0:Nat)=0∧True∧(0:Int)=0∧x + (1:Int)=y∧True)∧(k=k∧n=n∧t=t∧f=f∧a=a∧b=b∧c=c∧(True∧rd=rd)∧co=co∧ar=ar∧True)∧True else False else ∃ x_1,RaE l (itA k n t f a b c rd co ar) x_1∧(((bif g then g=true else True)∧l=l)∧(0:Nat)=0∧True∧(0:Int)=0∧x=x_1∧True)∧(k=k∧n=n∧t=t∧f=f∧a=a∧b=b∧c=c∧(True∧rd=rd)∧co=co∧ar=ar∧True)∧True else False else ∃ x_1,RaE l (itA k n t f a b c rd co ar) x_1∧(((bif g then
 g=true else True)∧l=l)∧(0:Nat)=0∧True∧(0:Int)=0∧x=x_1∧True)∧(k=k∧n=n∧t=t∧f=f∧a=a∧b=b∧c=c∧(True∧rd=rd)∧co=co∧ar=ar∧True)∧True)∧∀ (x:Int),RaE l (itA k n t f a b c rd co ar) x→bif decide (x < (↑l.length:Int)) then bif decide ((0:Int)≤x∧x < (↑l.length:Int)) then ∃ n_1 s n_2 n_3 n_4 n_5 n_6 xs n_7 n_8,List.take [AV.int .i64 n_1,.str s,.int .i64 n_2,.int .i64 n_3,.int .i64 n_4,.int .i64 n_5,.int .i64
 n_6,.sl (2:Nat) false xs,.int .i64 n_7,.int .i64 n_8].length (l.getD x.toNat [])=[AV.int .i64 n_1,.str s,.int .i64 n_2,.int .i64 n_3,.int .i64 n_4,.int .i64 n_5,.int .i64 n_6,.sl (2:Nat) false xs,.int .i64 n_7,.int .i64 n_8]∧(RdsP xs∧RdsP rd)∧bif decide (itC (itA n_1 s n_2 n_3 n_4 n_5 n_6 xs n_7 n_8) (itA k n t f a b c rd co ar)=(0:Int)) then bif decide ((0:Nat)=0∧(0:Nat) + l.length ≤
 (9223372036854775807:Nat)∧((0:Nat) + l.length) * (104:Nat)≤(140737488355328:Nat)) then bif decide (([] ++ l).length=([] ++ l).length) then (True∧[] ++ l=adO l (itA k n t f a b c rd co ar))∧(0:Int)=adE l (itA k n t f a b c rd co ar)∧True else False else False else bif decide ((150:Int)≤(↑l.length:Int)) then adO l (itA k n t f a b c rd co ar)=[]∧(2:Int)=adE l (itA k n t f a b c rd co ar)∧True
 else bif decide ((0:Int)≤x∧x≤(↑l.length:Int)) then bif decide ((0:Int)≤(0:Int)∧(0:Int)≤x) then bif decide ((0:Nat)=0∧(0:Nat) + (List.drop (0:Nat) (List.take x.toNat l)).length≤(9223372036854775807:Nat)∧((0:Nat) + (List.drop (0:Nat) (List.take x.toNat l)).length) * (104:Nat)≤(140737488355328:Nat)) then bif decide (([] ++ List.drop (0:Nat) (List.take x.toNat l)).length=([] ++ List.drop
 (0:Nat) (List.take x.toNat l)).length∧([] ++ List.drop (0:Nat) (List.take x.toNat l)).length + [[AV.int .i64 k,.str n,.int .i64 t,.int .i64 f,.int .i64 a,.int .i64 b,.int .i64 c,.sl (2:Nat) false rd,.int .i64 co,.int .i64 ar]].length≤(9223372036854775807:Nat)∧(([] ++ List.drop (0:Nat) (List.take x.toNat l)).length + [[AV.int .i64 k,.str n,.int .i64 t,.int .i64 f,.int .i64 a,.int .i64 b,.int .i64
 c,.sl (2:Nat) false rd,.int .i64 co,.int .i64 ar]].length) * (104:Nat)≤(140737488355328:Nat)) then bif decide ((0:Int)≤(↑l.length:Int)∧(↑l.length:Int)≤(↑l.length:Int)) then bif decide ((0:Int)≤x∧x≤(↑l.length:Int)) then bif decide (([] ++ List.drop (0:Nat) (List.take x.toNat l) ++ [[AV.int .i64 k,.str n,.int .i64 t,.int .i64 f,.int .i64 a,.int .i64 b,.int .i64 c,.sl (2:Nat) false rd,.int
 .i64 co,.int .i64 ar]]).length=([] ++ List.drop (0:Nat) (List.take x.toNat l) ++ [[AV.int .i64 k,.str n,.int .i64 t,.int .i64 f,.int .i64 a,.int .i64 b,.int .i64 c,.sl (2:Nat) false rd,.int .i64 co,.int .i64 ar]]).length∧([] ++ List.drop (0:Nat) (List.take x.toNat l) ++ [[AV.int .i64 k,.str n,.int .i64 t,.int .i64 f,.int .i64 a,.int .i64 b,.int .i64 c,.sl (2:Nat) false rd,.int .i64 co,.int .i64
 ar]]).length + (List.drop x.toNat (List.take (↑l.length:Int).toNat l)).length≤(9223372036854775807:Nat)∧(([] ++ List.drop (0:Nat) (List.take x.toNat l) ++ [[AV.int .i64 k,.str n,.int .i64 t,.int .i64 f,.int .i64 a,.int .i64 b,.int .i64 c,.sl (2:Nat) false rd,.int .i64 co,.int .i64 ar]]).length + (List.drop x.toNat (List.take (↑l.length:Int).toNat l)).length) * (104:Nat)≤(140737488355328:Nat))
 then bif decide (([] ++ List.drop (0:Nat) (List.take x.toNat l) ++ [[AV.int .i64 k,.str n,.int .i64 t,.int .i64 f,.int .i64 a,.int .i64 b,.int .i64 c,.sl (2:Nat) false rd,.int .i64 co,.int .i64 ar]] ++ List.drop x.toNat (List.take (↑l.length:Int).toNat l)).length=([] ++ List.drop (0:Nat) (List.take x.toNat l) ++ [[AV.int .i64 k,.str n,.int .i64 t,.int .i64 f,.int .i64 a,.int .i64 b,.int .i64 c,.sl
 (2:Nat) false rd,.int .i64 co,.int .i64 ar]] ++ List.drop x.toNat (List.take (↑l.length:Int).toNat l)).length) then (True∧[] ++ List.drop (0:Nat) (List.take x.toNat l) ++ [[AV.int .i64 k,.str n,.int .i64 t,.int .i64 f,.int .i64 a,.int .i64 b,.int .i64 c,.sl (2:Nat) false rd,.int .i64 co,.int .i64 ar]] ++ List.drop x.toNat (List.take (↑l.length:Int).toNat l)=adO l (itA k n t f a b c rd co
 ar))∧(0:Int)=adE l (itA k n t f a b c rd co ar)∧True else False else False else False else False else False else False else False else False else False else bif decide ((150:Int)≤(↑l.length:Int)) then adO l (itA k n t f a b c rd co ar)=[]∧(2:Int)=adE l (itA k n t f a b c rd co ar)∧True else bif decide ((0:Int)≤x∧x≤(↑l.length:Int)) then bif decide ((0:Int)≤(0:Int)∧(0:Int)≤x) then bif
 decide ((0:Nat)=0∧(0:Nat) + (List.drop (0:Nat) (List.take x.toNat l)).length≤(9223372036854775807:Nat)∧((0:Nat) + (List.drop (0:Nat) (List.take x.toNat l)).length) * (104:Nat)≤(140737488355328:Nat)) then bif decide (([] ++ List.drop (0:Nat) (List.take x.toNat l)).length=([] ++ List.drop (0:Nat) (List.take x.toNat l)).length∧([] ++ List.drop (0:Nat) (List.take x.toNat l)).length + [[AV.int .i64
 k,.str n,.int .i64 t,.int .i64 f,.int .i64 a,.int .i64 b,.int .i64 c,.sl (2:Nat) false rd,.int .i64 co,.int .i64 ar]].length≤(9223372036854775807:Nat)∧(([] ++ List.drop (0:Nat) (List.take x.toNat l)).length + [[AV.int .i64 k,.str n,.int .i64 t,.int .i64 f,.int .i64 a,.int .i64 b,.int .i64 c,.sl (2:Nat) false rd,.int .i64 co,.int .i64 ar]].length) * (104:Nat)≤(140737488355328:Nat)) then bif
 decide ((0:Int)≤(↑l.length:Int)∧(↑l.length:Int)≤(↑l.length:Int)) then bif decide ((0:Int)≤x∧x≤(↑l.length:Int)) then bif decide (([] ++ List.drop (0:Nat) (List.take x.toNat l) ++ [[AV.int .i64 k,.str n,.int .i64 t,.int .i64 f,.int .i64 a,.int .i64 b,.int .i64 c,.sl (2:Nat) false rd,.int .i64 co,.int .i64 ar]]).length=([] ++ List.drop (0:Nat) (List.take x.toNat l) ++ [[AV.int .i64 k,.str
 n,.int .i64 t,.int .i64 f,.int .i64 a,.int .i64 b,.int .i64 c,.sl (2:Nat) false rd,.int .i64 co,.int .i64 ar]]).length∧([] ++ List.drop (0:Nat) (List.take x.toNat l) ++ [[AV.int .i64 k,.str n,.int .i64 t,.int .i64 f,.int .i64 a,.int .i64 b,.int .i64 c,.sl (2:Nat) false rd,.int .i64 co,.int .i64 ar]]).length + (List.drop x.toNat (List.take (↑l.length:Int).toNat l)).length ≤
 (9223372036854775807:Nat)∧(([] ++ List.drop (0:Nat) (List.take x.toNat l) ++ [[AV.int .i64 k,.str n,.int .i64 t,.int .i64 f,.int .i64 a,.int .i64 b,.int .i64 c,.sl (2:Nat) false rd,.int .i64 co,.int .i64 ar]]).length + (List.drop x.toNat (List.take (↑l.length:Int).toNat l)).length) * (104:Nat)≤(140737488355328:Nat)) then bif decide (([] ++ List.drop (0:Nat) (List.take x.toNat l) ++ [[AV.int .i64
 k,.str n,.int .i64 t,.int .i64 f,.int .i64 a,.int .i64 b,.int .i64 c,.sl (2:Nat) false rd,.int .i64 co,.int .i64 ar]] ++ List.drop x.toNat (List.take (↑l.length:Int).toNat l)).length=([] ++ List.drop (0:Nat) (List.take x.toNat l) ++ [[AV.int .i64 k,.str n,.int .i64 t,.int .i64 f,.int .i64 a,.int .i64 b,.int .i64 c,.sl (2:Nat) false rd,.int .i64 co,.int .i64 ar]] ++ List.drop x.toNat (List.take
 (↑l.length:Int).toNat l)).length) then (True∧[] ++ List.drop (0:Nat) (List.take x.toNat l) ++ [[AV.int .i64 k,.str n,.int .i64 t,.int .i64 f,.int .i64 a,.int .i64 b,.int .i64 c,.sl (2:Nat) false rd,.int .i64 co,.int .i64 ar]] ++ List.drop x.toNat (List.take (↑l.length:Int).toNat l)=adO l (itA k n t f a b c rd co ar))∧(0:Int)=adE l (itA k n t f a b c rd co ar)∧True else False else False else False
 else False else False else False else False else False
set_option maxRecDepth 100000 in
theorem radd_P : radd_T posI inV itC itE adE adO gpE inB rdC cmpI cmpS := by
  unfold radd_T
  intro gl l g k t f a b c co ar n rd hp _ _
  have ln := hp.fp.fl
  have bg : cond g (g=true) True := by cases g <;> trivial
  have hc : ckR (itA k n t f a b c rd co ar)=itE k n t f a b c rd co ar := rfl
  have hxr : [[.int .i64 k,.str n,.int .i64 t,.int .i64 f,.int .i64 a,.int .i64 b,.int .i64 c,.sl 2 false rd,.int .i64 co,.int .i64 ar]]=[itA k n t f a b c rd co ar] := rfl
  rw [hxr,← hc]
  generalize itA k n t f a b c rd co ar=x
  refine ⟨hp.fp,csx (fun q => ?_) (fun q => ⟨hp.fr,csx (fun q2 => ?_) (fun q2 => ?_)⟩)⟩
  · unfold adO adE; rw [if_neg q,if_neg q]; exact ⟨rfl,rfl,trivial⟩
  · have q := Decidable.not_not.1 q
    unfold adO adE puE; rw [if_pos q,if_neg q2,if_neg q2]; exact ⟨rfl,rfl,trivial⟩
  have q := Decidable.not_not.1 q
  have q2 := Decidable.not_not.1 q2
  obtain ⟨hl,_,hs⟩ := inV_ok q
  have hE : adE l x=if hasI l x then 0 else if 150≤l.length then 2 else 0 := by unfold adE puE; rw [if_pos q,if_pos q2]
  have hO : adE l x=0→adO l x=addI l x := fun e => by unfold adO; rw [if_pos e]
  have hO2 : ¬ adE l x=0→adO l x=[] := fun e => by unfold adO; rw [if_neg e]
  refine ⟨⟨⟨0,⟨by decide,by omega,fun j hj => by omega⟩,by (repeat' (first | exact trivial | exact rfl | assumption | apply And.intro))⟩,?_⟩,?_⟩
  · rintro i ⟨i0,i1,il⟩
    have cut : ¬ (i < l.length∧itC (l.getD i.toNat []) x < 0)→RaE l x i := fun hn => ⟨by
      have := pos_uniq (l := l) (x := x) (i := i.toNat) (by omega) (fun j hj => il j (by omega)) (fun hi => by
        apply Int.not_lt.1
        intro z
        exact hn ⟨by omega,z⟩)
      omega⟩
    have cutT : ¬ (i < l.length∧itC (l.getD i.toNat []) x < 0)→∃ y,RaE l x y∧((cond g (g=true) True∧l=l)∧(0 : Nat)=0∧True∧(0 : Int)=0∧i=y∧True)∧(k=k∧n=n∧t=t∧f=f∧a=a∧b=b∧c=c∧(True∧rd=rd)∧co=co∧ar=ar∧True)∧True := fun hn => ⟨i,cut hn,by (repeat' (first | exact trivial | exact rfl | assumption | apply And.intro))⟩
    refine csx (fun hi => cd1 (by omega) ?_) (fun hi => cutT (by omega))
    · obtain ⟨k2,nm2,t2,a12,a2,b2,c2,rd2,co2,ar2,hr,hrd2⟩ := hp.fp.fr i.toNat (by omega)
      refine ⟨k2,nm2,t2,a12,a2,b2,c2,rd2,co2,ar2,by rw [hr]; rfl,⟨hrd2,hp.fr⟩,?_⟩
      rw [← hr]
      refine csx (fun z => cdI (by omega) ⟨i + 1,⟨by omega,by omega,fun j hj => ?_⟩,by simp only [ra8]; omega,by (repeat' (first | exact trivial | exact rfl | assumption | apply And.intro))⟩) (fun z => cutT (fun w => z w.2))
      rcases Int.lt_or_le (j : Int) i with w | w
      · exact il j w
      · rw [show j=i.toNat by omega]; exact z
  rintro i ⟨hi⟩
  subst hi
  have hpl := pos_le l x
  have hL : List.take ((l.length : Int)).toNat l=l := by rw [Int.toNat_natCast,List.take_length]
  refine csx (fun hi => cd1 (by omega) ?_) (fun hi => ?_)
  · obtain ⟨k2,nm2,t2,a12,a2,b2,c2,rd2,co2,ar2,hr,hrd2⟩ := hp.fp.fr (posI l x) (by omega)
    refine ⟨k2,nm2,t2,a12,a2,b2,c2,rd2,co2,ar2,by rw [Int.toNat_natCast,hr]; rfl,⟨hrd2,hp.fr⟩,?_⟩
    rw [← hr,Int.toNat_natCast]
    refine csx (fun z => ?_) (fun z => ?_)
    · have hh : hasI l x=true := (has_iff hs).2 ⟨by omega,z⟩
      rw [if_pos hh] at hE
      refine cd1 ⟨rfl,by omega,by omega⟩ (cd1 rfl ⟨⟨trivial,?_⟩,hE.symm,trivial⟩)
      rw [hO hE]; unfold addI; rw [if_pos hh]; rfl
    · have hh : ¬ hasI l x=true := fun w => z ((has_iff hs).1 w).2
      rw [if_neg hh] at hE
      exact radd_fin hL hl hpl hO hO2 hh hE
  · have hh : ¬ hasI l x=true := fun w => by have := ((has_iff hs).1 w).1; omega
    rw [if_neg hh] at hE
    exact radd_fin hL hl hpl hO hO2 hh hE
def radd_S (posI : LLA→List AV→Nat) (inV : LLA→Int) (itC : List AV→List AV→Int) (itE : Int→ByteArray→Int→Int→Int→Int→Int→LLA→Int→Int→Int) (adE : LLA→List AV→Int) (adO : LLA→List AV→LLA) (gpE : Int→ByteArray→Int→Int→Int→Int→Int→LLA→Int) (inB : Int→Bool) (rdC : LLA→LLA→Int) (cmpI : Int→Int→Int) (cmpS : ByteArray→ByteArray→Int) : Prop := ∀ (gl : Glob) (l : List (List AV)) (g : Bool) (k t f a b c co ar : Int) (n : ByteArray) (rd : List (List AV)),AdP l rd→fnK Tryd.prog { glob := gl,spec := lk [(26,(ivalidR_s inV itC itE)),(47,(ritem_s gpE itE inB)),(42,(ricmp_s rdC cmpI cmpS itC))],specH := lk [],shape := [28,43],slz := [(28,[2]),(43,[2])],nowf := true } { nt := 67,drop := drp [(1,3072),(2,4096),(3,16384),(4,98304),(5,131072),(6,524288),(8,4293918720),(9,25769803776),(10,140703128616960),(11,1970324836974592),(12,6755399441055744),(14,4593671619917905920),(15,142962266571249025024)] } (invs [(8,ra8 l k t f a b c co ar n rd g),(100010,raC l k t f a b c co ar n rd g)]) 6 Tryd.f33 [.sl 10 g l,.agg [.int .i64 k,.str n,.int .i64 t,.int .i64 f,.int .i64 a,.int .i64 b,.int .i64 c,.sl 2 false rd,.int .i64 co,.int .i64 ar]] (.tup [.sl 10 false (adO l (itA k n t f a b c rd co ar)),.int .i64 (adE l (itA k n t f a b c rd co ar))])
set_option maxRecDepth 100000 in
theorem radd_e (posI : LLA→List AV→Nat) (inV : LLA→Int) (itC : List AV→List AV→Int) (itE : Int→ByteArray→Int→Int→Int→Int→Int→LLA→Int→Int→Int) (adE : LLA→List AV→Int) (adO : LLA→List AV→LLA) (gpE : Int→ByteArray→Int→Int→Int→Int→Int→LLA→Int) (inB : Int→Bool) (rdC : LLA→LLA→Int) (cmpI : Int→Int→Int) (cmpS : ByteArray→ByteArray→Int) : radd_T posI inV itC itE adE adO gpE inB rdC cmpI cmpS=radd_S posI inV itC itE adE adO gpE inB rdC cmpI cmpS := by kernel_rfl
theorem radd_v : radd_S posI inV itC itE adE adO gpE inB rdC cmpI cmpS := @Eq.mp (radd_T posI inV itC itE adE adO gpE inB rdC cmpI cmpS) (radd_S posI inV itC itE adE adO gpE inB rdC cmpI cmpS) (radd_e posI inV itC itE adE adO gpE inB rdC cmpI cmpS) (radd_P)
theorem radd_ok (gl : Glob) : SOK Tryd.prog gl 33 (radd_s posI inV itC itE adE adO) := by
  refine ⟨fok Tryd.func33 (by kernel_rfl) (by kernel_rfl),?_⟩
  intro xs pre r h hp
  unfold radd_s at h
  split at h
  · simp only [Option.some.injEq,Prod.mk.injEq] at h
    obtain ⟨h1,h2⟩ := h
    subst h1 h2
    exact fnK_sound tyNil (by exact specOK rfl rfl ⟨(ivalidR_ok gl),(ritem_ok gl),(ricmp_ok gl),trivial⟩ trivial) (by kernel_rfl) Tryd.func33 rfl (radd_v gl _ _ _ _ _ _ _ _ _ _ _ _ hp)
  · cases h
theorem inV_of {l : LLA} (h1 : l.length≤150) (h2 : ∀ r ∈ l,ckR r=0) (h3 : Srt l) : inV l=0 := by
  have e1 : firE l=0 := firE_zero fun j hj => by rw [getD_lt hj]; exact h2 _ (List.getElem_mem hj)
  have e2 : adjB l=true := by
    unfold adjB
    refine decide_eq_true fun j hj => ?_
    by_cases hz : j=0
    · exact .inl hz
    · exact .inr (srt_get h3 (by omega) hj)
  unfold inV
  rw [if_neg (by omega),if_pos e1,if_pos e2]
theorem puE_ok {l : LLA} {x : List AV} (h : puE l x=0) : ckR x=0 := by
  unfold puE at h
  split at h
  · assumption
  · next e => exact absurd h e
theorem inV_add {l : LLA} {x : List AV} (h : inV l=0) (hl : GdL l) (hx : ItG x) (hp : puE l x=0) : inV (addI l x)=0 := by
  obtain ⟨h1,h2,h3⟩ := inV_ok h
  refine inV_of (addI_gd hl hx hp h1).2 (fun r hr => ?_) (addI_srt h3)
  unfold addI at hr
  split at hr
  · exact firE_all h2 r hr
  · rcases ins_mem.1 hr with rfl | hr
    · exact puE_ok hp
    · exact firE_all h2 r hr
structure TrI (l rs : LLA) (co ar : Int) (x : Int × LLA) : Prop where
  flo : 0≤x.1
  fhi : x.1≤rs.length
  fp : ItsP x.2
  fq : inV x.2=0→GdL x.2
  fz : (x.1=0∧x.2=l)∨inV x.2=0
  fe : tkE l rs co ar=tkE x.2 (rs.drop x.1.toNat) co ar
  fo : tkO l rs co ar=tkO x.2 (rs.drop x.1.toNat) co ar
def tr6 (l rs : LLA) (g e : Bool) (co ar : Int) : LInv := ⟨Int × LLA,fun x => ⟨[(0,.sl 10 g l),(1,.sl 8 e rs),(2,.int .i64 co),(3,.int .i64 ar),(8,.nils),(9,.int .i64 0),(10,.int .i64 0),(12,.sl 10 false x.2),(13,.int .i64 x.1)],[]⟩,TrI l rs co ar,fun x => (rs.length - x.1).toNat,none⟩
structure TrP (l rs : LLA) : Prop where
  fp : ItsP l
  fl : l.length≤900
  fq : inV l=0→GdL l
  fr : RpL rs
def rtake_s (inV : LLA→Int) (adE : LLA→List AV→Int) (adO : LLA→List AV→LLA) (tkE : LLA→LLA→Int→Int→Int) (tkN : LLA→LLA→Int→Int→Int) (tkO : LLA→LLA→Int→Int→LLA) : Sp
  | [.sl 10 g l,.sl 8 e rs,.int .i64 co,.int .i64 ar] => some (TrP l rs,.tup [.sl 10 false (tkO l rs co ar),.int .i64 (tkN l rs co ar),.int .i64 (tkE l rs co ar)])
  | _ => none
set_option maxRecDepth 100000 in
def rtake_T (inV : LLA→Int) (adE : LLA→List AV→Int) (adO : LLA→List AV→LLA) (tkE : LLA→LLA→Int→Int→Int) (tkN : LLA→LLA→Int→Int→Int) (tkO : LLA→LLA→Int→Int→LLA) (itC : List AV→List AV→Int) (itE : Int→ByteArray→Int→Int→Int→Int→Int→LLA→Int→Int→Int) (posI : LLA→List AV→Nat) : Prop :=
  ∀ (gl : Glob) (l rs : List (List AV)) (g e : Bool) (co ar:Int),TrP l rs→True→True→(-9223372036854775808:Int)≤co∧co≤(9223372036854775807:Int)→(-9223372036854775808:Int)≤ar∧ar≤(9223372036854775807:Int)→ItsP l∧bif decide ¬inV l=(0:Int) then bif decide ((↑rs.length:Int)=(0:Int)) then tkO l rs co ar=[]∧(0:Int)=tkN l rs co ar∧inV l=tkE l rs co ar∧True else bif decide ((0:Nat)=0∧(0:Nat) +
 l.length≤(9223372036854775807:Nat)∧((0:Nat) + l.length) * (104:Nat)≤(140737488355328:Nat)) then (∃ x,TrI l rs co ar x∧(((bif g then g=true else True)∧l=l)∧((bif e then e=true else True)∧rs=rs)∧co=co∧ar=ar∧True∧(0:Int)=0∧(0:Int)=0∧(([] ++ l).length=([] ++ l).length∧[] ++ l=x.snd)∧(0:Int)=x.fst∧True)∧True)∧∀ (x : Int × LLA),TrI l rs co ar x→bif decide (x.fst < (↑rs.length:Int)) then bif decide
 ((0:Int)≤x.fst∧x.fst < (↑rs.length:Int)) then ∃ n s n_1 n_2 n_3 n_4 n_5 xs,List.take [AV.int .i64 n,.str s,.int .i64 n_1,.int .i64 n_2,.int .i64 n_3,.int .i64 n_4,.int .i64 n_5,.sl (2:Nat) false xs].length (rs.getD x.fst.toNat [])=[AV.int .i64 n,.str s,.int .i64 n_1,.int .i64 n_2,.int .i64 n_3,.int .i64 n_4,.int .i64 n_5,.sl (2:Nat) false xs]∧AdP x.snd xs∧bif decide ¬adE x.snd (itA n s n_1 n_2
 n_3 n_4 n_5 xs co ar)=(0:Int) then tkO l rs co ar=[]∧(0:Int)=tkN l rs co ar∧adE x.snd (itA n s n_1 n_2 n_3 n_4 n_5 xs co ar)=tkE l rs co ar∧True else bif decide (rng .i64 (x.fst + (1:Int))) then ∃ y,TrI l rs co ar y∧(tr6 l rs g e co ar).m y < (tr6 l rs g e co ar).m x∧(((bif g then g=true else True)∧l=l)∧((bif e then e=true else True)∧rs=rs)∧co=co∧ar=ar∧True∧(0:Int)=0∧(0:Int)=0∧(True∧adO x.snd (itA
 n s n_1 n_2 n_3 n_4 n_5 xs co ar)=y.snd)∧x.fst + (1:Int)=y.fst∧True)∧True else False else False else bif decide (rng .i64 ((↑(List.length x.snd):Int) - (↑l.length:Int))) then (True∧x.snd=tkO l rs co ar)∧(↑(List.length x.snd):Int) - (↑l.length:Int)=tkN l rs co ar∧(0:Int)=tkE l rs co ar∧True else False else False else bif decide ((0:Nat)=0∧(0:Nat) + l.length≤(9223372036854775807:Nat)∧((0:Nat) +
 l.length) * (104:Nat)≤(140737488355328:Nat)) then (∃ x,TrI l rs co ar x∧(((bif g then g=true else True)∧l=l)∧((bif e then e=true else True)∧rs=rs)∧co=co∧ar=ar∧True∧(0:Int)=0∧(0:Int)=0∧(([] ++ l).length=([] ++ l).length∧[] ++ l=x.snd)∧(0:Int)=x.fst∧True)∧True)∧∀ (x : Int × LLA),TrI l rs co ar x→bif decide (x.fst < (↑rs.length:Int)) then bif decide ((0:Int)≤x.fst∧x.fst < (↑rs.length:Int)) then ∃
 n s n_1 n_2 n_3 n_4 n_5 xs,List.take [AV.int .i64 n,.str s,.int .i64 n_1,.int .i64 n_2,.int .i64 n_3,.int .i64 n_4,.int .i64 n_5,.sl (2:Nat) false xs].length (rs.getD x.fst.toNat [])=[AV.int .i64 n,.str s,.int .i64 n_1,.int .i64 n_2,.int .i64 n_3,.int .i64 n_4,.int .i64 n_5,.sl (2:Nat) false xs]∧AdP x.snd xs∧bif decide ¬adE x.snd (itA n s n_1 n_2 n_3 n_4 n_5 xs co ar)=(0:Int) then tkO l rs co
 ar=[]∧(0:Int)=tkN l rs co ar∧adE x.snd (itA n s n_1 n_2 n_3 n_4 n_5 xs co ar)=tkE l rs co ar∧True else bif decide (rng .i64 (x.fst + (1:Int))) then ∃ y,TrI l rs co ar y∧(tr6 l rs g e co ar).m y < (tr6 l rs g e co ar).m x∧(((bif g then g=true else True)∧l=l)∧((bif e then e=true else True)∧rs=rs)∧co=co∧ar=ar∧True∧(0:Int)=0∧(0:Int)=0∧(True∧adO x.snd (itA n s n_1 n_2 n_3 n_4 n_5 xs co ar)=y.snd)∧x.fst
 + (1:Int)=y.fst∧True)∧True else False else False else bif decide (rng .i64 ((↑(List.length x.snd):Int) - (↑l.length:Int))) then (True∧x.snd=tkO l rs co ar)∧(↑(List.length x.snd):Int) - (↑l.length:Int)=tkN l rs co ar∧(0:Int)=tkE l rs co ar∧True else False else False
set_option maxRecDepth 100000 in
theorem rtake_P : rtake_T inV adE adO tkE tkN tkO itC itE posI := by
  unfold rtake_T
  intro gl l rs g e co ar hp _ _ _ _
  have be : cond e (e=true) True := by cases e <;> trivial
  have bg : cond g (g=true) True := by cases g <;> trivial
  have hr := hp.fr
  have hrl := hr.fl
  have hll := hp.fl
  have start : ∃ x : Int × LLA,TrI l rs co ar x∧((cond g (g=true) True∧l=l)∧(cond e (e=true) True∧rs=rs)∧co=co∧ar=ar∧True∧(0 : Int)=0∧(0 : Int)=0∧(([] ++ l).length=([] ++ l).length∧[] ++ l=x.2)∧0=x.1∧True)∧True :=
    ⟨(0,l),⟨by simp,by simp,hp.fp,hp.fq,.inl ⟨rfl,rfl⟩,rfl,rfl⟩,by (repeat' (first | exact trivial | exact rfl | assumption | apply And.intro))⟩
  have loop : (inV l=0∨0 < rs.length)→∀ x : Int × LLA,TrI l rs co ar x→bif decide (x.fst < (↑rs.length : Int)) then bif decide ((0 : Int)≤x.fst∧x.fst < (↑rs.length : Int)) then ∃ n s n_1 n_2 n_3 n_4 n_5 xs,List.take [AV.int IntKind.i64 n,AV.str s,AV.int IntKind.i64 n_1,AV.int IntKind.i64 n_2,AV.int IntKind.i64 n_3,AV.int IntKind.i64 n_4,AV.int IntKind.i64 n_5,AV.sl (2 : Nat) false xs].length (rs.getD x.fst.toNat [])=[AV.int IntKind.i64 n,AV.str s,AV.int IntKind.i64 n_1,AV.int IntKind.i64 n_2,AV.int IntKind.i64 n_3,AV.int IntKind.i64 n_4,AV.int IntKind.i64 n_5,AV.sl (2 : Nat) false xs]∧AdP x.snd xs∧bif decide ¬adE x.snd (itA n s n_1 n_2 n_3 n_4 n_5 xs co ar)=(0 : Int) then tkO l rs co ar=[]∧(0 : Int)=tkN l rs co ar∧adE x.snd (itA n s n_1 n_2 n_3 n_4 n_5 xs co ar)=tkE l rs co ar∧True else bif decide (rng IntKind.i64 (x.fst + (1 : Int))) then ∃ y,TrI l rs co ar y∧(tr6 l rs g e co ar).m y < (tr6 l rs g e co ar).m x∧(((bif g then g=true else True)∧l=l)∧((bif e then e=true else True)∧rs=rs)∧co=co∧ar=ar∧True∧(0 : Int)=(0 : Int)∧(0 : Int)=(0 : Int)∧(True∧adO x.snd (itA n s n_1 n_2 n_3 n_4 n_5 xs co ar)=y.snd)∧x.fst + (1 : Int)=y.fst∧True)∧True else False else False else bif decide (rng IntKind.i64 ((↑(List.length x.snd) : Int) - (↑l.length : Int))) then (True∧x.snd=tkO l rs co ar)∧(↑(List.length x.snd) : Int) - (↑l.length : Int)=tkN l rs co ar∧(0 : Int)=tkE l rs co ar∧True else False := fun hz => by
    rintro ⟨i,out⟩ ⟨i0,i1,op,oq,oz,oe,oo⟩
    simp only at i0 i1 op oq oz oe oo
    dsimp only
    refine csx (fun hi => cd1 (by omega) ?_) (fun hi => ?_)
    · obtain ⟨k,nm,t,f,a,b,c,rd,hrr,hrd,hrq⟩ := (hr.fg i.toNat (by omega)).fr
      have hd : rs.drop i.toNat=rs.getD i.toNat [] :: rs.drop (i.toNat + 1) := by
        rw [List.drop_eq_getElem_cons (show i.toNat < rs.length by omega),getD_lt (by omega)]
      have hx : mkI (rs.getD i.toNat []) co ar=itA k nm t f a b c rd co ar := by rw [hrr]; rfl
      have gx : ItG (itA k nm t f a b c rd co ar) := by rw [← hx]; exact ItG.of (hr.fg i.toNat (by omega)) co ar
      refine ⟨k,nm,t,f,a,b,c,rd,by rw [hrr]; rfl,⟨op,oq,hrd,hrq⟩,?_⟩
      have hstep : inV out=0→tkL co ar out (rs.drop i.toNat)=if puE out (itA k nm t f a b c rd co ar)=0 then tkL co ar (addI out (itA k nm t f a b c rd co ar)) (rs.drop (i.toNat + 1)) else ([],puE out (itA k nm t f a b c rd co ar)) := fun _ => by
        rw [hd,← hx]; rfl
      generalize itA k nm t f a b c rd co ar=x at *
      refine csx (fun q2 => ?_) (fun q2 => ?_)
      · have e1 : tkE l rs co ar=adE out x := by
          rw [oe]
          unfold tkE adE
          unfold adE at q2
          by_cases hv : inV out=0
          · rw [if_pos hv] at q2 ⊢
            rw [if_pos hv,hstep hv,if_neg q2]
          · rw [if_neg hv,if_neg hv]
        have e2 : tkO l rs co ar=[] := by
          rw [oo]
          unfold tkO
          unfold adE at q2
          by_cases hv : inV out=0
          · rw [if_pos hv] at q2
            rw [if_pos hv,hstep hv,if_neg q2]
          · rw [if_neg hv]
        refine ⟨e2,?_,e1.symm,trivial⟩
        unfold tkN; rw [e1,if_neg q2]
      · have q2 := Decidable.not_not.1 q2
        have hv : inV out=0 := by
          unfold adE at q2
          split at q2
          · assumption
          · next w => exact absurd q2 w
        have hpu : puE out x=0 := by unfold adE at q2; rw [if_pos hv] at q2; exact q2
        have hg := oq hv
        have hl150 := (inV_ok hv).1
        have hadO : adO out x=addI out x := by unfold adO; rw [if_pos q2]
        have hv2 := inV_add hv hg gx hpu
        have hg2 := (addI_gd hg gx hpu hl150).1
        refine cdI (by omega) ⟨(i + 1,addI out x),⟨by simp only; omega,by simp only; omega,hg2.p,fun _ => hg2,.inr hv2,?_,?_⟩,by simp only [tr6]; omega,⟨⟨bg,rfl⟩,⟨be,rfl⟩,rfl,rfl,trivial,rfl,rfl,⟨trivial,hadO⟩,rfl,trivial⟩,trivial⟩
        · rw [oe]
          unfold tkE
          rw [if_pos hv,hstep hv,if_pos hpu,if_pos hv2,show (i + 1).toNat=i.toNat + 1 by omega]
        · rw [oo]
          unfold tkO
          rw [if_pos hv,hstep hv,if_pos hpu,if_pos hv2,show (i + 1).toNat=i.toNat + 1 by omega]
    · have hd : rs.drop i.toNat=[] := List.drop_eq_nil_of_le (by omega)
      rw [hd] at oe oo
      have hv : inV out=0 := by
        rcases oz with ⟨z1,z2⟩ | z
        · rcases hz with w | w
          · rw [z2]; exact w
          · omega
        · exact z
      have e1 : tkE l rs co ar=0 := by rw [oe]; unfold tkE; rw [if_pos hv]; rfl
      have e2 : tkO l rs co ar=out := by rw [oo]; unfold tkO; rw [if_pos hv]; rfl
      have hl150 := (inV_ok hv).1
      refine cdI (by omega) ⟨⟨trivial,e2.symm⟩,?_,e1.symm,trivial⟩
      unfold tkN; rw [e1,e2,if_pos rfl]
  refine ⟨hp.fp,csx (fun q => csx (fun z => ?_) (fun z => cd1 ⟨rfl,by omega,by omega⟩ ⟨start,loop (.inr (by omega))⟩)) (fun q => cd1 ⟨rfl,by omega,by omega⟩ ⟨start,loop (.inl (Decidable.not_not.1 q))⟩)⟩
  unfold tkN tkE tkO
  rw [if_neg q,if_neg q,if_neg q]; exact ⟨rfl,rfl,rfl,trivial⟩
def rtake_S (inV : LLA→Int) (adE : LLA→List AV→Int) (adO : LLA→List AV→LLA) (tkE : LLA→LLA→Int→Int→Int) (tkN : LLA→LLA→Int→Int→Int) (tkO : LLA→LLA→Int→Int→LLA) (itC : List AV→List AV→Int) (itE : Int→ByteArray→Int→Int→Int→Int→Int→LLA→Int→Int→Int) (posI : LLA→List AV→Nat) : Prop := ∀ (gl : Glob) (l rs : List (List AV)) (g e : Bool) (co ar : Int),TrP l rs→fnK Tryd.prog { glob := gl,spec := lk [(26,(ivalidR_s inV itC itE)),(33,(radd_s posI inV itC itE adE adO))],specH := lk [],shape := [40],slz := [(40,[2])],nowf := true } { nt := 57,drop := drp [(1,196608),(2,16515072),(3,33554432),(4,469762048),(6,3758096384),(7,25769803776),(8,140703128616960),(9,140737488355328),(10,562949953421312),(11,1125899906842624),(12,141863388262170624)],frz := fun id => cond (Nat.beq id 5) [12] [] } (invs [(6,tr6 l rs g e co ar)]) 6 Tryd.f19 [.sl 10 g l,.sl 8 e rs,.int .i64 co,.int .i64 ar] (.tup [.sl 10 false (tkO l rs co ar),.int .i64 (tkN l rs co ar),.int .i64 (tkE l rs co ar)])
set_option maxRecDepth 100000 in
theorem rtake_e (inV : LLA→Int) (adE : LLA→List AV→Int) (adO : LLA→List AV→LLA) (tkE : LLA→LLA→Int→Int→Int) (tkN : LLA→LLA→Int→Int→Int) (tkO : LLA→LLA→Int→Int→LLA) (itC : List AV→List AV→Int) (itE : Int→ByteArray→Int→Int→Int→Int→Int→LLA→Int→Int→Int) (posI : LLA→List AV→Nat) : rtake_T inV adE adO tkE tkN tkO itC itE posI=rtake_S inV adE adO tkE tkN tkO itC itE posI := by kernel_rfl
theorem rtake_v : rtake_S inV adE adO tkE tkN tkO itC itE posI := @Eq.mp (rtake_T inV adE adO tkE tkN tkO itC itE posI) (rtake_S inV adE adO tkE tkN tkO itC itE posI) (rtake_e inV adE adO tkE tkN tkO itC itE posI) (rtake_P)
theorem rtake_ok (gl : Glob) : SOK Tryd.prog gl 19 (rtake_s inV adE adO tkE tkN tkO) := by
  refine ⟨fok Tryd.func19 (by kernel_rfl) (by kernel_rfl),?_⟩
  intro xs pre r h hp
  unfold rtake_s at h
  split at h
  · simp only [Option.some.injEq,Prod.mk.injEq] at h
    obtain ⟨h1,h2⟩ := h
    subst h1 h2
    exact fnK_sound tyNil (by exact specOK rfl rfl ⟨(ivalidR_ok gl),(radd_ok gl),trivial⟩ trivial) (by kernel_rfl) Tryd.func19 rfl (rtake_v gl _ _ _ _ _ _ hp)
  · cases h
def smI (a b : LLA) : Bool := decide (a.length=b.length) && decide (∀ j,j < a.length→itC (a.getD j []) (b.getD j [])=0)
theorem smI_rfl (a : LLA) : smI a a=true := by
  unfold smI
  rw [decide_eq_true rfl,Bool.true_and]
  exact decide_eq_true fun j _ => itC_rfl _
structure SmP (a b : LLA) (i : Int) : Prop where
  flo : 0≤i
  fhi : i≤a.length
  fz : ∀ k : Nat,(k : Int) < i→itC (a.getD k []) (b.getD k [])=0
def sm4 (a b : LLA) (g h : Bool) : LInv := ⟨Int,fun i => ⟨[(0,.sl 10 g a),(1,.sl 10 h b),(4,.bool false),(5,.int .i64 i)],[]⟩,SmP a b,fun i => (a.length - i).toNat,none⟩
def isame_s (itC : List AV→List AV→Int) (smI : LLA→LLA→Bool) : Sp
  | [.sl 10 g a,.sl 10 h b] => some (ItsP a∧ItsP b,.bool (smI a b))
  | _ => none
set_option maxRecDepth 100000 in
def isame_T (itC : List AV→List AV→Int) (smI : LLA→LLA→Bool) (rdC : LLA→LLA→Int) (cmpI : Int→Int→Int) (cmpS : ByteArray→ByteArray→Int) : Prop :=
  ∀ (gl : Glob) (a b : List (List AV)) (g h : Bool),ItsP a∧ItsP b→True→True→bif decide ¬(↑a.length:Int)=(↑b.length:Int) then false=smI a b else (∃ x,SmP a b x∧(((bif g then g=true else True)∧a=a)∧((bif h then h=true else True)∧b=b)∧false=false∧(0:Int)=x∧True)∧True)∧∀ (x:Int),SmP a b x→bif decide (x < (↑a.length:Int)) then bif decide ((0:Int)≤x∧x < (↑a.length:Int)) then ∃ n s n_1 n_2 n_3 n_4 n_5 xs
 n_6 n_7,List.take [AV.int .i64 n,.str s,.int .i64 n_1,.int .i64 n_2,.int .i64 n_3,.int .i64 n_4,.int .i64 n_5,.sl (2:Nat) false xs,.int .i64 n_6,.int .i64 n_7].length (a.getD x.toNat [])=[AV.int .i64 n,.str s,.int .i64 n_1,.int .i64 n_2,.int .i64 n_3,.int .i64 n_4,.int .i64 n_5,.sl (2:Nat) false xs,.int .i64 n_6,.int .i64 n_7]∧bif decide ((0:Int)≤x∧x < (↑b.length:Int)) then ∃ n_8 s_1 n_9 n_10
 n_11 n_12 n_13 xs_1 n_14 n_15,List.take [AV.int .i64 n_8,.str s_1,.int .i64 n_9,.int .i64 n_10,.int .i64 n_11,.int .i64 n_12,.int .i64 n_13,.sl (2:Nat) false xs_1,.int .i64 n_14,.int .i64 n_15].length (b.getD x.toNat [])=[AV.int .i64 n_8,.str s_1,.int .i64 n_9,.int .i64 n_10,.int .i64 n_11,.int .i64 n_12,.int .i64 n_13,.sl (2:Nat) false xs_1,.int .i64 n_14,.int .i64 n_15]∧(RdsP xs∧RdsP xs_1)∧bif
 decide ¬itC (itA n s n_1 n_2 n_3 n_4 n_5 xs n_6 n_7) (itA n_8 s_1 n_9 n_10 n_11 n_12 n_13 xs_1 n_14 n_15)=(0:Int) then false=smI a b else bif decide (rng .i64 (x + (1:Int))) then ∃ y,SmP a b y∧(sm4 a b g h).m y < (sm4 a b g h).m x∧(((bif g then g=true else True)∧a=a)∧((bif h then h=true else True)∧b=b)∧false=false∧x + (1:Int)=y∧True)∧True else False else False else False else true=smI a b
set_option maxRecDepth 100000 in
theorem isame_P : isame_T itC smI rdC cmpI cmpS := by
  unfold isame_T
  intro gl a b g h ⟨ha,hb⟩ _ _
  have la := ha.fl
  have bg : cond g (g=true) True := by cases g <;> trivial
  have bh : cond h (h=true) True := by cases h <;> trivial
  refine csx (fun q => ?_) (fun q => ⟨⟨0,⟨by decide,by omega,fun j hj => by omega⟩,by (repeat' (first | exact trivial | exact rfl | assumption | apply And.intro))⟩,?_⟩)
  · unfold smI; rw [decide_eq_false (by omega)]; rfl
  rintro i ⟨i0,i1,iz⟩
  refine csx (fun hi => cd1 (by omega) ?_) (fun hi => ?_)
  · obtain ⟨k,nm,t,f,a1,b1,c,rd,co,ar,hr,hrd⟩ := ha.fr i.toNat (by omega)
    obtain ⟨k2,nm2,t2,f2,a2,b2,c2,rd2,co2,ar2,hr2,hrd2⟩ := hb.fr i.toNat (by omega)
    refine ⟨k,nm,t,f,a1,b1,c,rd,co,ar,by rw [hr]; rfl,cd1 (by omega) ⟨k2,nm2,t2,f2,a2,b2,c2,rd2,co2,ar2,by rw [hr2]; rfl,⟨hrd,hrd2⟩,?_⟩⟩
    rw [← hr,← hr2]
    refine csx (fun z => ?_) (fun z => cdI (by omega) ⟨i + 1,⟨by omega,by omega,fun j hj => ?_⟩,by simp only [sm4]; omega,by (repeat' (first | exact trivial | exact rfl | assumption | apply And.intro))⟩)
    · unfold smI
      rw [Bool.and_eq_false_iff.2 (.inr (decide_eq_false fun w => z (w i.toNat (by omega))))]
    · rcases Int.lt_or_le (j : Int) i with w | w
      · exact iz j w
      · rw [show j=i.toNat by omega]; exact Decidable.not_not.1 z
  · unfold smI
    rw [decide_eq_true (show a.length=b.length by omega),Bool.true_and]
    exact (decide_eq_true fun j hj => iz j (by omega)).symm
def isame_S (itC : List AV→List AV→Int) (smI : LLA→LLA→Bool) (rdC : LLA→LLA→Int) (cmpI : Int→Int→Int) (cmpS : ByteArray→ByteArray→Int) : Prop := ∀ (gl : Glob) (a b : List (List AV)) (g h : Bool),ItsP a∧ItsP b→fnK Tryd.prog { glob := gl,spec := lk [(42,(ricmp_s rdC cmpI cmpS itC))],specH := lk [],shape := [20,24],slz := [(20,[2]),(24,[2])],nowf := true } { nt := 27,drop := drp [(1,960),(4,14336),(5,98304),(6,66977792)] } (invs [(4,sm4 a b g h)]) 6 Tryd.f20 [.sl 10 g a,.sl 10 h b] (.bool (smI a b))
set_option maxRecDepth 100000 in
theorem isame_e (itC : List AV→List AV→Int) (smI : LLA→LLA→Bool) (rdC : LLA→LLA→Int) (cmpI : Int→Int→Int) (cmpS : ByteArray→ByteArray→Int) : isame_T itC smI rdC cmpI cmpS=isame_S itC smI rdC cmpI cmpS := by kernel_rfl
theorem isame_v : isame_S itC smI rdC cmpI cmpS := @Eq.mp (isame_T itC smI rdC cmpI cmpS) (isame_S itC smI rdC cmpI cmpS) (isame_e itC smI rdC cmpI cmpS) (isame_P)
theorem isame_ok (gl : Glob) : SOK Tryd.prog gl 20 (isame_s itC smI) := by
  refine ⟨fok Tryd.func20 (by kernel_rfl) (by kernel_rfl),?_⟩
  intro xs pre r h hp
  unfold isame_s at h
  split at h
  · simp only [Option.some.injEq,Prod.mk.injEq] at h
    obtain ⟨h1,h2⟩ := h
    subst h1 h2
    exact fnK_sound tyNil (by exact specOK rfl rfl ⟨(ricmp_ok gl),trivial⟩ trivial) (by kernel_rfl) Tryd.func20 rfl (isame_v gl _ _ _ _ hp)
  · cases h
end Go.Proofs.YtgnnafneglannaaDoor
namespace Go.Proofs.YtgnnafneglannaaDoor
open Go
set_option linter.unusedVariables false
set_option linter.unusedSimpArgs false
def ibS (out : LLA) (x : List AV) : LLA := if adE out x=0 then adO out x else out
def ibO (l : LLA) : LLA := l.foldl ibS []
theorem ibO_snoc (l : LLA) (x : List AV) : ibO (l ++ [x])=ibS (ibO l) x := by unfold ibO; rw [List.foldl_append]; rfl
structure IbR (l : LLA) : Prop where
  fv : inV l=0
  fg : GdL l
theorem ibO_ok : ∀ l : LLA,(∀ r ∈ l,ItG r)→IbR (ibO l) :=
  snoc_ind (fun _ => ⟨inV_of (by decide) (by simp [ibO]) (by simp [ibO,Srt]),⟨by simp [ibO],by decide⟩⟩) fun l x ih h => by
    have i1 := ih fun r hr => h r (by simp [hr])
    have hx := h x (by simp)
    rw [ibO_snoc]
    unfold ibS
    split
    · next e =>
      have hpu : puE (ibO l) x=0 := by unfold adE at e; rw [if_pos i1.fv] at e; exact e
      have hadO : adO (ibO l) x=addI (ibO l) x := by unfold adO; rw [if_pos e]
      rw [hadO]
      exact ⟨inV_add i1.fv i1.fg hx hpu,(addI_gd i1.fg hx hpu (inV_ok i1.fv).1).1⟩
    · exact i1
structure QiI (l : LLA) (x : Int × LLA) : Prop where
  flo : 0≤x.1
  fhi : x.1≤l.length
  fe : x.2=ibO (l.take x.1.toNat)
def qi3 (l : LLA) (g : Bool) : LInv := ⟨Int × LLA,fun x => ⟨[(0,.sl 10 g l),(3,.sl 10 false x.2),(4,.int .i64 x.1)],[]⟩,QiI l,fun x => (l.length - x.1).toNat,none⟩
def qinbox_s (ibO : LLA→LLA) (adE : LLA→List AV→Int) (adO : LLA→List AV→LLA) : Sp
  | [.sl 10 g l] => some (GdL l,.sl 10 false (ibO l))
  | _ => none
set_option maxRecDepth 100000 in
def qinbox_T (ibO : LLA→LLA) (adE : LLA→List AV→Int) (adO : LLA→List AV→LLA) (posI : LLA→List AV→Nat) (inV : LLA→Int) (itC : List AV→List AV→Int) (itE : Int→ByteArray→Int→Int→Int→Int→Int→LLA→Int→Int→Int) : Prop :=
  ∀ (gl : Glob) (l : List (List AV)) (g : Bool),GdL l→True→(∃ x,QiI l x∧(((bif g then g=true else True)∧l=l)∧x.snd=[]∧(0:Int)=x.fst∧True)∧True)∧∀ (x : Int × LLA),QiI l x→bif decide (x.fst < (↑l.length:Int)) then bif decide ((0:Int)≤x.fst∧x.fst < (↑l.length:Int)) then ∃ n s n_1 n_2 n_3 n_4 n_5 xs n_6 n_7,List.take [AV.int .i64 n,.str s,.int .i64 n_1,.int .i64 n_2,.int .i64 n_3,.int .i64 n_4,.int
 .i64 n_5,.sl (2:Nat) false xs,.int .i64 n_6,.int .i64 n_7].length (l.getD x.fst.toNat [])=[AV.int .i64 n,.str s,.int .i64 n_1,.int .i64 n_2,.int .i64 n_3,.int .i64 n_4,.int .i64 n_5,.sl (2:Nat) false xs,.int .i64 n_6,.int .i64 n_7]∧AdP x.snd xs∧bif decide (adE x.snd (itA n s n_1 n_2 n_3 n_4 n_5 xs n_6 n_7)=(0:Int)) then bif decide (rng .i64 (x.fst + (1:Int))) then ∃ y,QiI l y∧(qi3 l g).m y < (qi3 l
 g).m x∧(((bif g then g=true else True)∧l=l)∧(True∧adO x.snd (itA n s n_1 n_2 n_3 n_4 n_5 xs n_6 n_7)=y.snd)∧x.fst + (1:Int)=y.fst∧True)∧True else False else bif decide (rng .i64 (x.fst + (1:Int))) then ∃ y,QiI l y∧(qi3 l g).m y < (qi3 l g).m x∧(((bif g then g=true else True)∧l=l)∧(True∧x.snd=y.snd)∧x.fst + (1:Int)=y.fst∧True)∧True else False else False else True∧x.snd=ibO l
set_option maxRecDepth 100000 in
theorem qinbox_P : qinbox_T ibO adE adO posI inV itC itE := by
  unfold qinbox_T
  intro gl l g hg _
  have bg : cond g (g=true) True := by cases g <;> trivial
  have hl := hg.fl
  refine ⟨⟨(0,[]),⟨by simp,by simp,by simp [ibO]⟩,by (repeat' (first | exact trivial | exact rfl | assumption | apply And.intro))⟩,?_⟩
  rintro ⟨i,out⟩ ⟨i0,i1,e⟩
  simp only at i0 i1 e
  dsimp only
  refine csx (fun hi => cd1 (by omega) ?_) (fun hi => ?_)
  · have hm : l.getD i.toNat [] ∈ l := by rw [getD_lt (by omega)]; exact List.getElem_mem _
    obtain ⟨k,nm,t,f,a,b,c,rd,co,ar,h1,h2,h3⟩ := (hg.fg _ hm).fr
    have hb := ibO_ok (l.take i.toNat) (fun r hr => hg.fg r (List.mem_of_mem_take hr))
    rw [← e] at hb
    have hs : ibO (l.take (i.toNat + 1))=ibS out (itA k nm t f a b c rd co ar) := by
      rw [List.take_add_one,List.getElem?_eq_getElem (show i.toNat < l.length by omega),← getD_lt (by omega),h1,Option.toList_some,ibO_snoc,← e]
    refine ⟨k,nm,t,f,a,b,c,rd,co,ar,by rw [h1]; rfl,⟨hb.fg.p,fun _ => hb.fg,h2,h3⟩,?_⟩
    generalize itA k nm t f a b c rd co ar=x at *
    refine csx (fun q => ?_) (fun q => ?_)
    · exact cdI (by omega) ⟨(i + 1,adO out x),⟨by simp only; omega,by simp only; omega,by simp only; rw [show (i + 1).toNat=i.toNat + 1 by omega,hs]; unfold ibS; rw [if_pos q]⟩,by simp only [qi3]; omega,⟨⟨bg,rfl⟩,⟨trivial,rfl⟩,rfl,trivial⟩,trivial⟩
    · exact cdI (by omega) ⟨(i + 1,out),⟨by simp only; omega,by simp only; omega,by simp only; rw [show (i + 1).toNat=i.toNat + 1 by omega,hs]; unfold ibS; rw [if_neg q]⟩,by simp only [qi3]; omega,⟨⟨bg,rfl⟩,⟨trivial,rfl⟩,rfl,trivial⟩,trivial⟩
  · refine ⟨trivial,?_⟩
    rw [e,List.take_of_length_le (by omega)]
def qinbox_S (ibO : LLA→LLA) (adE : LLA→List AV→Int) (adO : LLA→List AV→LLA) (posI : LLA→List AV→Nat) (inV : LLA→Int) (itC : List AV→List AV→Int) (itE : Int→ByteArray→Int→Int→Int→Int→Int→LLA→Int→Int→Int) : Prop := ∀ (gl : Glob) (l : List (List AV)) (g : Bool),GdL l→fnK Tryd.prog { glob := gl,spec := lk [(33,(radd_s posI inV itC itE adE adO))],specH := lk [],shape := [18],slz := [(18,[2])],nowf := true } { nt := 26,drop := drp [(3,896),(4,6144),(5,4186112),(6,4194304),(7,16777216),(8,33554432)] } (invs [(3,qi3 l g)]) 6 Tryd.f10 [.sl 10 g l] (.sl 10 false (ibO l))
set_option maxRecDepth 100000 in
theorem qinbox_e (ibO : LLA→LLA) (adE : LLA→List AV→Int) (adO : LLA→List AV→LLA) (posI : LLA→List AV→Nat) (inV : LLA→Int) (itC : List AV→List AV→Int) (itE : Int→ByteArray→Int→Int→Int→Int→Int→LLA→Int→Int→Int) : qinbox_T ibO adE adO posI inV itC itE=qinbox_S ibO adE adO posI inV itC itE := by kernel_rfl
theorem qinbox_v : qinbox_S ibO adE adO posI inV itC itE := @Eq.mp (qinbox_T ibO adE adO posI inV itC itE) (qinbox_S ibO adE adO posI inV itC itE) (qinbox_e ibO adE adO posI inV itC itE) (qinbox_P)
theorem qinbox_ok (gl : Glob) : SOK Tryd.prog gl 10 (qinbox_s ibO adE adO) := by
  refine ⟨fok Tryd.func10 (by kernel_rfl) (by kernel_rfl),?_⟩
  intro xs pre r h hp
  unfold qinbox_s at h
  split at h
  · simp only [Option.some.injEq,Prod.mk.injEq] at h
    obtain ⟨h1,h2⟩ := h
    subst h1 h2
    exact fnK_sound tyNil (by exact specOK rfl rfl ⟨(radd_ok gl),trivial⟩ trivial) (by kernel_rfl) Tryd.func10 rfl (qinbox_v gl _ _ hp)
  · cases h
end Go.Proofs.YtgnnafneglannaaDoor
namespace Go.Proofs.YtgnnafneglannaaDoor
open Go
set_option linter.unusedVariables false
set_option linter.unusedSimpArgs false
structure ItV (r : List AV) : Prop where
  fr : ∃ (k : Int) (nm : ByteArray) (t f a b c : Int) (ys : LLA) (co ar : Int),r=itA k nm t f a b c ys co ar∧RepQ k nm t f a b c ys 0∧(0≤co∧co≤2)∧0≤ar∧ar≤52595999
structure ItmQ (n : Int) (os : LLA) (j : Int) : Prop where
  fr : ∀ r ∈ os,ItV r
  fl : os.length≤n
  fj : 0≤j
structure ItmP (n : Int) (x : Int × Int × LLA) : Prop where
  fi : x.1 + x.2.2.length≤n
  fj : 0≤x.2.1
  fr : ∀ r ∈ x.2.2,ItV r
  fn : x.2.2.length≤n
def itmI (xs : LLA) (near n : Int) : LInv := ⟨Int × Int × LLA,fun x => ⟨[(0,.ptr 0 0),(2,.int .i64 near),(7,.rw 1701 10 x.2.2.length),(8,.int .i64 x.1)],[(0,.cells [.sl 1 false xs,.int .i64 x.2.1]),(1701,.row 50 10 x.2.2)]⟩,ItmP n,fun x => x.1.toNat,none⟩
theorem rdV_set {ys : LLA} (h : RdV 12 ys) {i : Nat} {e v w : Int} (hi : i < ys.length) (he : ys.getD i []=[.int .i64 e,.int .i64 v]) (hw : inLo e≤w∧w≤inHi e) : RdV 12 (setEl ys i 0 [.int .i64 e,.int .i64 w]) := by
  have e1 : setEl ys i 0 [.int .i64 e,.int .i64 w]=ys.set i [.int .i64 e,.int .i64 w] := by
    unfold setEl spl; rw [he]; rfl
  have e2 : ∀ j,j < ys.length→(ys.set i [.int .i64 e,.int .i64 w]).getD j []=if i=j then [.int .i64 e,.int .i64 w] else ys.getD j [] := fun j hj => by
    rw [List.getD_eq_getElem?_getD,List.getD_eq_getElem?_getD,List.getElem?_set]
    split
    · rfl
    · rfl
  have e3 : ∀ j,j < ys.length→rE ((ys.set i [.int .i64 e,.int .i64 w]).getD j [])=rE (ys.getD j []) := fun j hj => by
    rw [e2 j hj]
    split
    · next q => rw [← q,he]; rfl
    · rfl
  rw [e1]
  refine ⟨fun j hj => ?_,fun j k hjk hk => ?_,by rw [List.length_set]; exact h.flen⟩
  · rw [List.length_set] at hj
    rw [e2 j hj]
    split
    · next q =>
      obtain ⟨e',v',h1,h2,h3⟩ := h.frow i hi
      rw [he] at h1
      simp only [List.cons.injEq,AV.int.injEq,and_true,true_and] at h1
      rw [h1.1] at hw ⊢
      exact ⟨_,_,rfl,h2,hw⟩
    · exact h.frow j hj
  · rw [List.length_set] at hk
    rw [e3 j (by omega),e3 k hk]
    exact h.fasc j k hjk hk
def qitems_s : SpQ
  | [.ptr 0 0,.int .i64 n,.int .i64 near],[.cells [.sl 1 false xs,.int .i64 i]] => some (fun K => (SrcQ xs i∧(0≤near∧near≤52595999)∧0≤n∧n≤100)∧(∀ (os : List (List AV)) (j : Int),(ItmQ n os j)→K (.sl 10 false os) [.cells [.sl 1 false xs,.int .i64 j]]))
  | _,_ => none
set_option maxRecDepth 100000 in
def qitems_T (iL : Int→ByteArray) (inLo : Int→Int) (inHi : Int→Int) (inD : Int→Int) (inE : Int→Int) : Prop :=
  ∀ (gl : Glob) (xs : List (List AV)) (i n near:Int),SrcQ xs i∧((0:Int)≤near∧near≤(52595999:Int))∧(0:Int)≤n∧n≤(100:Int)→bif decide (rng .i64 (n + (1:Int))) then SrcQ xs i∧∀ (v j:Int),NumQ (n + (1:Int)) v j→(∃ x,ItmP n x∧((0:Nat)=0∧near=near∧(0:Nat)=List.length x.snd.snd∧v=x.fst∧True)∧((True∧xs=xs)∧j=x.snd.fst∧True)∧[]=x.snd.snd∧True)∧∀ (x : Int × Int × LLA),ItmP n x→bif decide ((0:Int) <
 x.fst) then (SrcQ xs x.snd.fst∧(0:Int)≤near∧near≤(52595999:Int))∧∀ (k:Int) (nm : ByteArray) (t f a b c:Int) (ys : List (List AV)) (j:Int),RepQ k nm t f a b c ys j→(SrcQ xs j∧(-60:Int)≤(300:Int)∧(-1000000000:Int)≤(-60:Int)∧(300:Int)≤(1000000000:Int))∧∀ (v j:Int),((-60:Int)≤v∧v≤(300:Int))∧(0:Int)≤j→bif decide (rng .i64 (near + v)) then (SrcQ xs j∧(-12:Int)≤(12:Int)∧(-1000000000:Int)
≤(-12:Int)∧(12:Int)≤(1000000000:Int))∧∀ (v_1 j:Int),((-12:Int)≤v_1∧v_1≤(12:Int))∧(0:Int)≤j→bif decide (rng .i64 ((10:Int) * v_1)) then bif decide (rng .i64 (near + (10:Int) * v_1)) then bif decide ((0:Int) < (↑(List.length x.snd.snd):Int)) then SrcQ xs j∧∀ (v_2 j:Int),NumQ (2:Int) v_2 j→bif decide (v_2=(0:Int)) then SrcQ xs j∧∀ (v_3 j:Int),NumQ (↑(List.length x.snd.snd):Int) v_3 j→bif
 decide ((0:Int)≤v_3∧v_3 < (↑(List.length x.snd.snd):Int)) then bif decide (List.length x.snd.snd=List.length x.snd.snd∧v_3.toNat < List.length x.snd.snd) then ∃ n_1 s n_2 n_3 n_4 n_5 n_6 xs_1,List.take [AV.int .i64 n_1,.str s,.int .i64 n_2,.int .i64 n_3,.int .i64 n_4,.int .i64 n_5,.int .i64 n_6,.sl (2:Nat) false xs_1].length (List.drop (0:Nat) (List.getD x.snd.snd v_3.toNat []))=[AV.int .i64
 n_1,.str s,.int .i64 n_2,.int .i64 n_3,.int .i64 n_4,.int .i64 n_5,.int .i64 n_6,.sl (2:Nat) false xs_1]∧bif decide ((0:Nat)=0∧(0:Nat) + xs_1.length≤(9223372036854775807:Nat)∧((0:Nat) + xs_1.length) * (16:Nat)≤(140737488355328:Nat)) then SrcQ xs j∧∀ (v_4 j:Int),NumQ (4:Int) v_4 j→bif decide (v_4=(0:Int)) then SrcQ xs j∧∀ (ys : List (List AV)) (j:Int),RdQ ys j→(SrcQ xs j∧((5:Nat)=5∧(1:Nat) ≤
 (5:Nat)∧(5:Nat)≤(1000:Nat))∧IntsB [[AV.int .i64 (0:Int)],[AV.int .i64 (0:Int)],[AV.int .i64 (0:Int)],[AV.int .i64 (1:Int)],[AV.int .i64 (2:Int)]])∧∀ (v_5 j:Int),PickQ [[AV.int .i64 (0:Int)],[AV.int .i64 (0:Int)],[AV.int .i64 (0:Int)],[AV.int .i64 (1:Int)],[AV.int .i64 (2:Int)]] (AV.int .i64 v_5) j→bif decide (List.length x.snd.snd=List.length x.snd.snd∧List.length x.snd.snd + [[AV.int .i64
 n_1,.str s,.int .i64 n_2,.int .i64 n_3,.int .i64 n_4,.int .i64 n_5,.int .i64 n_6,.sl (2:Nat) false ys,.int .i64 v_5,.int .i64 (max (0:Int) (min (52595999:Int) (near + v)))]].length≤(9223372036854775807:Nat)∧(List.length x.snd.snd + [[AV.int .i64 n_1,.str s,.int .i64 n_2,.int .i64 n_3,.int .i64 n_4,.int .i64 n_5,.int .i64 n_6,.sl (2:Nat) false ys,.int .i64 v_5,.int .i64 (max (0:Int) (min
 (52595999:Int) (near + v)))]].length) * (104:Nat)≤(140737488355328:Nat)) then bif decide (rng .i64 (x.fst - (1:Int))) then ∃ y,ItmP n y∧(itmI xs near n).m y < (itmI xs near n).m x∧((0:Nat)=0∧near=near∧(x.snd.snd ++ [[AV.int .i64 n_1,.str s,.int .i64 n_2,.int .i64 n_3,.int .i64 n_4,.int .i64 n_5,.int .i64 n_6,.sl (2:Nat) false ys,.int .i64 v_5,.int .i64 (max (0:Int) (min (52595999:Int) (near +
 v)))]]).length=List.length y.snd.snd∧x.fst - (1:Int)=y.fst∧True)∧((True∧xs=xs)∧j=y.snd.fst∧True)∧x.snd.snd ++ [[AV.int .i64 n_1,.str s,.int .i64 n_2,.int .i64 n_3,.int .i64 n_4,.int .i64 n_5,.int .i64 n_6,.sl (2:Nat) false ys,.int .i64 v_5,.int .i64 (max (0:Int) (min (52595999:Int) (near + v)))]]=y.snd.snd∧True else False else False else bif decide (v_4=(1:Int)) then bif decide ((0:Int) < (↑([] ++
 xs_1).length:Int)) then SrcQ xs j∧∀ (v_5 j:Int),NumQ (↑([] ++ xs_1).length:Int) v_5 j→bif decide ((0:Int)≤v_5∧v_5 < (↑([] ++ xs_1).length:Int)) then bif decide (([] ++ xs_1).length=([] ++ xs_1).length∧v_5.toNat < ([] ++ xs_1).length) then ∃ n_7,List.take [AV.int .i64 n_7].length (List.drop (0:Nat) (([] ++ xs_1).getD v_5.toNat []))=[AV.int .i64 n_7]∧(SrcQ xs j∧(1:Int)≤n_7∧n_7≤(11:Int))∧∀ (v_6
 j:Int),SomQ n_7 v_6 j→bif decide ((0:Int)≤v_5∧v_5 < (↑([] ++ xs_1).length:Int)) then bif decide (([] ++ xs_1).length=([] ++ xs_1).length∧v_5.toNat < ([] ++ xs_1).length) then (SrcQ xs j∧((5:Nat)=5∧(1:Nat)≤(5:Nat)∧(5:Nat)≤(1000:Nat))∧IntsB [[AV.int .i64 (0:Int)],[AV.int .i64 (0:Int)],[AV.int .i64 (0:Int)],[AV.int .i64 (1:Int)],[AV.int .i64 (2:Int)]])∧∀ (v_7 j:Int),PickQ [[AV.int .i64
 (0:Int)],[AV.int .i64 (0:Int)],[AV.int .i64 (0:Int)],[AV.int .i64 (1:Int)],[AV.int .i64 (2:Int)]] (AV.int .i64 v_7) j→bif decide (([] ++ xs_1).length=(setEl ([] ++ xs_1) v_5.toNat (0:Nat) [AV.int .i64 n_7,.int .i64 v_6]).length) then bif decide (List.length x.snd.snd=List.length x.snd.snd∧List.length x.snd.snd + [[AV.int .i64 n_1,.str s,.int .i64 n_2,.int .i64 n_3,.int .i64 n_4,.int .i64 n_5,.int
 .i64 n_6,.sl (2:Nat) false (setEl ([] ++ xs_1) v_5.toNat (0:Nat) [AV.int .i64 n_7,.int .i64 v_6]),.int .i64 v_7,.int .i64 (max (0:Int) (min (52595999:Int) (near + v)))]].length≤(9223372036854775807:Nat)∧(List.length x.snd.snd + [[AV.int .i64 n_1,.str s,.int .i64 n_2,.int .i64 n_3,.int .i64 n_4,.int .i64 n_5,.int .i64 n_6,.sl (2:Nat) false (setEl ([] ++ xs_1) v_5.toNat (0:Nat) [AV.int .i64
 n_7,.int .i64 v_6]),.int .i64 v_7,.int .i64 (max (0:Int) (min (52595999:Int) (near + v)))]].length) * (104:Nat)≤(140737488355328:Nat)) then bif decide (rng .i64 (x.fst - (1:Int))) then ∃ y,ItmP n y∧(itmI xs near n).m y < (itmI xs near n).m x∧((0:Nat)=0∧near=near∧(x.snd.snd ++ [[AV.int .i64 n_1,.str s,.int .i64 n_2,.int .i64 n_3,.int .i64 n_4,.int .i64 n_5,.int .i64 n_6,.sl (2:Nat) false (setEl
 ([] ++ xs_1) v_5.toNat (0:Nat) [AV.int .i64 n_7,.int .i64 v_6]),.int .i64 v_7,.int .i64 (max (0:Int) (min (52595999:Int) (near + v)))]]).length=List.length y.snd.snd∧x.fst - (1:Int)=y.fst∧True)∧((True∧xs=xs)∧j=y.snd.fst∧True)∧x.snd.snd ++ [[AV.int .i64 n_1,.str s,.int .i64 n_2,.int .i64 n_3,.int .i64 n_4,.int .i64 n_5,.int .i64 n_6,.sl (2:Nat) false (setEl ([] ++ xs_1) v_5.toNat (0:Nat) [AV.int
 .i64 n_7,.int .i64 v_6]),.int .i64 v_7,.int .i64 (max (0:Int) (min (52595999:Int) (near + v)))]]=y.snd.snd∧True else False else False else False else False else False else False else False else (SrcQ xs j∧((5:Nat)=5∧(1:Nat)≤(5:Nat)∧(5:Nat)≤(1000:Nat))∧IntsB [[AV.int .i64 (0:Int)],[AV.int .i64 (0:Int)],[AV.int .i64 (0:Int)],[AV.int .i64 (1:Int)],[AV.int .i64 (2:Int)]])∧∀ (v_5 j:Int),PickQ
 [[AV.int .i64 (0:Int)],[AV.int .i64 (0:Int)],[AV.int .i64 (0:Int)],[AV.int .i64 (1:Int)],[AV.int .i64 (2:Int)]] (AV.int .i64 v_5) j→bif decide (([] ++ xs_1).length=([] ++ xs_1).length) then bif decide (List.length x.snd.snd=List.length x.snd.snd∧List.length x.snd.snd + [[AV.int .i64 n_1,.str s,.int .i64 n_2,.int .i64 n_3,.int .i64 n_4,.int .i64 n_5,.int .i64 n_6,.sl (2:Nat) false ([] ++ xs_1),.int
 .i64 v_5,.int .i64 (max (0:Int) (min (52595999:Int) (near + v)))]].length≤(9223372036854775807:Nat)∧(List.length x.snd.snd + [[AV.int .i64 n_1,.str s,.int .i64 n_2,.int .i64 n_3,.int .i64 n_4,.int .i64 n_5,.int .i64 n_6,.sl (2:Nat) false ([] ++ xs_1),.int .i64 v_5,.int .i64 (max (0:Int) (min (52595999:Int) (near + v)))]].length) * (104:Nat)≤(140737488355328:Nat)) then bif decide (rng .i64
 (x.fst - (1:Int))) then ∃ y,ItmP n y∧(itmI xs near n).m y < (itmI xs near n).m x∧((0:Nat)=0∧near=near∧(x.snd.snd ++ [[AV.int .i64 n_1,.str s,.int .i64 n_2,.int .i64 n_3,.int .i64 n_4,.int .i64 n_5,.int .i64 n_6,.sl (2:Nat) false ([] ++ xs_1),.int .i64 v_5,.int .i64 (max (0:Int) (min (52595999:Int) (near + v)))]]).length=List.length y.snd.snd∧x.fst -
 (1:Int)=y.fst∧True)∧((True∧xs=xs)∧j=y.snd.fst∧True)∧x.snd.snd ++ [[AV.int .i64 n_1,.str s,.int .i64 n_2,.int .i64 n_3,.int .i64 n_4,.int .i64 n_5,.int .i64 n_6,.sl (2:Nat) false ([] ++ xs_1),.int .i64 v_5,.int .i64 (max (0:Int) (min (52595999:Int) (near + v)))]]=y.snd.snd∧True else False else False else False else bif decide (v_4=(2:Int)) then bif decide ¬n_1=(1:Int) then SrcQ xs j∧∀ (f a b c
 j:Int),PlaQ f a b c j→(SrcQ xs j∧((5:Nat)=5∧(1:Nat)≤(5:Nat)∧(5:Nat)≤(1000:Nat))∧IntsB [[AV.int .i64 (0:Int)],[AV.int .i64 (0:Int)],[AV.int .i64 (0:Int)],[AV.int .i64 (1:Int)],[AV.int .i64 (2:Int)]])∧∀ (v_5 j:Int),PickQ [[AV.int .i64 (0:Int)],[AV.int .i64 (0:Int)],[AV.int .i64 (0:Int)],[AV.int .i64 (1:Int)],[AV.int .i64 (2:Int)]] (AV.int .i64 v_5) j→bif decide (([] ++ xs_1).length=([] ++
 xs_1).length) then bif decide (List.length x.snd.snd=List.length x.snd.snd∧List.length x.snd.snd + [[AV.int .i64 n_1,.str s,.int .i64 n_2,.int .i64 f,.int .i64 a,.int .i64 b,.int .i64 c,.sl (2:Nat) false ([] ++ xs_1),.int .i64 v_5,.int .i64 (max (0:Int) (min (52595999:Int) (near + v)))]].length≤(9223372036854775807:Nat)∧(List.length x.snd.snd + [[AV.int .i64 n_1,.str s,.int .i64 n_2,.int .i64
 f,.int .i64 a,.int .i64 b,.int .i64 c,.sl (2:Nat) false ([] ++ xs_1),.int .i64 v_5,.int .i64 (max (0:Int) (min (52595999:Int) (near + v)))]].length) * (104:Nat)≤(140737488355328:Nat)) then bif decide (rng .i64 (x.fst - (1:Int))) then ∃ y,ItmP n y∧(itmI xs near n).m y < (itmI xs near n).m x∧((0:Nat)=0∧near=near∧(x.snd.snd ++ [[AV.int .i64 n_1,.str s,.int .i64 n_2,.int .i64 f,.int .i64 a,.int .i64
 b,.int .i64 c,.sl (2:Nat) false ([] ++ xs_1),.int .i64 v_5,.int .i64 (max (0:Int) (min (52595999:Int) (near + v)))]]).length=List.length y.snd.snd∧x.fst - (1:Int)=y.fst∧True)∧((True∧xs=xs)∧j=y.snd.fst∧True)∧x.snd.snd ++ [[AV.int .i64 n_1,.str s,.int .i64 n_2,.int .i64 f,.int .i64 a,.int .i64 b,.int .i64 c,.sl (2:Nat) false ([] ++ xs_1),.int .i64 v_5,.int .i64 (max (0:Int) (min (52595999:Int) (near
 + v)))]]=y.snd.snd∧True else False else False else False else (SrcQ xs j∧((5:Nat)=5∧(1:Nat)≤(5:Nat)∧(5:Nat)≤(1000:Nat))∧IntsB [[AV.int .i64 (0:Int)],[AV.int .i64 (0:Int)],[AV.int .i64 (0:Int)],[AV.int .i64 (1:Int)],[AV.int .i64 (2:Int)]])∧∀ (v_5 j:Int),PickQ [[AV.int .i64 (0:Int)],[AV.int .i64 (0:Int)],[AV.int .i64 (0:Int)],[AV.int .i64 (1:Int)],[AV.int .i64 (2:Int)]] (AV.int .i64 v_5) j→bif
 decide (([] ++ xs_1).length=([] ++ xs_1).length) then bif decide (List.length x.snd.snd=List.length x.snd.snd∧List.length x.snd.snd + [[AV.int .i64 n_1,.str s,.int .i64 n_2,.int .i64 n_3,.int .i64 n_4,.int .i64 n_5,.int .i64 n_6,.sl (2:Nat) false ([] ++ xs_1),.int .i64 v_5,.int .i64 (max (0:Int) (min (52595999:Int) (near + v)))]].length≤(9223372036854775807:Nat)∧(List.length x.snd.snd + [[AV.int
 .i64 n_1,.str s,.int .i64 n_2,.int .i64 n_3,.int .i64 n_4,.int .i64 n_5,.int .i64 n_6,.sl (2:Nat) false ([] ++ xs_1),.int .i64 v_5,.int .i64 (max (0:Int) (min (52595999:Int) (near + v)))]].length) * (104:Nat)≤(140737488355328:Nat)) then bif decide (rng .i64 (x.fst - (1:Int))) then ∃ y,ItmP n y∧(itmI xs near n).m y < (itmI xs near n).m x∧((0:Nat)=0∧near=near∧(x.snd.snd ++ [[AV.int .i64 n_1,.str
 s,.int .i64 n_2,.int .i64 n_3,.int .i64 n_4,.int .i64 n_5,.int .i64 n_6,.sl (2:Nat) false ([] ++ xs_1),.int .i64 v_5,.int .i64 (max (0:Int) (min (52595999:Int) (near + v)))]]).length=List.length y.snd.snd∧x.fst - (1:Int)=y.fst∧True)∧((True∧xs=xs)∧j=y.snd.fst∧True)∧x.snd.snd ++ [[AV.int .i64 n_1,.str s,.int .i64 n_2,.int .i64 n_3,.int .i64 n_4,.int .i64 n_5,.int .i64 n_6,.sl (2:Nat) false ([] ++
 xs_1),.int .i64 v_5,.int .i64 (max (0:Int) (min (52595999:Int) (near + v)))]]=y.snd.snd∧True else False else False else False else (SrcQ xs j∧((5:Nat)=5∧(1:Nat)≤(5:Nat)∧(5:Nat)≤(1000:Nat))∧IntsB [[AV.int .i64 (0:Int)],[AV.int .i64 (0:Int)],[AV.int .i64 (0:Int)],[AV.int .i64 (1:Int)],[AV.int .i64 (2:Int)]])∧∀ (v_5 j:Int),PickQ [[AV.int .i64 (0:Int)],[AV.int .i64 (0:Int)],[AV.int .i64
 (0:Int)],[AV.int .i64 (1:Int)],[AV.int .i64 (2:Int)]] (AV.int .i64 v_5) j→bif decide (([] ++ xs_1).length=([] ++ xs_1).length) then bif decide (List.length x.snd.snd=List.length x.snd.snd∧List.length x.snd.snd + [[AV.int .i64 n_1,.str s,.int .i64 n_2,.int .i64 n_3,.int .i64 n_4,.int .i64 n_5,.int .i64 n_6,.sl (2:Nat) false ([] ++ xs_1),.int .i64 v_5,.int .i64 (max (0:Int) (min (52595999:Int) (near
 + v)))]].length≤(9223372036854775807:Nat)∧(List.length x.snd.snd + [[AV.int .i64 n_1,.str s,.int .i64 n_2,.int .i64 n_3,.int .i64 n_4,.int .i64 n_5,.int .i64 n_6,.sl (2:Nat) false ([] ++ xs_1),.int .i64 v_5,.int .i64 (max (0:Int) (min (52595999:Int) (near + v)))]].length) * (104:Nat)≤(140737488355328:Nat)) then bif decide (rng .i64 (x.fst - (1:Int))) then ∃ y,ItmP n y∧(itmI xs near n).m y <
 (itmI xs near n).m x∧((0:Nat)=0∧near=near∧(x.snd.snd ++ [[AV.int .i64 n_1,.str s,.int .i64 n_2,.int .i64 n_3,.int .i64 n_4,.int .i64 n_5,.int .i64 n_6,.sl (2:Nat) false ([] ++ xs_1),.int .i64 v_5,.int .i64 (max (0:Int) (min (52595999:Int) (near + v)))]]).length=List.length y.snd.snd∧x.fst - (1:Int)=y.fst∧True)∧((True∧xs=xs)∧j=y.snd.fst∧True)∧x.snd.snd ++ [[AV.int .i64 n_1,.str s,.int .i64 n_2,.int
 .i64 n_3,.int .i64 n_4,.int .i64 n_5,.int .i64 n_6,.sl (2:Nat) false ([] ++ xs_1),.int .i64 v_5,.int .i64 (max (0:Int) (min (52595999:Int) (near + v)))]]=y.snd.snd∧True else False else False else False else False else False else False else (SrcQ xs j∧((5:Nat)=5∧(1:Nat)≤(5:Nat)∧(5:Nat)≤(1000:Nat))∧IntsB [[AV.int .i64 (0:Int)],[AV.int .i64 (0:Int)],[AV.int .i64 (0:Int)],[AV.int .i64
 (1:Int)],[AV.int .i64 (2:Int)]])∧∀ (v_3 j:Int),PickQ [[AV.int .i64 (0:Int)],[AV.int .i64 (0:Int)],[AV.int .i64 (0:Int)],[AV.int .i64 (1:Int)],[AV.int .i64 (2:Int)]] (AV.int .i64 v_3) j→bif decide (List.length x.snd.snd=List.length x.snd.snd∧List.length x.snd.snd + [[AV.int .i64 k,.str nm,.int .i64 (max (0:Int) (min (52595999:Int) (near + (10:Int) * v_1))),.int .i64 f,.int .i64 a,.int .i64 b,.int
 .i64 c,.sl (2:Nat) false ys,.int .i64 v_3,.int .i64 (max (0:Int) (min (52595999:Int) (near + v)))]].length≤(9223372036854775807:Nat)∧(List.length x.snd.snd + [[AV.int .i64 k,.str nm,.int .i64 (max (0:Int) (min (52595999:Int) (near + (10:Int) * v_1))),.int .i64 f,.int .i64 a,.int .i64 b,.int .i64 c,.sl (2:Nat) false ys,.int .i64 v_3,.int .i64 (max (0:Int) (min (52595999:Int) (near + v)))]].length)
 * (104:Nat)≤(140737488355328:Nat)) then bif decide (rng .i64 (x.fst - (1:Int))) then ∃ y,ItmP n y∧(itmI xs near n).m y < (itmI xs near n).m x∧((0:Nat)=0∧near=near∧(x.snd.snd ++ [[AV.int .i64 k,.str nm,.int .i64 (max (0:Int) (min (52595999:Int) (near + (10:Int) * v_1))),.int .i64 f,.int .i64 a,.int .i64 b,.int .i64 c,.sl (2:Nat) false ys,.int .i64 v_3,.int .i64 (max (0:Int) (min (52595999:Int)
 (near + v)))]]).length=List.length y.snd.snd∧x.fst - (1:Int)=y.fst∧True)∧((True∧xs=xs)∧j=y.snd.fst∧True)∧x.snd.snd ++ [[AV.int .i64 k,.str nm,.int .i64 (max (0:Int) (min (52595999:Int) (near + (10:Int) * v_1))),.int .i64 f,.int .i64 a,.int .i64 b,.int .i64 c,.sl (2:Nat) false ys,.int .i64 v_3,.int .i64 (max (0:Int) (min (52595999:Int) (near + v)))]]=y.snd.snd∧True else False else False else (SrcQ
 xs j∧((5:Nat)=5∧(1:Nat)≤(5:Nat)∧(5:Nat)≤(1000:Nat))∧IntsB [[AV.int .i64 (0:Int)],[AV.int .i64 (0:Int)],[AV.int .i64 (0:Int)],[AV.int .i64 (1:Int)],[AV.int .i64 (2:Int)]])∧∀ (v_2 j:Int),PickQ [[AV.int .i64 (0:Int)],[AV.int .i64 (0:Int)],[AV.int .i64 (0:Int)],[AV.int .i64 (1:Int)],[AV.int .i64 (2:Int)]] (AV.int .i64 v_2) j→bif decide (List.length x.snd.snd=List.length x.snd.snd∧List.length
 x.snd.snd + [[AV.int .i64 k,.str nm,.int .i64 (max (0:Int) (min (52595999:Int) (near + (10:Int) * v_1))),.int .i64 f,.int .i64 a,.int .i64 b,.int .i64 c,.sl (2:Nat) false ys,.int .i64 v_2,.int .i64 (max (0:Int) (min (52595999:Int) (near + v)))]].length≤(9223372036854775807:Nat)∧(List.length x.snd.snd + [[AV.int .i64 k,.str nm,.int .i64 (max (0:Int) (min (52595999:Int) (near + (10:Int) *
 v_1))),.int .i64 f,.int .i64 a,.int .i64 b,.int .i64 c,.sl (2:Nat) false ys,.int .i64 v_2,.int .i64 (max (0:Int) (min (52595999:Int) (near + v)))]].length) * (104:Nat)≤(140737488355328:Nat)) then bif decide (rng .i64 (x.fst - (1:Int))) then ∃ y,ItmP n y∧(itmI xs near n).m y < (itmI xs near n).m x∧((0:Nat)=0∧near=near∧(x.snd.snd ++ [[AV.int .i64 k,.str nm,.int .i64 (max (0:Int) (min (52595999:Int)
 (near + (10:Int) * v_1))),.int .i64 f,.int .i64 a,.int .i64 b,.int .i64 c,.sl (2:Nat) false ys,.int .i64 v_2,.int .i64 (max (0:Int) (min (52595999:Int) (near + v)))]]).length=List.length y.snd.snd∧x.fst - (1:Int)=y.fst∧True)∧((True∧xs=xs)∧j=y.snd.fst∧True)∧x.snd.snd ++ [[AV.int .i64 k,.str nm,.int .i64 (max (0:Int) (min (52595999:Int) (near + (10:Int) * v_1))),.int .i64 f,.int .i64 a,.int .i64
 b,.int .i64 c,.sl (2:Nat) false ys,.int .i64 v_2,.int .i64 (max (0:Int) (min (52595999:Int) (near + v)))]]=y.snd.snd∧True else False else False else False else False else False else bif decide (List.length x.snd.snd=List.length x.snd.snd) then ∃ os j,ItmQ n os j∧(True∧x.snd.snd=os)∧((True∧xs=xs)∧x.snd.fst=j∧True)∧True else False else False
set_option maxRecDepth 100000 in
theorem qitems_P : qitems_T iL inLo inHi inD inE := by
  unfold qitems_T
  intro gl xs i n near ⟨hs,hr,hn⟩
  have s := hs.s
  have i5 : IntsB [[.int .i64 0],[.int .i64 0],[.int .i64 0],[.int .i64 1],[.int .i64 2]] := ints_of [0,0,0,1,2] fun n hn => by
    simp only [List.mem_cons,List.not_mem_nil,or_false] at hn
    show _∧_
    omega
  refine cdI (by omega) ⟨hs,fun v j q => ⟨⟨(v,j,[]),⟨by have := q.fv (by omega); simp; omega,q.fj,by simp,by simp; omega⟩,⟨rfl,rfl,rfl,rfl,trivial⟩,⟨⟨trivial,rfl⟩,rfl,trivial⟩,rfl,trivial⟩,?_⟩⟩
  rintro ⟨i,q,os⟩ ⟨fi,fj,fr,fn⟩
  simp only at fi fj fr fn
  dsimp only
  have fin : ∀ (r : List AV) (j : Int),ItV r→0≤j→0 < i→cond (decide (os.length=os.length∧os.length + [r].length≤9223372036854775807∧(os.length + [r].length) * 104≤140737488355328)) (cond (decide (rng .i64 (i - 1))) (∃ y : Int × Int × LLA,ItmP n y∧(itmI xs near n).m y < (itmI xs near n).m (i,q,os)∧((0 : Nat)=0∧near=near∧(os ++ [r]).length=y.2.2.length∧i - 1=y.1∧True)∧((True∧xs=xs)∧j=y.2.1∧True)∧os ++ [r]=y.2.2∧True) False) False := fun r j hv hj hi =>
    cd1 ⟨rfl,by simp only [List.length_singleton]; omega,by simp only [List.length_singleton]; omega⟩ (cdI (by omega) ⟨(i - 1,j,os ++ [r]),⟨by simp only [List.length_append,List.length_singleton]; omega,hj,fun x hx => by
      rcases List.mem_append.1 hx with h | h
      · exact fr x h
      · rw [List.mem_singleton.1 h]; exact hv,by simp only [List.length_append,List.length_singleton]; omega⟩,by simp only [itmI]; omega,⟨rfl,rfl,rfl,rfl,trivial⟩,⟨⟨trivial,rfl⟩,rfl,trivial⟩,rfl,trivial⟩)
  have pk : ∀ {k : Int} {nm : ByteArray} {t f a b c : Int} {ys : LLA} {v w j : Int},RepQ k nm t f a b c ys 0→PickQ [[.int .i64 0],[.int .i64 0],[.int .i64 0],[.int .i64 1],[.int .i64 2]] (.int .i64 v) j→ItV (itA k nm t f a b c ys v (max 0 (min 52595999 w))) := fun h q => by
    have := pick_of [0,0,0,1,2] q
    simp only [List.mem_cons,List.not_mem_nil,or_false] at this
    exact ⟨_,_,_,_,_,_,_,_,_,_,rfl,h,by omega,by omega,by omega⟩
  refine csx (fun hi => ?_) (fun hi => cd1 rfl ⟨os,q,⟨fr,fn,fj⟩,⟨trivial,rfl⟩,sT⟩)
  refine ⟨⟨⟨s,fj⟩,hr⟩,fun k nm t f a b c ys j q1 => ⟨⟨⟨s,q1.fj⟩,by decide,by decide,by decide⟩,fun w j q2 => cdI (by omega) ⟨⟨⟨s,q2.2⟩,by decide,by decide,by decide⟩,fun w2 j q3 => cdI (by omega) (cdI (by omega) ?_)⟩⟩⟩
  have hq : RepQ k nm (max 0 (min 52595999 (near + 10 * w2))) f a b c ys 0 := ⟨q1.fk,q1.fn,by omega,q1.fl,q1.fp,q1.fr,by decide⟩
  refine csx (fun h0 => ⟨⟨s,q3.2⟩,fun v2 j q4 => csx (fun h1 => ⟨⟨s,q4.fj⟩,fun v3 j q5 => ?_⟩) (fun _ => ⟨⟨⟨s,q4.fj⟩,⟨rfl,by decide,by decide⟩,i5⟩,fun v j p => fin _ j (pk hq p) p.fj hi⟩)⟩) (fun _ => ⟨⟨⟨s,q3.2⟩,⟨rfl,by decide,by decide⟩,i5⟩,fun v j p => fin _ j (pk hq p) p.fj hi⟩)
  have h5 := q5.fv (by omega)
  have hm : os.getD v3.toNat [] ∈ os := by rw [getD_lt (by omega)]; exact List.getElem_mem _
  obtain ⟨k2,nm2,t2,f2,a2,b2,c2,ys2,co2,ar2,e,r2,_,_⟩ := (fr _ hm).fr
  have hy := r2.fr.flen
  refine cd1 (by omega) (cd1 ⟨rfl,by omega⟩ ⟨k2,nm2,t2,f2,a2,b2,c2,ys2,by rw [e]; rfl,cd1 ⟨rfl,by omega,by omega⟩ ⟨⟨s,q5.fj⟩,fun v4 j q6 => ?_⟩⟩)
  refine csx (fun _ => ⟨⟨s,q6.fj⟩,fun ys j q7 => ⟨⟨⟨s,q7.fj⟩,⟨rfl,by decide,by decide⟩,i5⟩,fun v j p => fin _ j (pk ⟨r2.fk,r2.fn,r2.ft,r2.fl,r2.fp,q7.fr,by decide⟩ p) p.fj hi⟩⟩) (fun _ => csx (fun _ => csx (fun h2 => ⟨⟨s,q6.fj⟩,fun v5 j q7 => ?_⟩) (fun _ => ⟨⟨⟨s,q6.fj⟩,⟨rfl,by decide,by decide⟩,i5⟩,fun v j p => cd1 rfl (fin _ j (pk r2 p) p.fj hi)⟩)) (fun _ => csx (fun _ => csx (fun h3 => ⟨⟨s,q6.fj⟩,fun f a b c j q7 => ⟨⟨⟨s,q7.fj⟩,⟨rfl,by decide,by decide⟩,i5⟩,fun v j p => cd1 rfl (fin _ j (pk ⟨r2.fk,r2.fn,r2.ft,fun e => absurd e h3,fun _ => ⟨q7.fv,q7.fn⟩,r2.fr,by decide⟩ p) p.fj hi)⟩⟩) (fun _ => ⟨⟨⟨s,q6.fj⟩,⟨rfl,by decide,by decide⟩,i5⟩,fun v j p => cd1 rfl (fin _ j (pk r2 p) p.fj hi)⟩)) (fun _ => ⟨⟨⟨s,q6.fj⟩,⟨rfl,by decide,by decide⟩,i5⟩,fun v j p => cd1 rfl (fin _ j (pk r2 p) p.fj hi)⟩)))
  rw [List.nil_append] at *
  have h7 := q7.fv (by omega)
  obtain ⟨e7,w7,g1,g2,g3⟩ := r2.fr.frow v5.toNat (by omega)
  refine cd1 (by omega) (cd1 ⟨rfl,by omega⟩ ⟨e7,by rw [g1]; rfl,⟨⟨s,q7.fj⟩,g2.1,by omega⟩,fun w8 j q8 => cd1 (by omega) (cd1 ⟨rfl,by omega⟩ ⟨⟨⟨s,q8.fj⟩,⟨rfl,by decide,by decide⟩,i5⟩,fun v j p => cd1 (by simp [setEl]) (fin _ j (pk ⟨r2.fk,r2.fn,r2.ft,r2.fl,r2.fp,rdV_set r2.fr (by omega) g1 q8.fv,by decide⟩ p) p.fj hi)⟩)⟩)
def qitems_S (iL : Int→ByteArray) (inLo : Int→Int) (inHi : Int→Int) (inD : Int→Int) (inE : Int→Int) : Prop := ∀ (gl : Glob) (xs : List (List AV)) (i n near : Int),SrcQ xs i∧(0≤near∧near≤52595999)∧0≤n∧n≤100→fnQ Tryd.prog { glob := gl,spec := lk [],specH := lk [],specQ := lk [(13,qn_s),(15,qreport_s),(16,qrange_s),(34,qlist_s),(35,(qsome_s iL inLo inHi inD inE)),(36,qplace_s),(32,qpick_s)],shape := [54,95],slz := [(54,[2])],nowf := true } { nt := 116,drop := drp [(2,61440),(3,65536),(4,786432),(5,1072693248),(6,548682072064),(7,69818988363776),(8,35888059530608640),(9,108086391056891904),(10,9079256848778919936),(11,9223372036854775808),(12,73786976294838206464),(13,2213609288845146193920),(14,4722366482869645213696),(15,141670994486089356410880),(16,19040581658930409501622272),(17,316893307243943516307380502528),(18,633825300114114700748351602688),(19,3802951800684688204490109616128),(20,152118072027387528179604384645120),(21,2433889152438200450873670154321920),(22,38942226439011207213978722469150720),(23,41538374868278621028243970633760768)],fr := 1000,kp := [0],frz := fun id => cond (Nat.beq id 21) [1001057] [],emp := fun id => cond (Nat.beq id 2) [(7,1701,50,10)] [] } (invs [(3,itmI xs near n)]) 6 Tryd.f11 [.ptr 0 0,.int .i64 n,.int .i64 near] [.cells [.sl 1 false xs,.int .i64 i]] (fun r2 bs2 => ∃ (os : List (List AV)) (j : Int),(ItmQ n os j)∧le r2 (.sl 10 false os)∧leBs bs2 [.cells [.sl 1 false xs,.int .i64 j]])
set_option maxRecDepth 100000 in
theorem qitems_e (iL : Int→ByteArray) (inLo : Int→Int) (inHi : Int→Int) (inD : Int→Int) (inE : Int→Int) : qitems_T iL inLo inHi inD inE=qitems_S iL inLo inHi inD inE := by kernel_rfl
theorem qitems_v : qitems_S iL inLo inHi inD inE := @Eq.mp (qitems_T iL inLo inHi inD inE) (qitems_S iL inLo inHi inD inE) (qitems_e iL inLo inHi inD inE) (qitems_P)
theorem qitems_ok (gl : Glob) : QOK Tryd.prog gl 11 qitems_s := by
  refine ⟨fok Tryd.func11 (by kernel_rfl) (by kernel_rfl),?_⟩
  intro xs bs T h K hT
  unfold qitems_s at h
  split at h
  · simp only [Option.some.injEq] at h
    subst h
    obtain ⟨hp,hK⟩ := hT
    obtain ⟨r,bs2,⟨o0,o1,hq,hl,hb⟩,hC⟩ := fnQ_sound tyNil (by exact specOK rfl rfl trivial trivial (d := qsOf rfl ⟨(qn_ok gl),(qreport_ok gl),(qrange_ok gl),(qlist_ok gl),(qsome_ok gl),(qplace_ok gl),(qpick_ok gl),trivial⟩)) (by kernel_rfl) Tryd.func11 (qitems_v gl _ _ _ _ hp)
    exact ⟨_,_,hK o0 o1 hq,hC.le hl hb⟩
  · cases h
end Go.Proofs.YtgnnafneglannaaDoor
namespace Go.Proofs.YtgnnafneglannaaDoor
open Go
set_option linter.unusedVariables false
set_option linter.unusedSimpArgs false
structure RpsQ (n : Int) (os : LLA) (j : Int) : Prop where
  fr : ∀ r ∈ os,RpG r
  fl : os.length≤n
  fj : 0≤j
structure RpsP (n : Int) (x : Int × Int × LLA) : Prop where
  fi : x.1 + x.2.2.length≤n
  fj : 0≤x.2.1
  fr : ∀ r ∈ x.2.2,RpG r
  fn : x.2.2.length≤n
def rpsI (xs : LLA) (near n : Int) : LInv := ⟨Int × Int × LLA,fun x => ⟨[(0,.ptr 0 0),(2,.int .i64 near),(7,.rw 1 8 x.2.2.length),(8,.int .i64 x.1)],[(0,.cells [.sl 1 false xs,.int .i64 x.2.1]),(1,.row 35 8 x.2.2)]⟩,RpsP n,fun x => x.1.toNat,none⟩
theorem rdv_rds {ys : LLA} (h : RdV 12 ys) : RdsP ys := ⟨fun i hi => by
  obtain ⟨e,v,h1,h2,h3⟩ := h.frow i hi
  have := in_bd (c := e) (by omega)
  exact ⟨e,v,h1,by show _∧_; omega,by show _∧_; omega⟩,by have := h.flen; omega⟩
def qreports_s : SpQ
  | [.ptr 0 0,.int .i64 n,.int .i64 near],[.cells [.sl 1 false xs,.int .i64 i]] => some (fun K => (SrcQ xs i∧(0≤near∧near≤52595999)∧0≤n∧n≤100)∧(∀ (os : List (List AV)) (j : Int),(RpsQ n os j)→K (.rw 1 8 os.length) [.cells [.sl 1 false xs,.int .i64 j],.row 35 8 os]))
  | _,_ => none
set_option maxRecDepth 100000 in
def qreports_T : Prop :=
  ∀ (gl : Glob) (xs : List (List AV)) (i n near:Int),SrcQ xs i∧((0:Int)≤near∧near≤(52595999:Int))∧(0:Int)≤n∧n≤(100:Int)→bif decide (rng .i64 (n + (1:Int))) then SrcQ xs i∧∀ (v j:Int),NumQ (n + (1:Int)) v j→(∃ x,RpsP n x∧((0:Nat)=0∧near=near∧(0:Nat)=List.length x.snd.snd∧v=x.fst∧True)∧((True∧xs=xs)∧j=x.snd.fst∧True)∧[]=x.snd.snd∧True)∧∀ (x : Int × Int × LLA),RpsP n x→bif decide ((0:Int) <
 x.fst) then (SrcQ xs x.snd.fst∧(0:Int)≤near∧near≤(52595999:Int))∧∀ (k:Int) (nm : ByteArray) (t f a b c:Int) (ys : List (List AV)) (j:Int),RepQ k nm t f a b c ys j→bif decide (List.length x.snd.snd=List.length x.snd.snd∧List.length x.snd.snd + [[AV.int .i64 k,.str nm,.int .i64 t,.int .i64 f,.int .i64 a,.int .i64 b,.int .i64 c,.sl (2:Nat) false ys]].length≤(9223372036854775807:Nat)∧(List.length
 x.snd.snd + [[AV.int .i64 k,.str nm,.int .i64 t,.int .i64 f,.int .i64 a,.int .i64 b,.int .i64 c,.sl (2:Nat) false ys]].length) * (88:Nat)≤(140737488355328:Nat)) then bif decide (rng .i64 (x.fst - (1:Int))) then ∃ y,RpsP n y∧(rpsI xs near n).m y < (rpsI xs near n).m x∧((0:Nat)=0∧near=near∧(x.snd.snd ++ [[AV.int .i64 k,.str nm,.int .i64 t,.int .i64 f,.int .i64 a,.int .i64 b,.int .i64 c,.sl (2:Nat)
 false ys]]).length=List.length y.snd.snd∧x.fst - (1:Int)=y.fst∧True)∧((True∧xs=xs)∧j=y.snd.fst∧True)∧x.snd.snd ++ [[AV.int .i64 k,.str nm,.int .i64 t,.int .i64 f,.int .i64 a,.int .i64 b,.int .i64 c,.sl (2:Nat) false ys]]=y.snd.snd∧True else False else False else ∃ os j,RpsQ n os j∧List.length x.snd.snd=os.length∧((True∧xs=xs)∧x.snd.fst=j∧True)∧x.snd.snd=os∧True else False
set_option maxRecDepth 100000 in
theorem qreports_P : qreports_T := by
  unfold qreports_T
  intro gl xs i n near ⟨hs,hr,hn⟩
  have s := hs.s
  refine cdI (by omega) ⟨hs,fun v j q => ⟨⟨(v,j,[]),⟨by have := q.fv (by omega); simp; omega,q.fj,by simp,by simp; omega⟩,⟨rfl,rfl,rfl,rfl,trivial⟩,⟨⟨trivial,rfl⟩,rfl,trivial⟩,rfl,trivial⟩,?_⟩⟩
  rintro ⟨i,q,os⟩ ⟨fi,fj,fr,fn⟩
  simp only at fi fj fr fn
  dsimp only
  refine csx (fun hi => ⟨⟨⟨s,fj⟩,hr⟩,fun k nm t f a b c ys j q1 => ?_⟩) (fun hi => ⟨os,q,⟨fr,fn,fj⟩,rfl,⟨⟨trivial,rfl⟩,rfl,trivial⟩,rfl,trivial⟩)
  have hg : RpG (rpR k nm t f a b c ys) := ⟨_,_,_,_,_,_,_,_,rfl,rdv_rds q1.fr,by have := q1.fr.flen; omega⟩
  exact cd1 ⟨rfl,by simp only [List.length_singleton]; omega,by simp only [List.length_singleton]; omega⟩ (cdI (by omega) ⟨(i - 1,j,os ++ [rpR k nm t f a b c ys]),⟨by simp only [List.length_append,List.length_singleton]; omega,q1.fj,fun x hx => by
      rcases List.mem_append.1 hx with h | h
      · exact fr x h
      · rw [List.mem_singleton.1 h]; exact hg,by simp only [List.length_append,List.length_singleton]; omega⟩,by simp only [rpsI]; omega,⟨rfl,rfl,rfl,rfl,trivial⟩,⟨⟨trivial,rfl⟩,rfl,trivial⟩,rfl,trivial⟩)
def qreports_S : Prop := ∀ (gl : Glob) (xs : List (List AV)) (i n near : Int),SrcQ xs i∧(0≤near∧near≤52595999)∧0≤n∧n≤100→fnQ Tryd.prog { glob := gl,spec := lk [],specH := lk [],specQ := lk [(13,qn_s),(15,qreport_s)],nowf := true } { nt := 24,drop := drp [(2,7680),(3,8192),(4,98304),(5,8257536),(6,8388608)],fr := 1000,kp := [0],emp := fun id => cond (Nat.beq id 2) [(7,1,35,8)] [],own := true } (invs [(3,rpsI xs near n)]) 6 Tryd.f12 [.ptr 0 0,.int .i64 n,.int .i64 near] [.cells [.sl 1 false xs,.int .i64 i]] (fun r2 bs2 => ∃ (os : List (List AV)) (j : Int),(RpsQ n os j)∧le r2 (.rw 1 8 os.length)∧leBs bs2 [.cells [.sl 1 false xs,.int .i64 j],.row 35 8 os])
set_option maxRecDepth 100000 in
theorem qreports_e : qreports_T=qreports_S := by kernel_rfl
theorem qreports_v : qreports_S := @Eq.mp (qreports_T) (qreports_S) (qreports_e) (qreports_P)
theorem qreports_ok (gl : Glob) : QOK Tryd.prog gl 12 qreports_s := by
  refine ⟨fok Tryd.func12 (by kernel_rfl) (by kernel_rfl),?_⟩
  intro xs bs T h K hT
  unfold qreports_s at h
  split at h
  · simp only [Option.some.injEq] at h
    subst h
    obtain ⟨hp,hK⟩ := hT
    obtain ⟨r,bs2,⟨o0,o1,hq,hl,hb⟩,hC⟩ := fnQ_sound tyNil (by exact specOK rfl rfl trivial trivial (d := qsOf rfl ⟨(qn_ok gl),(qreport_ok gl),trivial⟩)) (by kernel_rfl) Tryd.func12 (qreports_v gl _ _ _ _ hp)
    exact ⟨_,_,hK o0 o1 hq,hC.le hl hb⟩
  · cases h
structure BntQ (ys : LLA) (j : Int) : Prop where
  fr : RdsP ys
  fl : ys.length≤1000
  fj : 0≤j
structure BntP (ys : LLA) (c : Int) : Prop where
  fr : RdsP ys
  fl : ys.length≤900
  fc : 0≤c∧c≤1000
theorem rds_add {ys : LLA} {v w : Int} (h : RdsP ys) (hl : ys.length≤900) (hv : rng .i64 v) (hw : rng .i64 w) : RdsP (ys ++ [[.int .i64 v,.int .i64 w]]) := ⟨fun i hi => by
  rw [List.length_append,List.length_singleton] at hi
  rw [gD_app]
  by_cases hl : i < ys.length
  · rw [if_pos hl]; exact h.row i hl
  · rw [if_neg hl,show i - ys.length=0 by omega]
    exact ⟨v,w,rfl,hv,hw⟩,by rw [List.length_append,List.length_singleton]; omega⟩
theorem rds_set {ys : LLA} {w : Int} {i : Nat} (h : RdsP ys) (hi : i < ys.length) (hw : rng .i64 w) : RdsP (setEl ys i 1 [.int .i64 w]) := by
  obtain ⟨e,v,he,h1,h2⟩ := h.row i hi
  have e1 : setEl ys i 1 [.int .i64 w]=ys.set i [.int .i64 e,.int .i64 w] := by
    unfold setEl spl; rw [he]; rfl
  rw [e1]
  refine ⟨fun j hj => ?_,by rw [List.length_set]; exact h.sm⟩
  rw [List.length_set] at hj
  rw [List.getD_eq_getElem?_getD,List.getElem?_set]
  split
  · exact ⟨e,w,rfl,h1,hw⟩
  · rw [← List.getD_eq_getElem?_getD]; exact h.row j hj
def qbent_s : SpQ
  | [.ptr 0 0,.agg [.int .i64 k,.str nm,.int .i64 t,.int .i64 f,.int .i64 a,.int .i64 b,.int .i64 c,.sl 2 h ys]],[.cells [.sl 1 false xs,.int .i64 i]] => some (fun K => (SrcQ xs i∧BntP ys c)∧(∀ (k : Int) (nm : ByteArray) (t f a b c : Int) (zs : List (List AV)) (j : Int),(BntQ zs j)→K (.agg [.int .i64 k,.str nm,.int .i64 t,.int .i64 f,.int .i64 a,.int .i64 b,.int .i64 c,.sl 2 false zs]) [.cells [.sl 1 false xs,.int .i64 j]]))
  | _,_ => none
set_option maxRecDepth 100000 in
def qbent_T : Prop :=
  ∀ (gl : Glob) (xs : List (List AV)) (i k:Int) (nm : ByteArray) (t f a b c:Int) (h : Bool) (ys : List (List AV)),SrcQ xs i∧BntP ys c→bif decide ((0:Nat)=0∧(0:Nat) + ys.length≤(9223372036854775807:Nat)∧((0:Nat) + ys.length) * (16:Nat)≤(140737488355328:Nat)) then SrcQ xs i∧∀ (v j:Int),NumQ (8:Int) v j→bif decide (v=(0:Int)) then (SrcQ xs j∧(-1:Int)≤(4:Int)∧(-1000000000:Int)≤(-1:Int)∧(4:Int) ≤
 (1000000000:Int))∧∀ (v j:Int),((-1:Int)≤v∧v≤(4:Int))∧(0:Int)≤j→bif decide (([] ++ ys).length=([] ++ ys).length) then ∃ k nm_1 t_1 f_1 a_4 b_1 c_1 zs j_1,BntQ zs j_1∧(v=k∧nm=nm_1∧t=t_1∧f=f_1∧a=a_4∧b=b_1∧c=c_1∧(True∧[] ++ ys=zs)∧True)∧((True∧xs=xs)∧j=j_1∧True)∧True else False else bif decide (v=(1:Int)) then (SrcQ xs j∧((6:Nat)=6∧(1:Nat)≤(6:Nat)∧(6:Nat)≤(1000:Nat))∧StrsA [[AV.str (⟨#[]⟩ :
 ByteArray)],[AV.str { data := #[(65 : UInt8),(76 : UInt8),(80 : UInt8),(72 : UInt8)] }],[AV.str { data := #[(97 : UInt8),(108 : UInt8),(112 : UInt8),(104 : UInt8),(97 : UInt8)] }],[AV.str { data := #[(65 : UInt8),(76 : UInt8),(80 : UInt8),(72 : UInt8),(65 : UInt8),(49 : UInt8)] }],[AV.str { data := #[(65 : UInt8),(76 : UInt8),(32 : UInt8),(80 : UInt8),(72 : UInt8)] }],[AV.str { data := #[(65 :
 UInt8),(76 : UInt8),(80 : UInt8),(72 : UInt8),(65 : UInt8)] }]])∧∀ (v : ByteArray) (j:Int),PickQ [[AV.str (⟨#[]⟩ : ByteArray)],[AV.str { data := #[(65 : UInt8),(76 : UInt8),(80 : UInt8),(72 : UInt8)] }],[AV.str { data := #[(97 : UInt8),(108 : UInt8),(112 : UInt8),(104 : UInt8),(97 : UInt8)] }],[AV.str { data := #[(65 : UInt8),(76 : UInt8),(80 : UInt8),(72 : UInt8),(65 : UInt8),(49 : UInt8)]
 }],[AV.str { data := #[(65 : UInt8),(76 : UInt8),(32 : UInt8),(80 : UInt8),(72 : UInt8)] }],[AV.str { data := #[(65 : UInt8),(76 : UInt8),(80 : UInt8),(72 : UInt8),(65 : UInt8)] }]] (AV.str v) j→bif decide (([] ++ ys).length=([] ++ ys).length) then ∃ k_1 nm t_1 f_1 a_4 b_1 c_1 zs j_1,BntQ zs j_1∧(k=k_1∧v=nm∧t=t_1∧f=f_1∧a=a_4∧b=b_1∧c=c_1∧(True∧[] ++ ys=zs)∧True)∧((True∧xs=xs)∧j=j_1∧True)∧True else
 False else bif decide (v=(2:Int)) then (SrcQ xs j∧((3:Nat)=3∧(1:Nat)≤(3:Nat)∧(3:Nat)≤(1000:Nat))∧IntsB [[AV.int .i64 (-1:Int)],[AV.int .i64 (52596000:Int)],[AV.int .i64 (0:Int)]])∧∀ (v j:Int),PickQ [[AV.int .i64 (-1:Int)],[AV.int .i64 (52596000:Int)],[AV.int .i64 (0:Int)]] (AV.int .i64 v) j→bif decide (([] ++ ys).length=([] ++ ys).length) then ∃ k_1 nm_1 t f_1 a_4 b_1 c_1 zs j_1,BntQ zs
 j_1∧(k=k_1∧nm=nm_1∧v=t∧f=f_1∧a=a_4∧b=b_1∧c=c_1∧(True∧[] ++ ys=zs)∧True)∧((True∧xs=xs)∧j=j_1∧True)∧True else False else bif decide (v=(3:Int)) then SrcQ xs j∧∀ (f a b c j:Int),PlaQ f a b c j→bif decide (([] ++ ys).length=([] ++ ys).length) then ∃ k_1 nm_1 t_1 f_1 a_4 b_1 c_1 zs j_1,BntQ zs j_1∧(k=k_1∧nm=nm_1∧t=t_1∧f=f_1∧a=a_4∧b=b_1∧c=c_1∧(True∧[] ++ ys=zs)∧True)∧((True∧xs=xs)∧j=j_1∧True)∧True else
 False else bif decide (v=(4:Int)) then (SrcQ xs j∧(-1:Int)≤(20:Int)∧(-1000000000:Int)≤(-1:Int)∧(20:Int)≤(1000000000:Int))∧∀ (v j:Int),((-1:Int)≤v∧v≤(20:Int))∧(0:Int)≤j→SrcQ xs j∧∀ (v_1 j:Int),NumQ (841:Int) v_1 j→SrcQ xs j∧∀ (v_2 j:Int),NumQ (200:Int) v_2 j→bif decide (([] ++ ys).length=([] ++ ys).length) then ∃ k_1 nm_1 t_1 f a b c zs j_1,BntQ zs
 j_1∧(k=k_1∧nm=nm_1∧t=t_1∧v=f∧v_1=a∧v_2=b∧(0:Int)=c∧(True∧[] ++ ys=zs)∧True)∧((True∧xs=xs)∧j=j_1∧True)∧True else False else bif decide (v=(5:Int)) then (SrcQ xs j∧(0:Int)≤(12:Int)∧(-1000000000:Int)≤(0:Int)∧(12:Int)≤(1000000000:Int))∧∀ (v j:Int),((0:Int)≤v∧v≤(12:Int))∧(0:Int)≤j→SrcQ xs j∧∀ (v_1 j:Int),NumQ (9000:Int) v_1 j→bif decide (([] ++ ys).length=([] ++ ys).length∧([] ++ ys).length
 + [[AV.int .i64 v,.int .i64 v_1]].length≤(9223372036854775807:Nat)∧(([] ++ ys).length + [[AV.int .i64 v,.int .i64 v_1]].length) * (16:Nat)≤(140737488355328:Nat)) then bif decide (([] ++ ys ++ [[AV.int .i64 v,.int .i64 v_1]]).length=([] ++ ys ++ [[AV.int .i64 v,.int .i64 v_1]]).length) then ∃ k_1 nm_1 t_1 f_1 a_5 b_1 c_1 zs j_1,BntQ zs j_1∧(k=k_1∧nm=nm_1∧t=t_1∧f=f_1∧a=a_5∧b=b_1∧c=c_1∧(True∧[] ++
 ys ++ [[AV.int .i64 v,.int .i64 v_1]]=zs)∧True)∧((True∧xs=xs)∧j=j_1∧True)∧True else False else False else bif decide (v=(6:Int)) then bif decide ((0:Int) < (↑([] ++ ys).length:Int)) then SrcQ xs j∧∀ (v j:Int),NumQ (↑([] ++ ys).length:Int) v j→(SrcQ xs j∧((3:Nat)=3∧(1:Nat)≤(3:Nat)∧(3:Nat)≤(1000:Nat))∧IntsB [[AV.int .i64 (-1001:Int)],[AV.int .i64 (0:Int)],[AV.int .i64 (99999:Int)]])∧∀ (v_1
 j:Int),PickQ [[AV.int .i64 (-1001:Int)],[AV.int .i64 (0:Int)],[AV.int .i64 (99999:Int)]] (AV.int .i64 v_1) j→bif decide ((0:Int)≤v∧v < (↑([] ++ ys).length:Int)) then bif decide (([] ++ ys).length=([] ++ ys).length∧v.toNat < ([] ++ ys).length) then bif decide (([] ++ ys).length=(setEl ([] ++ ys) v.toNat (1:Nat) [AV.int .i64 v_1]).length) then ∃ k_1 nm_1 t_1 f_1 a_5 b_1 c_1 zs j_1,BntQ zs
 j_1∧(k=k_1∧nm=nm_1∧t=t_1∧f=f_1∧a=a_5∧b=b_1∧c=c_1∧(True∧setEl ([] ++ ys) v.toNat (1:Nat) [AV.int .i64 v_1]=zs)∧True)∧((True∧xs=xs)∧j=j_1∧True)∧True else False else False else False else bif decide (([] ++ ys).length=([] ++ ys).length) then ∃ k_1 nm_1 t_1 f_1 a_3 b_1 c_1 zs j_1,BntQ zs j_1∧(k=k_1∧nm=nm_1∧t=t_1∧f=f_1∧a=a_3∧b=b_1∧c=c_1∧(True∧[] ++ ys=zs)∧True)∧((True∧xs=xs)∧j=j_1∧True)∧True else False
 else bif decide (rng .i64 (c + (1:Int))) then bif decide (([] ++ ys).length=([] ++ ys).length) then ∃ k_1 nm_1 t_1 f_1 a_3 b_1 c_1 zs j_1,BntQ zs j_1∧(k=k_1∧nm=nm_1∧t=t_1∧f=f_1∧a=a_3∧b=b_1∧c + (1:Int)=c_1∧(True∧[] ++ ys=zs)∧True)∧((True∧xs=xs)∧j=j_1∧True)∧True else False else False else False
set_option maxRecDepth 100000 in
theorem qbent_P : qbent_T := by
  unfold qbent_T
  intro gl xs i k nm t f a b c h ys ⟨hs,hr,hl,hc⟩
  have s := hs.s
  have q0 : ∀ j,0≤j→BntQ ys j := fun j hj => ⟨hr,by omega,hj⟩
  refine cd1 ⟨rfl,by omega,by omega⟩ ⟨hs,fun v j q => csx (fun _ => ⟨⟨⟨s,q.fj⟩,by decide,by decide,by decide⟩,fun v j p => cd1 rfl ⟨_,_,_,_,_,_,_,_,_,q0 j p.2,⟨rfl,rfl,rfl,rfl,rfl,rfl,rfl,⟨trivial,rfl⟩,trivial⟩,sT⟩⟩) (fun _ => csx (fun _ => ⟨⟨⟨s,q.fj⟩,⟨rfl,by decide,by decide⟩,⟨fun x hx => ?_⟩⟩,fun v j p => cd1 rfl ⟨_,_,_,_,_,_,_,_,_,q0 j p.fj,⟨rfl,rfl,rfl,rfl,rfl,rfl,rfl,⟨trivial,rfl⟩,trivial⟩,sT⟩⟩) (fun _ => csx (fun _ => ⟨⟨⟨s,q.fj⟩,⟨rfl,by decide,by decide⟩,ints_of [-1,52596000,0] ?_⟩,fun v j p => cd1 rfl ⟨_,_,_,_,_,_,_,_,_,q0 j p.fj,⟨rfl,rfl,rfl,rfl,rfl,rfl,rfl,⟨trivial,rfl⟩,trivial⟩,sT⟩⟩) (fun _ => csx (fun _ => ⟨⟨s,q.fj⟩,fun f a b c j p => cd1 rfl ⟨_,_,_,_,_,_,_,_,_,q0 j p.fj,⟨rfl,rfl,rfl,rfl,rfl,rfl,rfl,⟨trivial,rfl⟩,trivial⟩,sT⟩⟩) (fun _ => csx (fun _ => ⟨⟨⟨s,q.fj⟩,by decide,by decide,by decide⟩,fun v j p => ⟨⟨s,p.2⟩,fun v j p => ⟨⟨s,p.fj⟩,fun v j p => cd1 rfl ⟨_,_,_,_,_,_,_,_,_,q0 j p.fj,⟨rfl,rfl,rfl,rfl,rfl,rfl,rfl,⟨trivial,rfl⟩,trivial⟩,sT⟩⟩⟩⟩) (fun _ => csx (fun _ => ⟨⟨⟨s,q.fj⟩,by decide,by decide,by decide⟩,fun v j p => ⟨⟨s,p.2⟩,fun v2 j p2 => ?_⟩⟩) (fun _ => csx (fun _ => csx (fun h0 => ⟨⟨s,q.fj⟩,fun v j p => ⟨⟨⟨s,p.fj⟩,⟨rfl,by decide,by decide⟩,ints_of [-1001,0,99999] ?_⟩,fun v2 j p2 => ?_⟩⟩) (fun _ => cd1 rfl ⟨_,_,_,_,_,_,_,_,_,q0 j q.fj,⟨rfl,rfl,rfl,rfl,rfl,rfl,rfl,⟨trivial,rfl⟩,trivial⟩,sT⟩)) (fun _ => cdI (by omega) (cd1 rfl ⟨_,_,_,_,_,_,_,_,_,q0 j q.fj,⟨rfl,rfl,rfl,rfl,rfl,rfl,rfl,⟨trivial,rfl⟩,trivial⟩,sT⟩))))))))⟩
  · simp only [List.mem_cons,List.not_mem_nil,or_false] at hx
    rcases hx with rfl | rfl | rfl | rfl | rfl | rfl <;> exact ⟨_,rfl⟩
  · intro n hn
    simp only [List.mem_cons,List.not_mem_nil,or_false] at hn
    show _∧_
    omega
  · have := p2.fv (by omega)
    exact cd1 ⟨rfl,by simp; omega,by simp; omega⟩ (cd1 rfl ⟨_,_,_,_,_,_,_,_,_,⟨rds_add hr hl (by show _∧_; omega) (by show _∧_; omega),by simp; omega,p2.fj⟩,⟨rfl,rfl,rfl,rfl,rfl,rfl,rfl,⟨trivial,rfl⟩,trivial⟩,sT⟩)
  · intro n hn
    simp only [List.mem_cons,List.not_mem_nil,or_false] at hn
    show _∧_
    omega
  · rw [List.nil_append] at *
    have hv := p.fv (by omega)
    have := pick_of [-1001,0,99999] p2
    simp only [List.mem_cons,List.not_mem_nil,or_false] at this
    exact cd1 (by omega) (cd1 ⟨rfl,by omega⟩ (cd1 (by simp [setEl]) ⟨_,_,_,_,_,_,_,_,_,⟨rds_set hr (by omega) (by show _∧_; omega),by simp [setEl]; omega,p2.fj⟩,⟨rfl,rfl,rfl,rfl,rfl,rfl,rfl,⟨trivial,rfl⟩,trivial⟩,sT⟩))
def qbent_S : Prop := ∀ (gl : Glob) (xs : List (List AV)) (i k : Int) (nm : ByteArray) (t f a b c : Int) (h : Bool) (ys : List (List AV)),SrcQ xs i∧BntP ys c→fnQ Tryd.prog { glob := gl,spec := lk [],specH := lk [],specQ := lk [(13,qn_s),(16,qrange_s),(37,qtext_s),(36,qplace_s),(32,qpick_s)],nowf := true } { nt := 81,drop := drp [(1,992),(2,1024),(3,258048),(4,524288),(5,7340032),(6,16777216),(7,503316480),(8,1073741824),(9,32212254720),(10,68719476736),(11,962072674304),(12,2199023255552),(13,1121501860331520),(14,2251799813685248),(15,4607182418800017408),(16,9223372036854775808),(17,129127208515966861312),(18,1208630671709449821880320),(19,1208925819614629174706176)],fr := 1000,kp := [0],frz := fun id => cond (Nat.beq id 19) [1001005] [] } (fun _ _ => none) 6 Tryd.f14 [.ptr 0 0,.agg [.int .i64 k,.str nm,.int .i64 t,.int .i64 f,.int .i64 a,.int .i64 b,.int .i64 c,.sl 2 h ys]] [.cells [.sl 1 false xs,.int .i64 i]] (fun r2 bs2 => ∃ (k : Int) (nm : ByteArray) (t f a b c : Int) (zs : List (List AV)) (j : Int),(BntQ zs j)∧le r2 (.agg [.int .i64 k,.str nm,.int .i64 t,.int .i64 f,.int .i64 a,.int .i64 b,.int .i64 c,.sl 2 false zs])∧leBs bs2 [.cells [.sl 1 false xs,.int .i64 j]])
set_option maxRecDepth 100000 in
theorem qbent_e : qbent_T=qbent_S := by kernel_rfl
theorem qbent_v : qbent_S := @Eq.mp (qbent_T) (qbent_S) (qbent_e) (qbent_P)
theorem qbent_ok (gl : Glob) : QOK Tryd.prog gl 14 qbent_s := by
  refine ⟨fok Tryd.func14 (by kernel_rfl) (by kernel_rfl),?_⟩
  intro xs bs T h K hT
  unfold qbent_s at h
  split at h
  · simp only [Option.some.injEq] at h
    subst h
    obtain ⟨hp,hK⟩ := hT
    obtain ⟨r,bs2,⟨o0,o1,o2,o3,o4,o5,o6,o7,o8,hq,hl,hb⟩,hC⟩ := fnQ_sound tyNil (by exact specOK rfl rfl trivial trivial (d := qsOf rfl ⟨(qn_ok gl),(qrange_ok gl),(qtext_ok gl),(qplace_ok gl),(qpick_ok gl),trivial⟩)) (by kernel_rfl) Tryd.func14 (qbent_v gl _ _ _ _ _ _ _ _ _ _ _ hp)
    exact ⟨_,_,hK o0 o1 o2 o3 o4 o5 o6 o7 o8 hq,hC.le hl hb⟩
  · cases h
end Go.Proofs.YtgnnafneglannaaDoor
namespace Go.Proofs.YtgnnafneglannaaDoor
open Go
set_option linter.unusedVariables false
set_option linter.unusedSimpArgs false
def cvs (P : LLA) (c : Int) : List Int := (P.filter fun r => decide (rE r=c)).map rV
def alq : List Int→Bool
  | [] => true
  | v :: l => l.all fun u => decide (u=v)
theorem alq_last : ∀ {l : List Int} {v : Int},alq (v :: l)=true→(v :: l).getLast?=some v
  | [],v,_ => rfl
  | a :: l,v,h => by
    simp only [alq,List.all_cons,Bool.and_eq_true,decide_eq_true_eq] at h
    obtain ⟨rfl,h⟩ := h
    rw [List.getLast?_cons_cons]
    exact alq_last (l := l) (v := a) h
theorem alq_snoc (l : List Int) (v : Int) : alq (l ++ [v])=(alq l && (match l.getLast? with | none => true | some u => decide (u=v))) := by
  cases l with
  | nil => rfl
  | cons a l =>
    cases h : alq (a :: l) with
    | true =>
      rw [alq_last h]
      simp only [alq] at h
      simp only [List.cons_append,alq,List.all_append,h,List.all_cons,List.all_nil,Bool.and_true,Bool.true_and]
      exact decide_eq_decide.2 eq_comm
    | false =>
      simp only [alq] at h
      simp only [List.cons_append,alq,List.all_append,h,Bool.false_and]
def bdP (P : LLA) (c : Int) : Bool := !(alq (cvs P c))
theorem cvs_snoc (P : LLA) (r : List AV) (c : Int) : cvs (P ++ [r]) c=cvs P c ++ (if rE r=c then [rV r] else []) := by
  unfold cvs
  rw [List.filter_append,List.map_append]
  by_cases h : rE r=c
  · simp [h]
  · simp [h]
def vmP (P : LLA) : List (Int × AV) := P.foldl (fun m r => mPut m (rE r) (.int .i64 (rV r))) []
theorem vmP_snoc (P : LLA) (r : List AV) : vmP (P ++ [r])=mPut (vmP P) (rE r) (.int .i64 (rV r)) := by
  unfold vmP; rw [List.foldl_append]; rfl
theorem vm_get (c : Int) : ∀ P : LLA,mGet (vmP P) c=((cvs P c).getLast?).map (AV.int .i64) :=
  snoc_ind (by simp [vmP,mGet,cvs]) fun P r ih => by
    rw [vmP_snoc,cvs_snoc,mGet_put]
    by_cases h : rE r=c
    · rw [if_pos h,if_pos h]; simp
    · rw [if_neg h,if_neg h,List.append_nil]; exact ih
theorem vm_has (P : LLA) (c : Int) : mHas (vmP P) c=decide (cvs P c≠[]) := by
  unfold mHas
  rw [vm_get]
  cases h : cvs P c with
  | nil => simp
  | cons a l => simp
def lasI (l : List Int) : Int := l.getLast?.getD 0
theorem vm_int (P : LLA) (c : Int) : mInt (vmP P) c=lasI (cvs P c) := by
  unfold mInt lasI
  rw [vm_get]
  cases h : (cvs P c).getLast? with
  | none => rfl
  | some v => rfl
theorem bdP_same (P : LLA) (e v : Int) : bdP (P ++ [[.int .i64 e,.int .i64 v]]) e=(bdP P e || (mHas (vmP P) e && decide (¬ mInt (vmP P) e=v))) := by
  unfold bdP
  rw [cvs_snoc,if_pos (show rE [.int .i64 e,.int .i64 v]=e from rfl),vm_has,vm_int]
  have : rV [.int .i64 e,.int .i64 v]=v := rfl
  rw [this,alq_snoc]
  unfold lasI
  cases h : cvs P e with
  | nil => simp
  | cons a l =>
    have hl : (a :: l).getLast?=some ((a :: l).getLast (by simp)) := List.getLast?_eq_some_getLast (by simp)
    rw [hl]
    cases alq (a :: l) <;> simp
theorem bdP_ne (P : LLA) (e v c : Int) (h : ¬ e=c) : bdP (P ++ [[.int .i64 e,.int .i64 v]]) c=bdP P c := by
  unfold bdP
  rw [cvs_snoc,if_neg (show ¬ rE [.int .i64 e,.int .i64 v]=c from h),List.append_nil]
def rdsF (G : LLA) : LLA := (G.map itRd).flatten
def plF (G : LLA) (p : List Int) : Bool := G.any fun x => decide (¬ itPl x=p)
theorem plF_snoc (G : LLA) (x : List AV) (p : List Int) : plF (G ++ [x]) p=(plF G p || decide (¬ itPl x=p)) := by
  unfold plF; rw [List.any_append]; simp
theorem rdsF_snoc (G : LLA) (x : List AV) : rdsF (G ++ [x])=rdsF G ++ itRd x := by
  unfold rdsF; rw [List.map_append,List.flatten_append]; simp
theorem take_snoc {G : LLA} {i : Nat} (h : i < G.length) : G.take (i + 1)=G.take i ++ [G.getD i []] := by
  rw [getD_lt h]; exact (List.take_append_getElem h).symm
def badC (G : LLA) (c : Nat) : Bool := if c=0 then plF G (itPl (G.headD [])) else bdP (rdsF G) c
def ctN (G : LLA) : Nat→LLA
  | 0 => []
  | n + 1 => ctN G n ++ (if badC G n then [[.int .i64 (n : Int)]] else [])
def rdN (G : LLA) : Nat→LLA
  | 0 => []
  | n + 1 => rdN G n ++ (if badC G n then [] else if cvs (rdsF G) n=[] then [] else [[.int .i64 (n : Int),.int .i64 (lasI (cvs (rdsF G) n))]])
theorem ctN_len (G : LLA) : ∀ n,(ctN G n).length≤n
  | 0 => by simp [ctN]
  | n + 1 => by
    have := ctN_len G n
    simp only [ctN]
    split <;> simp <;> omega
theorem rdN_len (G : LLA) : ∀ n,(rdN G n).length≤n
  | 0 => by simp [rdN]
  | n + 1 => by
    have := rdN_len G n
    simp only [rdN]
    split
    · simp; omega
    · split <;> simp <;> omega
structure RdE (rd : LLA) : Prop where
  fr : ∀ i,i < rd.length→∃ e v : Int,rd.getD i []=[.int .i64 e,.int .i64 v]∧(1≤e∧e≤11)∧rng .i64 v
  fl : rd.length≤1000
structure MgP (G : LLA) : Prop where
  fr : ∀ i,i < G.length→∃ (k : Int) (nm : ByteArray) (t f a b c : Int) (rd : LLA) (co ar : Int),G.getD i []=itA k nm t f a b c rd co ar∧RdE rd
  fl : G.length≤900
  f0 : 0 < G.length
end Go.Proofs.YtgnnafneglannaaDoor
