import Derived.Test.YtgnnafneglannaaDoorICf
namespace Go.Proofs.YtgnnafneglannaaDoor
open Go
set_option linter.unusedVariables false
set_option linter.unusedSimpArgs false
def ibS (out : LLA) (x : List AV) : LLA := if adE out x=0 then adO out x else out
def ibO (l : LLA) : LLA := l.foldl ibS []
theorem ibO_snoc (l : LLA) (x : List AV) : ibO (l ++ [x])=ibS (ibO l) x := by unfold ibO; rw [List.foldl_append]; rfl
structure IbR (l : LLA) : Prop where
  fv : inV l=0
  fg : GdL l
theorem ibO_ok : ∀ l : LLA,(∀ r ∈ l,ItG r)→IbR (ibO l) :=
  snoc_ind (fun _ => ⟨inV_of (by decide) (by simp [ibO]) (by simp [ibO,Srt]),⟨by simp [ibO],by decide⟩⟩) fun l x ih h => by
    have i1 := ih fun r hr => h r (by simp [hr])
    have hx := h x (by simp)
    rw [ibO_snoc]
    unfold ibS
    split
    · next e =>
      have hpu : puE (ibO l) x=0 := by unfold adE at e; rw [if_pos i1.fv] at e; exact e
      have hadO : adO (ibO l) x=addI (ibO l) x := by unfold adO; rw [if_pos e]
      rw [hadO]
      exact ⟨inV_add i1.fv i1.fg hx hpu,(addI_gd i1.fg hx hpu (inV_ok i1.fv).1).1⟩
    · exact i1
structure QiI (l : LLA) (x : Int × LLA) : Prop where
  flo : 0≤x.1
  fhi : x.1≤l.length
  fe : x.2=ibO (l.take x.1.toNat)
def qi3 (l : LLA) (g : Bool) : LInv := ⟨Int × LLA,fun x => ⟨[(0,.sl 10 g l),(3,.sl 10 false x.2),(4,.int .i64 x.1)],[]⟩,QiI l,fun x => (l.length - x.1).toNat,none⟩
def qinbox_s (ibO : LLA→LLA) (adE : LLA→List AV→Int) (adO : LLA→List AV→LLA) : Sp
  | [.sl 10 g l] => some (GdL l,.sl 10 false (ibO l))
  | _ => none
set_option maxRecDepth 100000 in
def qinbox_T (ibO : LLA→LLA) (adE : LLA→List AV→Int) (adO : LLA→List AV→LLA) (posI : LLA→List AV→Nat) (inV : LLA→Int) (itC : List AV→List AV→Int) (itE : Int→ByteArray→Int→Int→Int→Int→Int→LLA→Int→Int→Int) : Prop :=
  ∀ (gl : Glob) (l : List (List AV)) (g : Bool),GdL l→True→(∃ x,QiI l x∧(((bif g then g=true else True)∧l=l)∧x.snd=[]∧(0:Int)=x.fst∧True)∧True)∧∀ (x : Int × LLA),QiI l x→bif decide (x.fst < (↑l.length:Int)) then bif decide ((0:Int)≤x.fst∧x.fst < (↑l.length:Int)) then ∃ n s n_1 n_2 n_3 n_4 n_5 xs n_6 n_7,List.take [AV.int .i64 n,.str s,.int .i64 n_1,.int .i64 n_2,.int .i64 n_3,.int .i64 n_4,.int
 .i64 n_5,.sl (2:Nat) false xs,.int .i64 n_6,.int .i64 n_7].length (l.getD x.fst.toNat [])=[AV.int .i64 n,.str s,.int .i64 n_1,.int .i64 n_2,.int .i64 n_3,.int .i64 n_4,.int .i64 n_5,.sl (2:Nat) false xs,.int .i64 n_6,.int .i64 n_7]∧AdP x.snd xs∧bif decide (adE x.snd (itA n s n_1 n_2 n_3 n_4 n_5 xs n_6 n_7)=(0:Int)) then bif decide (rng .i64 (x.fst + (1:Int))) then ∃ y,QiI l y∧(qi3 l g).m y < (qi3 l
 g).m x∧(((bif g then g=true else True)∧l=l)∧(True∧adO x.snd (itA n s n_1 n_2 n_3 n_4 n_5 xs n_6 n_7)=y.snd)∧x.fst + (1:Int)=y.fst∧True)∧True else False else bif decide (rng .i64 (x.fst + (1:Int))) then ∃ y,QiI l y∧(qi3 l g).m y < (qi3 l g).m x∧(((bif g then g=true else True)∧l=l)∧(True∧x.snd=y.snd)∧x.fst + (1:Int)=y.fst∧True)∧True else False else False else True∧x.snd=ibO l
set_option maxRecDepth 100000 in
theorem qinbox_P : qinbox_T ibO adE adO posI inV itC itE := by
  unfold qinbox_T
  intro gl l g hg _
  have bg : cond g (g=true) True := by cases g <;> trivial
  have hl := hg.fl
  refine ⟨⟨(0,[]),⟨by simp,by simp,by simp [ibO]⟩,by (repeat' (first | exact trivial | exact rfl | assumption | apply And.intro))⟩,?_⟩
  rintro ⟨i,out⟩ ⟨i0,i1,e⟩
  simp only at i0 i1 e
  dsimp only
  refine csx (fun hi => cd1 (by omega) ?_) (fun hi => ?_)
  · have hm : l.getD i.toNat [] ∈ l := by rw [getD_lt (by omega)]; exact List.getElem_mem _
    obtain ⟨k,nm,t,f,a,b,c,rd,co,ar,h1,h2,h3⟩ := (hg.fg _ hm).fr
    have hb := ibO_ok (l.take i.toNat) (fun r hr => hg.fg r (List.mem_of_mem_take hr))
    rw [← e] at hb
    have hs : ibO (l.take (i.toNat + 1))=ibS out (itA k nm t f a b c rd co ar) := by
      rw [List.take_add_one,List.getElem?_eq_getElem (show i.toNat < l.length by omega),← getD_lt (by omega),h1,Option.toList_some,ibO_snoc,← e]
    refine ⟨k,nm,t,f,a,b,c,rd,co,ar,by rw [h1]; rfl,⟨hb.fg.p,fun _ => hb.fg,h2,h3⟩,?_⟩
    generalize itA k nm t f a b c rd co ar=x at *
    refine csx (fun q => ?_) (fun q => ?_)
    · exact cdI (by omega) ⟨(i + 1,adO out x),⟨by simp only; omega,by simp only; omega,by simp only; rw [show (i + 1).toNat=i.toNat + 1 by omega,hs]; unfold ibS; rw [if_pos q]⟩,by simp only [qi3]; omega,⟨⟨bg,rfl⟩,⟨trivial,rfl⟩,rfl,trivial⟩,trivial⟩
    · exact cdI (by omega) ⟨(i + 1,out),⟨by simp only; omega,by simp only; omega,by simp only; rw [show (i + 1).toNat=i.toNat + 1 by omega,hs]; unfold ibS; rw [if_neg q]⟩,by simp only [qi3]; omega,⟨⟨bg,rfl⟩,⟨trivial,rfl⟩,rfl,trivial⟩,trivial⟩
  · refine ⟨trivial,?_⟩
    rw [e,List.take_of_length_le (by omega)]
def qinbox_S (ibO : LLA→LLA) (adE : LLA→List AV→Int) (adO : LLA→List AV→LLA) (posI : LLA→List AV→Nat) (inV : LLA→Int) (itC : List AV→List AV→Int) (itE : Int→ByteArray→Int→Int→Int→Int→Int→LLA→Int→Int→Int) : Prop := ∀ (gl : Glob) (l : List (List AV)) (g : Bool),GdL l→fnK Tryd.prog { glob := gl,spec := lk [(33,(radd_s posI inV itC itE adE adO))],specH := lk [],shape := [18],slz := [(18,[2])],nowf := true } { nt := 26,drop := drp [(3,896),(4,6144),(5,4186112),(6,4194304),(7,16777216),(8,33554432)] } (invs [(3,qi3 l g)]) 6 Tryd.f10 [.sl 10 g l] (.sl 10 false (ibO l))
set_option maxRecDepth 100000 in
theorem qinbox_e (ibO : LLA→LLA) (adE : LLA→List AV→Int) (adO : LLA→List AV→LLA) (posI : LLA→List AV→Nat) (inV : LLA→Int) (itC : List AV→List AV→Int) (itE : Int→ByteArray→Int→Int→Int→Int→Int→LLA→Int→Int→Int) : qinbox_T ibO adE adO posI inV itC itE=qinbox_S ibO adE adO posI inV itC itE := by kernel_rfl
theorem qinbox_v : qinbox_S ibO adE adO posI inV itC itE := @Eq.mp (qinbox_T ibO adE adO posI inV itC itE) (qinbox_S ibO adE adO posI inV itC itE) (qinbox_e ibO adE adO posI inV itC itE) (qinbox_P)
theorem qinbox_ok (gl : Glob) : SOK Tryd.prog gl 10 (qinbox_s ibO adE adO) := by
  refine ⟨fok Tryd.func10 (by kernel_rfl) (by kernel_rfl),?_⟩
  intro xs pre r h hp
  unfold qinbox_s at h
  split at h
  · simp only [Option.some.injEq,Prod.mk.injEq] at h
    obtain ⟨h1,h2⟩ := h
    subst h1 h2
    exact fnK_sound tyNil (by exact specOK rfl rfl ⟨(radd_ok gl),trivial⟩ trivial) (by kernel_rfl) Tryd.func10 rfl (qinbox_v gl _ _ hp)
  · cases h
end Go.Proofs.YtgnnafneglannaaDoor
namespace Go.Proofs.YtgnnafneglannaaDoor
open Go
set_option linter.unusedVariables false
set_option linter.unusedSimpArgs false
structure ItV (r : List AV) : Prop where
  fr : ∃ (k : Int) (nm : ByteArray) (t f a b c : Int) (ys : LLA) (co ar : Int),r=itA k nm t f a b c ys co ar∧RepQ k nm t f a b c ys 0∧(0≤co∧co≤2)∧0≤ar∧ar≤52595999
structure ItmQ (n : Int) (os : LLA) (j : Int) : Prop where
  fr : ∀ r ∈ os,ItV r
  fl : os.length≤n
  fj : 0≤j
structure ItmP (n : Int) (x : Int × Int × LLA) : Prop where
  fi : x.1 + x.2.2.length≤n
  fj : 0≤x.2.1
  fr : ∀ r ∈ x.2.2,ItV r
  fn : x.2.2.length≤n
def itmI (xs : LLA) (near n : Int) : LInv := ⟨Int × Int × LLA,fun x => ⟨[(0,.ptr 0 0),(2,.int .i64 near),(7,.rw 1701 10 x.2.2.length),(8,.int .i64 x.1)],[(0,.cells [.sl 1 false xs,.int .i64 x.2.1]),(1701,.row 50 10 x.2.2)]⟩,ItmP n,fun x => x.1.toNat,none⟩
theorem rdV_set {ys : LLA} (h : RdV 12 ys) {i : Nat} {e v w : Int} (hi : i < ys.length) (he : ys.getD i []=[.int .i64 e,.int .i64 v]) (hw : inLo e≤w∧w≤inHi e) : RdV 12 (setEl ys i 0 [.int .i64 e,.int .i64 w]) := by
  have e1 : setEl ys i 0 [.int .i64 e,.int .i64 w]=ys.set i [.int .i64 e,.int .i64 w] := by
    unfold setEl spl; rw [he]; rfl
  have e2 : ∀ j,j < ys.length→(ys.set i [.int .i64 e,.int .i64 w]).getD j []=if i=j then [.int .i64 e,.int .i64 w] else ys.getD j [] := fun j hj => by
    rw [List.getD_eq_getElem?_getD,List.getD_eq_getElem?_getD,List.getElem?_set]
    split
    · rfl
    · rfl
  have e3 : ∀ j,j < ys.length→rE ((ys.set i [.int .i64 e,.int .i64 w]).getD j [])=rE (ys.getD j []) := fun j hj => by
    rw [e2 j hj]
    split
    · next q => rw [← q,he]; rfl
    · rfl
  rw [e1]
  refine ⟨fun j hj => ?_,fun j k hjk hk => ?_,by rw [List.length_set]; exact h.flen⟩
  · rw [List.length_set] at hj
    rw [e2 j hj]
    split
    · next q =>
      obtain ⟨e',v',h1,h2,h3⟩ := h.frow i hi
      rw [he] at h1
      simp only [List.cons.injEq,AV.int.injEq,and_true,true_and] at h1
      rw [h1.1] at hw ⊢
      exact ⟨_,_,rfl,h2,hw⟩
    · exact h.frow j hj
  · rw [List.length_set] at hk
    rw [e3 j (by omega),e3 k hk]
    exact h.fasc j k hjk hk
def qitems_s : SpQ
  | [.ptr 0 0,.int .i64 n,.int .i64 near],[.cells [.sl 1 false xs,.int .i64 i]] => some (fun K => (SrcQ xs i∧(0≤near∧near≤52595999)∧0≤n∧n≤100)∧(∀ (os : List (List AV)) (j : Int),(ItmQ n os j)→K (.sl 10 false os) [.cells [.sl 1 false xs,.int .i64 j]]))
  | _,_ => none
set_option maxRecDepth 100000 in
def qitems_T (iL : Int→ByteArray) (inLo : Int→Int) (inHi : Int→Int) (inD : Int→Int) (inE : Int→Int) : Prop :=
  ∀ (gl : Glob) (xs : List (List AV)) (i n near:Int),SrcQ xs i∧((0:Int)≤near∧near≤(52595999:Int))∧(0:Int)≤n∧n≤(100:Int)→bif decide (rng .i64 (n + (1:Int))) then SrcQ xs i∧∀ (v j:Int),NumQ (n + (1:Int)) v j→(∃ x,ItmP n x∧((0:Nat)=0∧near=near∧(0:Nat)=List.length x.snd.snd∧v=x.fst∧True)∧((True∧xs=xs)∧j=x.snd.fst∧True)∧[]=x.snd.snd∧True)∧∀ (x : Int × Int × LLA),ItmP n x→bif decide ((0:Int) <
 x.fst) then (SrcQ xs x.snd.fst∧(0:Int)≤near∧near≤(52595999:Int))∧∀ (k:Int) (nm : ByteArray) (t f a b c:Int) (ys : List (List AV)) (j:Int),RepQ k nm t f a b c ys j→(SrcQ xs j∧(-60:Int)≤(300:Int)∧(-1000000000:Int)≤(-60:Int)∧(300:Int)≤(1000000000:Int))∧∀ (v j:Int),((-60:Int)≤v∧v≤(300:Int))∧(0:Int)≤j→bif decide (rng .i64 (near + v)) then (SrcQ xs j∧(-12:Int)≤(12:Int)∧(-1000000000:Int)
≤(-12:Int)∧(12:Int)≤(1000000000:Int))∧∀ (v_1 j:Int),((-12:Int)≤v_1∧v_1≤(12:Int))∧(0:Int)≤j→bif decide (rng .i64 ((10:Int) * v_1)) then bif decide (rng .i64 (near + (10:Int) * v_1)) then bif decide ((0:Int) < (↑(List.length x.snd.snd):Int)) then SrcQ xs j∧∀ (v_2 j:Int),NumQ (2:Int) v_2 j→bif decide (v_2=(0:Int)) then SrcQ xs j∧∀ (v_3 j:Int),NumQ (↑(List.length x.snd.snd):Int) v_3 j→bif
 decide ((0:Int)≤v_3∧v_3 < (↑(List.length x.snd.snd):Int)) then bif decide (List.length x.snd.snd=List.length x.snd.snd∧v_3.toNat < List.length x.snd.snd) then ∃ n_1 s n_2 n_3 n_4 n_5 n_6 xs_1,List.take [AV.int .i64 n_1,.str s,.int .i64 n_2,.int .i64 n_3,.int .i64 n_4,.int .i64 n_5,.int .i64 n_6,.sl (2:Nat) false xs_1].length (List.drop (0:Nat) (List.getD x.snd.snd v_3.toNat []))=[AV.int .i64
 n_1,.str s,.int .i64 n_2,.int .i64 n_3,.int .i64 n_4,.int .i64 n_5,.int .i64 n_6,.sl (2:Nat) false xs_1]∧bif decide ((0:Nat)=0∧(0:Nat) + xs_1.length≤(9223372036854775807:Nat)∧((0:Nat) + xs_1.length) * (16:Nat)≤(140737488355328:Nat)) then SrcQ xs j∧∀ (v_4 j:Int),NumQ (4:Int) v_4 j→bif decide (v_4=(0:Int)) then SrcQ xs j∧∀ (ys : List (List AV)) (j:Int),RdQ ys j→(SrcQ xs j∧((5:Nat)=5∧(1:Nat) ≤
 (5:Nat)∧(5:Nat)≤(1000:Nat))∧IntsB [[AV.int .i64 (0:Int)],[AV.int .i64 (0:Int)],[AV.int .i64 (0:Int)],[AV.int .i64 (1:Int)],[AV.int .i64 (2:Int)]])∧∀ (v_5 j:Int),PickQ [[AV.int .i64 (0:Int)],[AV.int .i64 (0:Int)],[AV.int .i64 (0:Int)],[AV.int .i64 (1:Int)],[AV.int .i64 (2:Int)]] (AV.int .i64 v_5) j→bif decide (List.length x.snd.snd=List.length x.snd.snd∧List.length x.snd.snd + [[AV.int .i64
 n_1,.str s,.int .i64 n_2,.int .i64 n_3,.int .i64 n_4,.int .i64 n_5,.int .i64 n_6,.sl (2:Nat) false ys,.int .i64 v_5,.int .i64 (max (0:Int) (min (52595999:Int) (near + v)))]].length≤(9223372036854775807:Nat)∧(List.length x.snd.snd + [[AV.int .i64 n_1,.str s,.int .i64 n_2,.int .i64 n_3,.int .i64 n_4,.int .i64 n_5,.int .i64 n_6,.sl (2:Nat) false ys,.int .i64 v_5,.int .i64 (max (0:Int) (min
 (52595999:Int) (near + v)))]].length) * (104:Nat)≤(140737488355328:Nat)) then bif decide (rng .i64 (x.fst - (1:Int))) then ∃ y,ItmP n y∧(itmI xs near n).m y < (itmI xs near n).m x∧((0:Nat)=0∧near=near∧(x.snd.snd ++ [[AV.int .i64 n_1,.str s,.int .i64 n_2,.int .i64 n_3,.int .i64 n_4,.int .i64 n_5,.int .i64 n_6,.sl (2:Nat) false ys,.int .i64 v_5,.int .i64 (max (0:Int) (min (52595999:Int) (near +
 v)))]]).length=List.length y.snd.snd∧x.fst - (1:Int)=y.fst∧True)∧((True∧xs=xs)∧j=y.snd.fst∧True)∧x.snd.snd ++ [[AV.int .i64 n_1,.str s,.int .i64 n_2,.int .i64 n_3,.int .i64 n_4,.int .i64 n_5,.int .i64 n_6,.sl (2:Nat) false ys,.int .i64 v_5,.int .i64 (max (0:Int) (min (52595999:Int) (near + v)))]]=y.snd.snd∧True else False else False else bif decide (v_4=(1:Int)) then bif decide ((0:Int) < (↑([] ++
 xs_1).length:Int)) then SrcQ xs j∧∀ (v_5 j:Int),NumQ (↑([] ++ xs_1).length:Int) v_5 j→bif decide ((0:Int)≤v_5∧v_5 < (↑([] ++ xs_1).length:Int)) then bif decide (([] ++ xs_1).length=([] ++ xs_1).length∧v_5.toNat < ([] ++ xs_1).length) then ∃ n_7,List.take [AV.int .i64 n_7].length (List.drop (0:Nat) (([] ++ xs_1).getD v_5.toNat []))=[AV.int .i64 n_7]∧(SrcQ xs j∧(1:Int)≤n_7∧n_7≤(11:Int))∧∀ (v_6
 j:Int),SomQ n_7 v_6 j→bif decide ((0:Int)≤v_5∧v_5 < (↑([] ++ xs_1).length:Int)) then bif decide (([] ++ xs_1).length=([] ++ xs_1).length∧v_5.toNat < ([] ++ xs_1).length) then (SrcQ xs j∧((5:Nat)=5∧(1:Nat)≤(5:Nat)∧(5:Nat)≤(1000:Nat))∧IntsB [[AV.int .i64 (0:Int)],[AV.int .i64 (0:Int)],[AV.int .i64 (0:Int)],[AV.int .i64 (1:Int)],[AV.int .i64 (2:Int)]])∧∀ (v_7 j:Int),PickQ [[AV.int .i64
 (0:Int)],[AV.int .i64 (0:Int)],[AV.int .i64 (0:Int)],[AV.int .i64 (1:Int)],[AV.int .i64 (2:Int)]] (AV.int .i64 v_7) j→bif decide (([] ++ xs_1).length=(setEl ([] ++ xs_1) v_5.toNat (0:Nat) [AV.int .i64 n_7,.int .i64 v_6]).length) then bif decide (List.length x.snd.snd=List.length x.snd.snd∧List.length x.snd.snd + [[AV.int .i64 n_1,.str s,.int .i64 n_2,.int .i64 n_3,.int .i64 n_4,.int .i64 n_5,.int
 .i64 n_6,.sl (2:Nat) false (setEl ([] ++ xs_1) v_5.toNat (0:Nat) [AV.int .i64 n_7,.int .i64 v_6]),.int .i64 v_7,.int .i64 (max (0:Int) (min (52595999:Int) (near + v)))]].length≤(9223372036854775807:Nat)∧(List.length x.snd.snd + [[AV.int .i64 n_1,.str s,.int .i64 n_2,.int .i64 n_3,.int .i64 n_4,.int .i64 n_5,.int .i64 n_6,.sl (2:Nat) false (setEl ([] ++ xs_1) v_5.toNat (0:Nat) [AV.int .i64
 n_7,.int .i64 v_6]),.int .i64 v_7,.int .i64 (max (0:Int) (min (52595999:Int) (near + v)))]].length) * (104:Nat)≤(140737488355328:Nat)) then bif decide (rng .i64 (x.fst - (1:Int))) then ∃ y,ItmP n y∧(itmI xs near n).m y < (itmI xs near n).m x∧((0:Nat)=0∧near=near∧(x.snd.snd ++ [[AV.int .i64 n_1,.str s,.int .i64 n_2,.int .i64 n_3,.int .i64 n_4,.int .i64 n_5,.int .i64 n_6,.sl (2:Nat) false (setEl
 ([] ++ xs_1) v_5.toNat (0:Nat) [AV.int .i64 n_7,.int .i64 v_6]),.int .i64 v_7,.int .i64 (max (0:Int) (min (52595999:Int) (near + v)))]]).length=List.length y.snd.snd∧x.fst - (1:Int)=y.fst∧True)∧((True∧xs=xs)∧j=y.snd.fst∧True)∧x.snd.snd ++ [[AV.int .i64 n_1,.str s,.int .i64 n_2,.int .i64 n_3,.int .i64 n_4,.int .i64 n_5,.int .i64 n_6,.sl (2:Nat) false (setEl ([] ++ xs_1) v_5.toNat (0:Nat) [AV.int
 .i64 n_7,.int .i64 v_6]),.int .i64 v_7,.int .i64 (max (0:Int) (min (52595999:Int) (near + v)))]]=y.snd.snd∧True else False else False else False else False else False else False else False else (SrcQ xs j∧((5:Nat)=5∧(1:Nat)≤(5:Nat)∧(5:Nat)≤(1000:Nat))∧IntsB [[AV.int .i64 (0:Int)],[AV.int .i64 (0:Int)],[AV.int .i64 (0:Int)],[AV.int .i64 (1:Int)],[AV.int .i64 (2:Int)]])∧∀ (v_5 j:Int),PickQ
 [[AV.int .i64 (0:Int)],[AV.int .i64 (0:Int)],[AV.int .i64 (0:Int)],[AV.int .i64 (1:Int)],[AV.int .i64 (2:Int)]] (AV.int .i64 v_5) j→bif decide (([] ++ xs_1).length=([] ++ xs_1).length) then bif decide (List.length x.snd.snd=List.length x.snd.snd∧List.length x.snd.snd + [[AV.int .i64 n_1,.str s,.int .i64 n_2,.int .i64 n_3,.int .i64 n_4,.int .i64 n_5,.int .i64 n_6,.sl (2:Nat) false ([] ++ xs_1),.int
 .i64 v_5,.int .i64 (max (0:Int) (min (52595999:Int) (near + v)))]].length≤(9223372036854775807:Nat)∧(List.length x.snd.snd + [[AV.int .i64 n_1,.str s,.int .i64 n_2,.int .i64 n_3,.int .i64 n_4,.int .i64 n_5,.int .i64 n_6,.sl (2:Nat) false ([] ++ xs_1),.int .i64 v_5,.int .i64 (max (0:Int) (min (52595999:Int) (near + v)))]].length) * (104:Nat)≤(140737488355328:Nat)) then bif decide (rng .i64
 (x.fst - (1:Int))) then ∃ y,ItmP n y∧(itmI xs near n).m y < (itmI xs near n).m x∧((0:Nat)=0∧near=near∧(x.snd.snd ++ [[AV.int .i64 n_1,.str s,.int .i64 n_2,.int .i64 n_3,.int .i64 n_4,.int .i64 n_5,.int .i64 n_6,.sl (2:Nat) false ([] ++ xs_1),.int .i64 v_5,.int .i64 (max (0:Int) (min (52595999:Int) (near + v)))]]).length=List.length y.snd.snd∧x.fst -
 (1:Int)=y.fst∧True)∧((True∧xs=xs)∧j=y.snd.fst∧True)∧x.snd.snd ++ [[AV.int .i64 n_1,.str s,.int .i64 n_2,.int .i64 n_3,.int .i64 n_4,.int .i64 n_5,.int .i64 n_6,.sl (2:Nat) false ([] ++ xs_1),.int .i64 v_5,.int .i64 (max (0:Int) (min (52595999:Int) (near + v)))]]=y.snd.snd∧True else False else False else False else bif decide (v_4=(2:Int)) then bif decide ¬n_1=(1:Int) then SrcQ xs j∧∀ (f a b c
 j:Int),PlaQ f a b c j→(SrcQ xs j∧((5:Nat)=5∧(1:Nat)≤(5:Nat)∧(5:Nat)≤(1000:Nat))∧IntsB [[AV.int .i64 (0:Int)],[AV.int .i64 (0:Int)],[AV.int .i64 (0:Int)],[AV.int .i64 (1:Int)],[AV.int .i64 (2:Int)]])∧∀ (v_5 j:Int),PickQ [[AV.int .i64 (0:Int)],[AV.int .i64 (0:Int)],[AV.int .i64 (0:Int)],[AV.int .i64 (1:Int)],[AV.int .i64 (2:Int)]] (AV.int .i64 v_5) j→bif decide (([] ++ xs_1).length=([] ++
 xs_1).length) then bif decide (List.length x.snd.snd=List.length x.snd.snd∧List.length x.snd.snd + [[AV.int .i64 n_1,.str s,.int .i64 n_2,.int .i64 f,.int .i64 a,.int .i64 b,.int .i64 c,.sl (2:Nat) false ([] ++ xs_1),.int .i64 v_5,.int .i64 (max (0:Int) (min (52595999:Int) (near + v)))]].length≤(9223372036854775807:Nat)∧(List.length x.snd.snd + [[AV.int .i64 n_1,.str s,.int .i64 n_2,.int .i64
 f,.int .i64 a,.int .i64 b,.int .i64 c,.sl (2:Nat) false ([] ++ xs_1),.int .i64 v_5,.int .i64 (max (0:Int) (min (52595999:Int) (near + v)))]].length) * (104:Nat)≤(140737488355328:Nat)) then bif decide (rng .i64 (x.fst - (1:Int))) then ∃ y,ItmP n y∧(itmI xs near n).m y < (itmI xs near n).m x∧((0:Nat)=0∧near=near∧(x.snd.snd ++ [[AV.int .i64 n_1,.str s,.int .i64 n_2,.int .i64 f,.int .i64 a,.int .i64
 b,.int .i64 c,.sl (2:Nat) false ([] ++ xs_1),.int .i64 v_5,.int .i64 (max (0:Int) (min (52595999:Int) (near + v)))]]).length=List.length y.snd.snd∧x.fst - (1:Int)=y.fst∧True)∧((True∧xs=xs)∧j=y.snd.fst∧True)∧x.snd.snd ++ [[AV.int .i64 n_1,.str s,.int .i64 n_2,.int .i64 f,.int .i64 a,.int .i64 b,.int .i64 c,.sl (2:Nat) false ([] ++ xs_1),.int .i64 v_5,.int .i64 (max (0:Int) (min (52595999:Int) (near
 + v)))]]=y.snd.snd∧True else False else False else False else (SrcQ xs j∧((5:Nat)=5∧(1:Nat)≤(5:Nat)∧(5:Nat)≤(1000:Nat))∧IntsB [[AV.int .i64 (0:Int)],[AV.int .i64 (0:Int)],[AV.int .i64 (0:Int)],[AV.int .i64 (1:Int)],[AV.int .i64 (2:Int)]])∧∀ (v_5 j:Int),PickQ [[AV.int .i64 (0:Int)],[AV.int .i64 (0:Int)],[AV.int .i64 (0:Int)],[AV.int .i64 (1:Int)],[AV.int .i64 (2:Int)]] (AV.int .i64 v_5) j→bif
 decide (([] ++ xs_1).length=([] ++ xs_1).length) then bif decide (List.length x.snd.snd=List.length x.snd.snd∧List.length x.snd.snd + [[AV.int .i64 n_1,.str s,.int .i64 n_2,.int .i64 n_3,.int .i64 n_4,.int .i64 n_5,.int .i64 n_6,.sl (2:Nat) false ([] ++ xs_1),.int .i64 v_5,.int .i64 (max (0:Int) (min (52595999:Int) (near + v)))]].length≤(9223372036854775807:Nat)∧(List.length x.snd.snd + [[AV.int
 .i64 n_1,.str s,.int .i64 n_2,.int .i64 n_3,.int .i64 n_4,.int .i64 n_5,.int .i64 n_6,.sl (2:Nat) false ([] ++ xs_1),.int .i64 v_5,.int .i64 (max (0:Int) (min (52595999:Int) (near + v)))]].length) * (104:Nat)≤(140737488355328:Nat)) then bif decide (rng .i64 (x.fst - (1:Int))) then ∃ y,ItmP n y∧(itmI xs near n).m y < (itmI xs near n).m x∧((0:Nat)=0∧near=near∧(x.snd.snd ++ [[AV.int .i64 n_1,.str
 s,.int .i64 n_2,.int .i64 n_3,.int .i64 n_4,.int .i64 n_5,.int .i64 n_6,.sl (2:Nat) false ([] ++ xs_1),.int .i64 v_5,.int .i64 (max (0:Int) (min (52595999:Int) (near + v)))]]).length=List.length y.snd.snd∧x.fst - (1:Int)=y.fst∧True)∧((True∧xs=xs)∧j=y.snd.fst∧True)∧x.snd.snd ++ [[AV.int .i64 n_1,.str s,.int .i64 n_2,.int .i64 n_3,.int .i64 n_4,.int .i64 n_5,.int .i64 n_6,.sl (2:Nat) false ([] ++
 xs_1),.int .i64 v_5,.int .i64 (max (0:Int) (min (52595999:Int) (near + v)))]]=y.snd.snd∧True else False else False else False else (SrcQ xs j∧((5:Nat)=5∧(1:Nat)≤(5:Nat)∧(5:Nat)≤(1000:Nat))∧IntsB [[AV.int .i64 (0:Int)],[AV.int .i64 (0:Int)],[AV.int .i64 (0:Int)],[AV.int .i64 (1:Int)],[AV.int .i64 (2:Int)]])∧∀ (v_5 j:Int),PickQ [[AV.int .i64 (0:Int)],[AV.int .i64 (0:Int)],[AV.int .i64
 (0:Int)],[AV.int .i64 (1:Int)],[AV.int .i64 (2:Int)]] (AV.int .i64 v_5) j→bif decide (([] ++ xs_1).length=([] ++ xs_1).length) then bif decide (List.length x.snd.snd=List.length x.snd.snd∧List.length x.snd.snd + [[AV.int .i64 n_1,.str s,.int .i64 n_2,.int .i64 n_3,.int .i64 n_4,.int .i64 n_5,.int .i64 n_6,.sl (2:Nat) false ([] ++ xs_1),.int .i64 v_5,.int .i64 (max (0:Int) (min (52595999:Int) (near
 + v)))]].length≤(9223372036854775807:Nat)∧(List.length x.snd.snd + [[AV.int .i64 n_1,.str s,.int .i64 n_2,.int .i64 n_3,.int .i64 n_4,.int .i64 n_5,.int .i64 n_6,.sl (2:Nat) false ([] ++ xs_1),.int .i64 v_5,.int .i64 (max (0:Int) (min (52595999:Int) (near + v)))]].length) * (104:Nat)≤(140737488355328:Nat)) then bif decide (rng .i64 (x.fst - (1:Int))) then ∃ y,ItmP n y∧(itmI xs near n).m y <
 (itmI xs near n).m x∧((0:Nat)=0∧near=near∧(x.snd.snd ++ [[AV.int .i64 n_1,.str s,.int .i64 n_2,.int .i64 n_3,.int .i64 n_4,.int .i64 n_5,.int .i64 n_6,.sl (2:Nat) false ([] ++ xs_1),.int .i64 v_5,.int .i64 (max (0:Int) (min (52595999:Int) (near + v)))]]).length=List.length y.snd.snd∧x.fst - (1:Int)=y.fst∧True)∧((True∧xs=xs)∧j=y.snd.fst∧True)∧x.snd.snd ++ [[AV.int .i64 n_1,.str s,.int .i64 n_2,.int
 .i64 n_3,.int .i64 n_4,.int .i64 n_5,.int .i64 n_6,.sl (2:Nat) false ([] ++ xs_1),.int .i64 v_5,.int .i64 (max (0:Int) (min (52595999:Int) (near + v)))]]=y.snd.snd∧True else False else False else False else False else False else False else (SrcQ xs j∧((5:Nat)=5∧(1:Nat)≤(5:Nat)∧(5:Nat)≤(1000:Nat))∧IntsB [[AV.int .i64 (0:Int)],[AV.int .i64 (0:Int)],[AV.int .i64 (0:Int)],[AV.int .i64
 (1:Int)],[AV.int .i64 (2:Int)]])∧∀ (v_3 j:Int),PickQ [[AV.int .i64 (0:Int)],[AV.int .i64 (0:Int)],[AV.int .i64 (0:Int)],[AV.int .i64 (1:Int)],[AV.int .i64 (2:Int)]] (AV.int .i64 v_3) j→bif decide (List.length x.snd.snd=List.length x.snd.snd∧List.length x.snd.snd + [[AV.int .i64 k,.str nm,.int .i64 (max (0:Int) (min (52595999:Int) (near + (10:Int) * v_1))),.int .i64 f,.int .i64 a,.int .i64 b,.int
 .i64 c,.sl (2:Nat) false ys,.int .i64 v_3,.int .i64 (max (0:Int) (min (52595999:Int) (near + v)))]].length≤(9223372036854775807:Nat)∧(List.length x.snd.snd + [[AV.int .i64 k,.str nm,.int .i64 (max (0:Int) (min (52595999:Int) (near + (10:Int) * v_1))),.int .i64 f,.int .i64 a,.int .i64 b,.int .i64 c,.sl (2:Nat) false ys,.int .i64 v_3,.int .i64 (max (0:Int) (min (52595999:Int) (near + v)))]].length)
 * (104:Nat)≤(140737488355328:Nat)) then bif decide (rng .i64 (x.fst - (1:Int))) then ∃ y,ItmP n y∧(itmI xs near n).m y < (itmI xs near n).m x∧((0:Nat)=0∧near=near∧(x.snd.snd ++ [[AV.int .i64 k,.str nm,.int .i64 (max (0:Int) (min (52595999:Int) (near + (10:Int) * v_1))),.int .i64 f,.int .i64 a,.int .i64 b,.int .i64 c,.sl (2:Nat) false ys,.int .i64 v_3,.int .i64 (max (0:Int) (min (52595999:Int)
 (near + v)))]]).length=List.length y.snd.snd∧x.fst - (1:Int)=y.fst∧True)∧((True∧xs=xs)∧j=y.snd.fst∧True)∧x.snd.snd ++ [[AV.int .i64 k,.str nm,.int .i64 (max (0:Int) (min (52595999:Int) (near + (10:Int) * v_1))),.int .i64 f,.int .i64 a,.int .i64 b,.int .i64 c,.sl (2:Nat) false ys,.int .i64 v_3,.int .i64 (max (0:Int) (min (52595999:Int) (near + v)))]]=y.snd.snd∧True else False else False else (SrcQ
 xs j∧((5:Nat)=5∧(1:Nat)≤(5:Nat)∧(5:Nat)≤(1000:Nat))∧IntsB [[AV.int .i64 (0:Int)],[AV.int .i64 (0:Int)],[AV.int .i64 (0:Int)],[AV.int .i64 (1:Int)],[AV.int .i64 (2:Int)]])∧∀ (v_2 j:Int),PickQ [[AV.int .i64 (0:Int)],[AV.int .i64 (0:Int)],[AV.int .i64 (0:Int)],[AV.int .i64 (1:Int)],[AV.int .i64 (2:Int)]] (AV.int .i64 v_2) j→bif decide (List.length x.snd.snd=List.length x.snd.snd∧List.length
 x.snd.snd + [[AV.int .i64 k,.str nm,.int .i64 (max (0:Int) (min (52595999:Int) (near + (10:Int) * v_1))),.int .i64 f,.int .i64 a,.int .i64 b,.int .i64 c,.sl (2:Nat) false ys,.int .i64 v_2,.int .i64 (max (0:Int) (min (52595999:Int) (near + v)))]].length≤(9223372036854775807:Nat)∧(List.length x.snd.snd + [[AV.int .i64 k,.str nm,.int .i64 (max (0:Int) (min (52595999:Int) (near + (10:Int) *
 v_1))),.int .i64 f,.int .i64 a,.int .i64 b,.int .i64 c,.sl (2:Nat) false ys,.int .i64 v_2,.int .i64 (max (0:Int) (min (52595999:Int) (near + v)))]].length) * (104:Nat)≤(140737488355328:Nat)) then bif decide (rng .i64 (x.fst - (1:Int))) then ∃ y,ItmP n y∧(itmI xs near n).m y < (itmI xs near n).m x∧((0:Nat)=0∧near=near∧(x.snd.snd ++ [[AV.int .i64 k,.str nm,.int .i64 (max (0:Int) (min (52595999:Int)
 (near + (10:Int) * v_1))),.int .i64 f,.int .i64 a,.int .i64 b,.int .i64 c,.sl (2:Nat) false ys,.int .i64 v_2,.int .i64 (max (0:Int) (min (52595999:Int) (near + v)))]]).length=List.length y.snd.snd∧x.fst - (1:Int)=y.fst∧True)∧((True∧xs=xs)∧j=y.snd.fst∧True)∧x.snd.snd ++ [[AV.int .i64 k,.str nm,.int .i64 (max (0:Int) (min (52595999:Int) (near + (10:Int) * v_1))),.int .i64 f,.int .i64 a,.int .i64
 b,.int .i64 c,.sl (2:Nat) false ys,.int .i64 v_2,.int .i64 (max (0:Int) (min (52595999:Int) (near + v)))]]=y.snd.snd∧True else False else False else False else False else False else bif decide (List.length x.snd.snd=List.length x.snd.snd) then ∃ os j,ItmQ n os j∧(True∧x.snd.snd=os)∧((True∧xs=xs)∧x.snd.fst=j∧True)∧True else False else False
set_option maxRecDepth 100000 in
theorem qitems_P : qitems_T iL inLo inHi inD inE := by
  unfold qitems_T
  intro gl xs i n near ⟨hs,hr,hn⟩
  have s := hs.s
  have i5 : IntsB [[.int .i64 0],[.int .i64 0],[.int .i64 0],[.int .i64 1],[.int .i64 2]] := ints_of [0,0,0,1,2] fun n hn => by
    simp only [List.mem_cons,List.not_mem_nil,or_false] at hn
    show _∧_
    omega
  refine cdI (by omega) ⟨hs,fun v j q => ⟨⟨(v,j,[]),⟨by have := q.fv (by omega); simp; omega,q.fj,by simp,by simp; omega⟩,⟨rfl,rfl,rfl,rfl,trivial⟩,⟨⟨trivial,rfl⟩,rfl,trivial⟩,rfl,trivial⟩,?_⟩⟩
  rintro ⟨i,q,os⟩ ⟨fi,fj,fr,fn⟩
  simp only at fi fj fr fn
  dsimp only
  have fin : ∀ (r : List AV) (j : Int),ItV r→0≤j→0 < i→cond (decide (os.length=os.length∧os.length + [r].length≤9223372036854775807∧(os.length + [r].length) * 104≤140737488355328)) (cond (decide (rng .i64 (i - 1))) (∃ y : Int × Int × LLA,ItmP n y∧(itmI xs near n).m y < (itmI xs near n).m (i,q,os)∧((0 : Nat)=0∧near=near∧(os ++ [r]).length=y.2.2.length∧i - 1=y.1∧True)∧((True∧xs=xs)∧j=y.2.1∧True)∧os ++ [r]=y.2.2∧True) False) False := fun r j hv hj hi =>
    cd1 ⟨rfl,by simp only [List.length_singleton]; omega,by simp only [List.length_singleton]; omega⟩ (cdI (by omega) ⟨(i - 1,j,os ++ [r]),⟨by simp only [List.length_append,List.length_singleton]; omega,hj,fun x hx => by
      rcases List.mem_append.1 hx with h | h
      · exact fr x h
      · rw [List.mem_singleton.1 h]; exact hv,by simp only [List.length_append,List.length_singleton]; omega⟩,by simp only [itmI]; omega,⟨rfl,rfl,rfl,rfl,trivial⟩,⟨⟨trivial,rfl⟩,rfl,trivial⟩,rfl,trivial⟩)
  have pk : ∀ {k : Int} {nm : ByteArray} {t f a b c : Int} {ys : LLA} {v w j : Int},RepQ k nm t f a b c ys 0→PickQ [[.int .i64 0],[.int .i64 0],[.int .i64 0],[.int .i64 1],[.int .i64 2]] (.int .i64 v) j→ItV (itA k nm t f a b c ys v (max 0 (min 52595999 w))) := fun h q => by
    have := pick_of [0,0,0,1,2] q
    simp only [List.mem_cons,List.not_mem_nil,or_false] at this
    exact ⟨_,_,_,_,_,_,_,_,_,_,rfl,h,by omega,by omega,by omega⟩
  refine csx (fun hi => ?_) (fun hi => cd1 rfl ⟨os,q,⟨fr,fn,fj⟩,⟨trivial,rfl⟩,sT⟩)
  refine ⟨⟨⟨s,fj⟩,hr⟩,fun k nm t f a b c ys j q1 => ⟨⟨⟨s,q1.fj⟩,by decide,by decide,by decide⟩,fun w j q2 => cdI (by omega) ⟨⟨⟨s,q2.2⟩,by decide,by decide,by decide⟩,fun w2 j q3 => cdI (by omega) (cdI (by omega) ?_)⟩⟩⟩
  have hq : RepQ k nm (max 0 (min 52595999 (near + 10 * w2))) f a b c ys 0 := ⟨q1.fk,q1.fn,by omega,q1.fl,q1.fp,q1.fr,by decide⟩
  refine csx (fun h0 => ⟨⟨s,q3.2⟩,fun v2 j q4 => csx (fun h1 => ⟨⟨s,q4.fj⟩,fun v3 j q5 => ?_⟩) (fun _ => ⟨⟨⟨s,q4.fj⟩,⟨rfl,by decide,by decide⟩,i5⟩,fun v j p => fin _ j (pk hq p) p.fj hi⟩)⟩) (fun _ => ⟨⟨⟨s,q3.2⟩,⟨rfl,by decide,by decide⟩,i5⟩,fun v j p => fin _ j (pk hq p) p.fj hi⟩)
  have h5 := q5.fv (by omega)
  have hm : os.getD v3.toNat [] ∈ os := by rw [getD_lt (by omega)]; exact List.getElem_mem _
  obtain ⟨k2,nm2,t2,f2,a2,b2,c2,ys2,co2,ar2,e,r2,_,_⟩ := (fr _ hm).fr
  have hy := r2.fr.flen
  refine cd1 (by omega) (cd1 ⟨rfl,by omega⟩ ⟨k2,nm2,t2,f2,a2,b2,c2,ys2,by rw [e]; rfl,cd1 ⟨rfl,by omega,by omega⟩ ⟨⟨s,q5.fj⟩,fun v4 j q6 => ?_⟩⟩)
  refine csx (fun _ => ⟨⟨s,q6.fj⟩,fun ys j q7 => ⟨⟨⟨s,q7.fj⟩,⟨rfl,by decide,by decide⟩,i5⟩,fun v j p => fin _ j (pk ⟨r2.fk,r2.fn,r2.ft,r2.fl,r2.fp,q7.fr,by decide⟩ p) p.fj hi⟩⟩) (fun _ => csx (fun _ => csx (fun h2 => ⟨⟨s,q6.fj⟩,fun v5 j q7 => ?_⟩) (fun _ => ⟨⟨⟨s,q6.fj⟩,⟨rfl,by decide,by decide⟩,i5⟩,fun v j p => cd1 rfl (fin _ j (pk r2 p) p.fj hi)⟩)) (fun _ => csx (fun _ => csx (fun h3 => ⟨⟨s,q6.fj⟩,fun f a b c j q7 => ⟨⟨⟨s,q7.fj⟩,⟨rfl,by decide,by decide⟩,i5⟩,fun v j p => cd1 rfl (fin _ j (pk ⟨r2.fk,r2.fn,r2.ft,fun e => absurd e h3,fun _ => ⟨q7.fv,q7.fn⟩,r2.fr,by decide⟩ p) p.fj hi)⟩⟩) (fun _ => ⟨⟨⟨s,q6.fj⟩,⟨rfl,by decide,by decide⟩,i5⟩,fun v j p => cd1 rfl (fin _ j (pk r2 p) p.fj hi)⟩)) (fun _ => ⟨⟨⟨s,q6.fj⟩,⟨rfl,by decide,by decide⟩,i5⟩,fun v j p => cd1 rfl (fin _ j (pk r2 p) p.fj hi)⟩)))
  rw [List.nil_append] at *
  have h7 := q7.fv (by omega)
  obtain ⟨e7,w7,g1,g2,g3⟩ := r2.fr.frow v5.toNat (by omega)
  refine cd1 (by omega) (cd1 ⟨rfl,by omega⟩ ⟨e7,by rw [g1]; rfl,⟨⟨s,q7.fj⟩,g2.1,by omega⟩,fun w8 j q8 => cd1 (by omega) (cd1 ⟨rfl,by omega⟩ ⟨⟨⟨s,q8.fj⟩,⟨rfl,by decide,by decide⟩,i5⟩,fun v j p => cd1 (by simp [setEl]) (fin _ j (pk ⟨r2.fk,r2.fn,r2.ft,r2.fl,r2.fp,rdV_set r2.fr (by omega) g1 q8.fv,by decide⟩ p) p.fj hi)⟩)⟩)
def qitems_S (iL : Int→ByteArray) (inLo : Int→Int) (inHi : Int→Int) (inD : Int→Int) (inE : Int→Int) : Prop := ∀ (gl : Glob) (xs : List (List AV)) (i n near : Int),SrcQ xs i∧(0≤near∧near≤52595999)∧0≤n∧n≤100→fnQ Tryd.prog { glob := gl,spec := lk [],specH := lk [],specQ := lk [(13,qn_s),(15,qreport_s),(16,qrange_s),(34,qlist_s),(35,(qsome_s iL inLo inHi inD inE)),(36,qplace_s),(32,qpick_s)],shape := [54,95],slz := [(54,[2])],nowf := true } { nt := 116,drop := drp [(2,61440),(3,65536),(4,786432),(5,1072693248),(6,548682072064),(7,69818988363776),(8,35888059530608640),(9,108086391056891904),(10,9079256848778919936),(11,9223372036854775808),(12,73786976294838206464),(13,2213609288845146193920),(14,4722366482869645213696),(15,141670994486089356410880),(16,19040581658930409501622272),(17,316893307243943516307380502528),(18,633825300114114700748351602688),(19,3802951800684688204490109616128),(20,152118072027387528179604384645120),(21,2433889152438200450873670154321920),(22,38942226439011207213978722469150720),(23,41538374868278621028243970633760768)],fr := 1000,kp := [0],frz := fun id => cond (Nat.beq id 21) [1001057] [],emp := fun id => cond (Nat.beq id 2) [(7,1701,50,10)] [] } (invs [(3,itmI xs near n)]) 6 Tryd.f11 [.ptr 0 0,.int .i64 n,.int .i64 near] [.cells [.sl 1 false xs,.int .i64 i]] (fun r2 bs2 => ∃ (os : List (List AV)) (j : Int),(ItmQ n os j)∧le r2 (.sl 10 false os)∧leBs bs2 [.cells [.sl 1 false xs,.int .i64 j]])
set_option maxRecDepth 100000 in
theorem qitems_e (iL : Int→ByteArray) (inLo : Int→Int) (inHi : Int→Int) (inD : Int→Int) (inE : Int→Int) : qitems_T iL inLo inHi inD inE=qitems_S iL inLo inHi inD inE := by kernel_rfl
theorem qitems_v : qitems_S iL inLo inHi inD inE := @Eq.mp (qitems_T iL inLo inHi inD inE) (qitems_S iL inLo inHi inD inE) (qitems_e iL inLo inHi inD inE) (qitems_P)
theorem qitems_ok (gl : Glob) : QOK Tryd.prog gl 11 qitems_s := by
  refine ⟨fok Tryd.func11 (by kernel_rfl) (by kernel_rfl),?_⟩
  intro xs bs T h K hT
  unfold qitems_s at h
  split at h
  · simp only [Option.some.injEq] at h
    subst h
    obtain ⟨hp,hK⟩ := hT
    obtain ⟨r,bs2,⟨o0,o1,hq,hl,hb⟩,hC⟩ := fnQ_sound tyNil (by exact specOK rfl rfl trivial trivial (d := qsOf rfl ⟨(qn_ok gl),(qreport_ok gl),(qrange_ok gl),(qlist_ok gl),(qsome_ok gl),(qplace_ok gl),(qpick_ok gl),trivial⟩)) (by kernel_rfl) Tryd.func11 (qitems_v gl _ _ _ _ hp)
    exact ⟨_,_,hK o0 o1 hq,hC.le hl hb⟩
  · cases h
end Go.Proofs.YtgnnafneglannaaDoor
namespace Go.Proofs.YtgnnafneglannaaDoor
open Go
set_option linter.unusedVariables false
set_option linter.unusedSimpArgs false
structure RpsQ (n : Int) (os : LLA) (j : Int) : Prop where
  fr : ∀ r ∈ os,RpG r
  fl : os.length≤n
  fj : 0≤j
structure RpsP (n : Int) (x : Int × Int × LLA) : Prop where
  fi : x.1 + x.2.2.length≤n
  fj : 0≤x.2.1
  fr : ∀ r ∈ x.2.2,RpG r
  fn : x.2.2.length≤n
theorem rdv_rds {ys : LLA} (h : RdV 12 ys) : RdsP ys := ⟨fun i hi => by
  obtain ⟨e,v,h1,h2,h3⟩ := h.frow i hi
  have := in_bd (c := e) (by omega)
  exact ⟨e,v,h1,by show _∧_; omega,by show _∧_; omega⟩,by have := h.flen; omega⟩
structure BntQ (ys : LLA) (j : Int) : Prop where
  fr : RdsP ys
  fl : ys.length≤1000
  fj : 0≤j
structure BntP (ys : LLA) (c : Int) : Prop where
  fr : RdsP ys
  fl : ys.length≤900
  fc : 0≤c∧c≤1000
end Go.Proofs.YtgnnafneglannaaDoor
namespace Go.Proofs.YtgnnafneglannaaDoor
open Go
set_option linter.unusedVariables false
set_option linter.unusedSimpArgs false
def cvs (P : LLA) (c : Int) : List Int := (P.filter fun r => decide (rE r=c)).map rV
def alq : List Int→Bool
  | [] => true
  | v :: l => l.all fun u => decide (u=v)
theorem alq_last : ∀ {l : List Int} {v : Int},alq (v :: l)=true→(v :: l).getLast?=some v
  | [],v,_ => rfl
  | a :: l,v,h => by
    simp only [alq,List.all_cons,Bool.and_eq_true,decide_eq_true_eq] at h
    obtain ⟨rfl,h⟩ := h
    rw [List.getLast?_cons_cons]
    exact alq_last (l := l) (v := a) h
theorem alq_snoc (l : List Int) (v : Int) : alq (l ++ [v])=(alq l && (match l.getLast? with | none => true | some u => decide (u=v))) := by
  cases l with
  | nil => rfl
  | cons a l =>
    cases h : alq (a :: l) with
    | true =>
      rw [alq_last h]
      simp only [alq] at h
      simp only [List.cons_append,alq,List.all_append,h,List.all_cons,List.all_nil,Bool.and_true,Bool.true_and]
      exact decide_eq_decide.2 eq_comm
    | false =>
      simp only [alq] at h
      simp only [List.cons_append,alq,List.all_append,h,Bool.false_and]
def bdP (P : LLA) (c : Int) : Bool := !(alq (cvs P c))
theorem cvs_snoc (P : LLA) (r : List AV) (c : Int) : cvs (P ++ [r]) c=cvs P c ++ (if rE r=c then [rV r] else []) := by
  unfold cvs
  rw [List.filter_append,List.map_append]
  by_cases h : rE r=c
  · simp [h]
  · simp [h]
def vmP (P : LLA) : List (Int × AV) := P.foldl (fun m r => mPut m (rE r) (.int .i64 (rV r))) []
theorem vmP_snoc (P : LLA) (r : List AV) : vmP (P ++ [r])=mPut (vmP P) (rE r) (.int .i64 (rV r)) := by
  unfold vmP; rw [List.foldl_append]; rfl
theorem vm_get (c : Int) : ∀ P : LLA,mGet (vmP P) c=((cvs P c).getLast?).map (AV.int .i64) :=
  snoc_ind (by simp [vmP,mGet,cvs]) fun P r ih => by
    rw [vmP_snoc,cvs_snoc,mGet_put]
    by_cases h : rE r=c
    · rw [if_pos h,if_pos h]; simp
    · rw [if_neg h,if_neg h,List.append_nil]; exact ih
theorem vm_has (P : LLA) (c : Int) : mHas (vmP P) c=decide (cvs P c≠[]) := by
  unfold mHas
  rw [vm_get]
  cases h : cvs P c with
  | nil => simp
  | cons a l => simp
def lasI (l : List Int) : Int := l.getLast?.getD 0
theorem vm_int (P : LLA) (c : Int) : mInt (vmP P) c=lasI (cvs P c) := by
  unfold mInt lasI
  rw [vm_get]
  cases h : (cvs P c).getLast? with
  | none => rfl
  | some v => rfl
theorem bdP_same (P : LLA) (e v : Int) : bdP (P ++ [[.int .i64 e,.int .i64 v]]) e=(bdP P e || (mHas (vmP P) e && decide (¬ mInt (vmP P) e=v))) := by
  unfold bdP
  rw [cvs_snoc,if_pos (show rE [.int .i64 e,.int .i64 v]=e from rfl),vm_has,vm_int]
  have : rV [.int .i64 e,.int .i64 v]=v := rfl
  rw [this,alq_snoc]
  unfold lasI
  cases h : cvs P e with
  | nil => simp
  | cons a l =>
    have hl : (a :: l).getLast?=some ((a :: l).getLast (by simp)) := List.getLast?_eq_some_getLast (by simp)
    rw [hl]
    cases alq (a :: l) <;> simp
theorem bdP_ne (P : LLA) (e v c : Int) (h : ¬ e=c) : bdP (P ++ [[.int .i64 e,.int .i64 v]]) c=bdP P c := by
  unfold bdP
  rw [cvs_snoc,if_neg (show ¬ rE [.int .i64 e,.int .i64 v]=c from h),List.append_nil]
def rdsF (G : LLA) : LLA := (G.map itRd).flatten
def plF (G : LLA) (p : List Int) : Bool := G.any fun x => decide (¬ itPl x=p)
theorem plF_snoc (G : LLA) (x : List AV) (p : List Int) : plF (G ++ [x]) p=(plF G p || decide (¬ itPl x=p)) := by
  unfold plF; rw [List.any_append]; simp
theorem rdsF_snoc (G : LLA) (x : List AV) : rdsF (G ++ [x])=rdsF G ++ itRd x := by
  unfold rdsF; rw [List.map_append,List.flatten_append]; simp
theorem take_snoc {G : LLA} {i : Nat} (h : i < G.length) : G.take (i + 1)=G.take i ++ [G.getD i []] := by
  rw [getD_lt h]; exact (List.take_append_getElem h).symm
def badC (G : LLA) (c : Nat) : Bool := if c=0 then plF G (itPl (G.headD [])) else bdP (rdsF G) c
def ctN (G : LLA) : Nat→LLA
  | 0 => []
  | n + 1 => ctN G n ++ (if badC G n then [[.int .i64 (n : Int)]] else [])
def rdN (G : LLA) : Nat→LLA
  | 0 => []
  | n + 1 => rdN G n ++ (if badC G n then [] else if cvs (rdsF G) n=[] then [] else [[.int .i64 (n : Int),.int .i64 (lasI (cvs (rdsF G) n))]])
theorem ctN_len (G : LLA) : ∀ n,(ctN G n).length≤n
  | 0 => by simp [ctN]
  | n + 1 => by
    have := ctN_len G n
    simp only [ctN]
    split <;> simp <;> omega
theorem rdN_len (G : LLA) : ∀ n,(rdN G n).length≤n
  | 0 => by simp [rdN]
  | n + 1 => by
    have := rdN_len G n
    simp only [rdN]
    split
    · simp; omega
    · split <;> simp <;> omega
structure RdE (rd : LLA) : Prop where
  fr : ∀ i,i < rd.length→∃ e v : Int,rd.getD i []=[.int .i64 e,.int .i64 v]∧(1≤e∧e≤11)∧rng .i64 v
  fl : rd.length≤1000
structure MgP (G : LLA) : Prop where
  fr : ∀ i,i < G.length→∃ (k : Int) (nm : ByteArray) (t f a b c : Int) (rd : LLA) (co ar : Int),G.getD i []=itA k nm t f a b c rd co ar∧RdE rd
  fl : G.length≤900
  f0 : 0 < G.length
end Go.Proofs.YtgnnafneglannaaDoor
namespace Go.Proofs.YtgnnafneglannaaDoor
open Go
set_option linter.unusedVariables false
set_option linter.unusedSimpArgs false
set_option maxHeartbeats 4000000
def agC (p : Bool) (P : LLA) : List AV := [.bool p,.bool (bdP P 1),.bool (bdP P 2),.bool (bdP P 3),.bool (bdP P 4),.bool (bdP P 5),.bool (bdP P 6),.bool (bdP P 7),.bool (bdP P 8),.bool (bdP P 9),.bool (bdP P 10),.bool (bdP P 11)]
def mgZ : List AV := [.int .i64 0,.str ⟨#[]⟩,.int .i64 0,.int .i64 0,.int .i64 0,.int .i64 0,.int .i64 0,.nils,.int .i64 0,.nils]
def mgH (k t f0 a b c : Int) (nm : ByteArray) (rd0 : LLA) (n : Nat) (p : Bool) (P : LLA) : List (Nat × Blk) := [(2,.cells mgZ),(3,.cells [.int .i64 k,.str nm,.int .i64 t,.int .i64 f0,.int .i64 a,.int .i64 b,.int .i64 c,.sl 2 false rd0]),(4,.cells [.int .i64 k,.str nm,.int .i64 t,.int .i64 f0,.int .i64 a,.int .i64 b,.int .i64 c,.nils,.int .i64 n,.nils]),(6,.cells (agC p P)),(33,.mp 3 3 (vmP P))]
def mgT (G : LLA) (f : Bool) (i : Int) : List (Nat × AV) := [(2,.ptr 2 0),(3,.ptr 3 0),(4,.ptr 4 0),(5,.mpv 33),(6,.ptr 6 0),(34,.sl 10 f G),(35,.int .i64 G.length),(36,.int .i64 i)]
structure Mg1 (G : LLA) (i : Int) : Prop where
  flo : 0≤i
  fhi : i≤G.length
def mg6 (G : LLA) (f : Bool) (k t f0 a b c : Int) (nm : ByteArray) (rd0 : LLA) : LInv := ⟨Int,fun i => ⟨mgT G f i,mgH k t f0 a b c nm rd0 G.length (plF (G.take i.toNat) [f0,a,b,c]) (rdsF (G.take i.toNat))⟩,Mg1 G,fun i => (G.length - i).toNat,none⟩
structure OneM (x : Unit) : Prop where
  ft : True
def mg9 (G : LLA) (f : Bool) (k t f0 a b c : Int) (nm : ByteArray) (rd0 : LLA) (i : Int) (cs : List AV) : LInv := ⟨Unit,fun _ => ⟨(8,.ptr 8 0) :: mgT G f i,(8,.cells cs) :: mgH k t f0 a b c nm rd0 G.length (plF (G.take (i.toNat + 1)) [f0,a,b,c]) (rdsF (G.take i.toNat))⟩,OneM,fun _ => 0,none⟩
structure Mg2 (G rd : LLA) (i k : Int) : Prop where
  fi : 0≤i∧i < G.length
  fr : rd=itRd (G.getD i.toNat [])
  flo : 0≤k
  fhi : k≤rd.length
def mgP2 (G rd : LLA) (i k : Int) : LLA := rdsF (G.take i.toNat) ++ rd.take k.toNat
def mg10 (G rd : LLA) (f g : Bool) (k t f0 a b c : Int) (nm : ByteArray) (rd0 : LLA) (i : Int) : LInv := ⟨Int,fun q => ⟨(53,.sl 2 g rd) :: (54,.int .i64 rd.length) :: (55,.int .i64 q) :: mgT G f i,mgH k t f0 a b c nm rd0 G.length (plF (G.take (i.toNat + 1)) [f0,a,b,c]) (mgP2 G rd i q)⟩,Mg2 G rd i,fun q => (rd.length - q).toNat,none⟩
structure Mg3 (G rd : LLA) (i k v e : Int) : Prop where
  fm : Mg2 G rd i k
  fk : k < rd.length
  fe : rd.getD k.toNat []=[.int .i64 e,.int .i64 v]
  fb : 1≤e∧e≤11
def mg13 (G rd : LLA) (f g : Bool) (k t f0 a b c : Int) (nm : ByteArray) (rd0 : LLA) (i q v : Int) : LInv := ⟨Int,fun e => ⟨(10,.ptr 10 0) :: (11,.int .i64 (mInt (vmP (mgP2 G rd i q)) e)) :: (12,.bool (mHas (vmP (mgP2 G rd i q)) e)) :: (53,.sl 2 g rd) :: (54,.int .i64 rd.length) :: (55,.int .i64 q) :: mgT G f i,(10,.cells [.int .i64 e,.int .i64 v]) :: mgH k t f0 a b c nm rd0 G.length (plF (G.take (i.toNat + 1)) [f0,a,b,c]) (mgP2 G rd i q)⟩,Mg3 G rd i q v,fun _ => 0,some [1,2,3,4,5,6,7,8,9,10,11]⟩
structure Mg4 (G : LLA) (n : Int) : Prop where
  flo : 0≤n
  fhi : n≤12
def mgI (p : Bool) (n : Int) : Int := if p then 0 else n
def mgS (G : LLA) (k t f0 a b c : Int) (nm : ByteArray) (rd0 : LLA) (n : Int) : St := ⟨[(2,.ptr 2 0),(4,.ptr 4 0),(5,.mpv 33),(94,.agg (agC (plF G [f0,a,b,c]) (rdsF G))),(95,.int .i64 n)],[(2,.cells mgZ),(3,.cells [.int .i64 k,.str nm,.int .i64 t,.int .i64 f0,.int .i64 a,.int .i64 b,.int .i64 c,.sl 2 false rd0]),(4,.cells [.int .i64 k,.str nm,.int .i64 t,.int .i64 (mgI (plF G [f0,a,b,c]) f0),.int .i64 (mgI (plF G [f0,a,b,c]) a),.int .i64 (mgI (plF G [f0,a,b,c]) b),.int .i64 (mgI (plF G [f0,a,b,c]) c),.rw 501 2 (rdN G n.toNat).length,.int .i64 G.length,.rw 502 1 (ctN G n.toNat).length]),(33,.mp 3 3 (vmP (rdsF G))),(501,.row 64 2 (rdN G n.toNat)),(502,.row 3 1 (ctN G n.toNat))]⟩
def mg19 (G : LLA) (k t f0 a b c : Int) (nm : ByteArray) (rd0 : LLA) : LInv := ⟨Unit,fun _ => ⟨[(2,.ptr 2 0),(4,.ptr 4 0),(5,.mpv 33),(6,.ptr 6 0)],[(2,.cells mgZ),(3,.cells [.int .i64 k,.str nm,.int .i64 t,.int .i64 f0,.int .i64 a,.int .i64 b,.int .i64 c,.sl 2 false rd0]),(4,.cells [.int .i64 k,.str nm,.int .i64 t,.int .i64 (mgI (plF G [f0,a,b,c]) f0),.int .i64 (mgI (plF G [f0,a,b,c]) a),.int .i64 (mgI (plF G [f0,a,b,c]) b),.int .i64 (mgI (plF G [f0,a,b,c]) c),.nils,.int .i64 G.length,.nils]),(6,.cells (agC (plF G [f0,a,b,c]) (rdsF G))),(33,.mp 3 3 (vmP (rdsF G)))]⟩,OneM,fun _ => 0,none⟩
def mg20 (G : LLA) (k t f0 a b c : Int) (nm : ByteArray) (rd0 : LLA) : LInv := ⟨Int,mgS G k t f0 a b c nm rd0,Mg4 G,fun n => (12 - n).toNat,none⟩
structure Mg5 (n0 n : Int) : Prop where
  fe : n=n0
  flo : 0≤n
  fhi : n < 12
def mg21 (G : LLA) (k t f0 a b c : Int) (nm : ByteArray) (rd0 : LLA) (n0 : Int) : LInv := ⟨Int,mgS G k t f0 a b c nm rd0,Mg5 n0,fun n => 0,some [0,1,2,3,4,5,6,7,8,9,10,11]⟩
def mgJ (G : LLA) (f : Bool) (id : Nat) (st : St) : Option LInv := match lk st.heap 3,lk st.heap 4 with
  | some (.cells [.int _ k,.str nm,.int _ t,.int _ f0,.int _ a,.int _ b,.int _ c,.sl _ _ rd0]),_ =>
    cond (Nat.beq id 6) (some (mg6 G f k t f0 a b c nm rd0)) (cond (Nat.beq id 100009) (match lk st.tmps 36,lk st.heap 8 with
      | some (.int _ i),some (.cells cs) => some (mg9 G f k t f0 a b c nm rd0 i cs)
      | _,_ => none) (cond (Nat.beq id 100019) (some (mg19 G k t f0 a b c nm rd0)) (cond (Nat.beq id 10) (match lk st.tmps 36,lk st.tmps 53 with
      | some (.int _ i),some (.sl _ g rd) => some (mg10 G rd f g k t f0 a b c nm rd0 i)
      | _,_ => none) (cond (Nat.beq id 100013) (match lk st.tmps 36,lk st.tmps 53,lk st.tmps 55,lk st.heap 10 with
      | some (.int _ i),some (.sl _ g rd),some (.int _ q),some (.cells [_,.int _ v]) => some (mg13 G rd f g k t f0 a b c nm rd0 i q v)
      | _,_,_,_ => none) (cond (Nat.beq id 20) (some (mg20 G k t f0 a b c nm rd0)) (cond (Nat.beq id 100021) (match lk st.tmps 95 with
      | some (.int _ n) => some (mg21 G k t f0 a b c nm rd0 n)
      | _ => none) none))))))
  | _,_ => none
def itk (r : List AV) : Int := match r with
  | .int _ k :: _ => k
  | _ => 0
def itn (r : List AV) : ByteArray := match r with
  | _ :: .str n :: _ => n
  | _ => ⟨#[]⟩
def gK (G : LLA) : Int := itk (G.headD [])
def gN (G : LLA) : ByteArray := itn (G.headD [])
def gT (G : LLA) : Int := itTm (G.headD [])
def gQ (G : LLA) (j : Nat) : Int := mgI (plF G (itPl (G.headD []))) ((itPl (G.headD [])).getD j 0)
def gR (G : LLA) : LLA := rdN G 12
def gC (G : LLA) : LLA := ctN G 12
theorem mDel_le (l : List (Int × AV)) (n : Int) : (mDel l n).length≤l.length := by
  induction l with
  | nil => simp [mDel]
  | cons x l ih =>
    obtain ⟨k,y⟩ := x
    simp only [mDel]
    cases decide (k=n) <;> simp <;> omega
theorem vmP_len : ∀ P : LLA,(vmP P).length≤P.length :=
  snoc_ind (by simp [vmP]) fun P r ih => by
    rw [vmP_snoc,List.length_append]
    unfold mPut
    have := mDel_le (vmP P) (rE r)
    simp; omega
theorem rdsF_len {G : LLA} (h : MgP G) : ∀ i : Nat,i≤G.length→(rdsF (G.take i)).length≤i * 1000
  | 0,_ => by simp [rdsF]
  | i + 1,hi => by
    have ih := rdsF_len h i (by omega)
    rw [take_snoc (by omega),rdsF_snoc,List.length_append]
    obtain ⟨k,nm,t,f,a,b,c,rd,co,ar,h1,h2⟩ := h.fr i (by omega)
    rw [h1]
    have := h2.fl
    show (rdsF (G.take i)).length + rd.length≤_
    omega
theorem mgP2_len {G rd : LLA} {i q : Int} (h : MgP G) (m : Mg2 G rd i q) : (vmP (mgP2 G rd i q)).length≤140737488355327 := by
  have h1 := vmP_len (mgP2 G rd i q)
  have h2 := rdsF_len h i.toNat (by have := m.fi; omega)
  have h3 : (mgP2 G rd i q).length≤(rdsF (G.take i.toNat)).length + rd.length := by unfold mgP2; rw [List.length_append,List.length_take]; omega
  obtain ⟨k,nm,t,f,a,b,c,rd2,co,ar,e1,e2⟩ := h.fr i.toNat (by have := m.fi; omega)
  have h4 : rd=rd2 := by rw [m.fr,e1]; rfl
  have h5 := e2.fl
  have h6 := h.fl
  have h7 := m.fi
  subst h4
  have : i.toNat * 1000≤900 * 1000 := Nat.mul_le_mul_right _ (by omega)
  omega
theorem mgP2_snoc {G rd : LLA} {i q e v : Int} (h0 : 0≤q) (hq : q < rd.length) (he : rd.getD q.toNat []=[.int .i64 e,.int .i64 v]) : mgP2 G rd i (q + 1)=mgP2 G rd i q ++ [[.int .i64 e,.int .i64 v]] := by
  unfold mgP2
  rw [show (q + 1).toNat=q.toNat + 1 by omega,take_snoc (by omega),he,List.append_assoc]
theorem vm_sn (P : LLA) (e v : Int) : vmP (P ++ [[.int .i64 e,.int .i64 v]])=mPut (vmP P) e (.int .i64 v) := vmP_snoc P _
theorem ct_t {G : LLA} {n : Nat} (h : badC G n=true) : ctN G (n + 1)=ctN G n ++ [[.int .i64 (n : Int)]]∧rdN G (n + 1)=rdN G n := by
  simp only [ctN,rdN,h,if_true,List.append_nil]
  exact ⟨trivial,trivial⟩
theorem ct_f {G : LLA} {n : Nat} (h : badC G n=false) (hm : mHas (vmP (rdsF G)) n=false) : ctN G (n + 1)=ctN G n∧rdN G (n + 1)=rdN G n := by
  rw [vm_has] at hm
  have hm : cvs (rdsF G) n=[] := by simpa using hm
  simp only [ctN,rdN,h,hm]
  simp
theorem ct_h {G : LLA} {n : Nat} (h : badC G n=false) (hm : mHas (vmP (rdsF G)) n=true) : ctN G (n + 1)=ctN G n∧rdN G (n + 1)=rdN G n ++ [[.int .i64 (n : Int),.int .i64 (mInt (vmP (rdsF G)) n)]] := by
  rw [vm_has] at hm
  have hm : ¬ cvs (rdsF G) n=[] := by simpa using hm
  rw [vm_int]
  simp only [ctN,rdN,h,hm]
  simp
def mgd_s (gK : LLA→Int) (gN : LLA→ByteArray) (gT : LLA→Int) (gQ : LLA→Nat→Int) (gR : LLA→LLA) (gC : LLA→LLA) : Sp
  | [.sl 10 f G] => some (MgP G,.agg [.int .i64 (gK G),.str (gN G),.int .i64 (gT G),.int .i64 (gQ G 0),.int .i64 (gQ G 1),.int .i64 (gQ G 2),.int .i64 (gQ G 3),.sl 2 false (gR G),.int .i64 G.length,.sl 1 false (gC G)])
  | _ => none
abbrev B11 (P Q : LLA) : Prop := bdP P (1:Int)=bdP Q (1:Int)∧bdP P (2:Int)=bdP Q (2:Int)∧bdP P (3:Int)=bdP Q (3:Int)∧bdP P (4:Int)=bdP Q (4:Int)∧bdP P (5:Int)=bdP Q (5:Int)∧bdP P (6:Int)=bdP Q (6:Int)∧bdP P (7:Int)=bdP Q (7:Int)∧bdP P (8:Int)=bdP Q (8:Int)∧bdP P (9:Int)=bdP Q (9:Int)∧bdP P (10:Int)=bdP Q (10:Int)∧bdP P (11:Int)=bdP Q (11:Int)∧True
abbrev B11o (Q : LLA) : Prop := false=bdP Q (1:Int)∧false=bdP Q (2:Int)∧false=bdP Q (3:Int)∧false=bdP Q (4:Int)∧false=bdP Q (5:Int)∧false=bdP Q (6:Int)∧false=bdP Q (7:Int)∧false=bdP Q (8:Int)∧false=bdP Q (9:Int)∧false=bdP Q (10:Int)∧false=bdP Q (11:Int)∧True
abbrev ZZ : Prop := (0:Int)=0∧(⟨#[]⟩ : ByteArray)=(⟨#[]⟩ : ByteArray)∧(0:Int)=0∧(0:Int)=0∧(0:Int)=0∧(0:Int)=0∧(0:Int)=0∧True∧(0:Int)=0∧True∧True
abbrev H8 (n : Int) (s : ByteArray) (n_1 n_2 n_3 n_4 n_5 : Int) (xs : LLA) : Prop := n=n∧s=s∧n_1=n_1∧n_2=n_2∧n_3=n_3∧n_4=n_4∧n_5=n_5∧(True∧xs=xs)∧True
abbrev H9 (n : Int) (s : ByteArray) (n_1 n_2 n_3 n_4 n_5 : Int) (G : LLA) : Prop := n=n∧s=s∧n_1=n_1∧n_2=n_2∧n_3=n_3∧n_4=n_4∧n_5=n_5∧True∧(G.length:Int)=(G.length:Int)∧True∧True
set_option maxRecDepth 100000 in
def mgd_T (gK : LLA→Int) (gN : LLA→ByteArray) (gT : LLA→Int) (gQ : LLA→Nat→Int) (gR : LLA→LLA) (gC : LLA→LLA) : Prop :=
  ∀ (gl : Glob) (G : List (List AV)) (f : Bool),MgP G→True→bif decide ((0:Int)≤(0:Int)∧(0:Int) < (↑G.length:Int)) then ∃ n s n_1 n_2 n_3 n_4 n_5 xs,List.take [AV.int .i64 n,.str s,.int .i64 n_1,.int .i64 n_2,.int .i64 n_3,.int .i64 n_4,.int .i64 n_5,.sl (2:Nat) false xs].length (List.drop (0:Nat) (G.getD (0:Nat) []))=[AV.int .i64 n,.str s,.int .i64 n_1,.int .i64 n_2,.int .i64 n_3,.int .i64
 n_4,.int .i64 n_5,.sl (2:Nat) false xs]∧(∃ x,Mg1 G x∧((0:Nat)=0∧(0:Nat)=0∧(0:Nat)=0∧True∧(0:Nat)=0∧((bif f then f=true else True)∧G=G)∧(↑G.length:Int)=(↑G.length:Int)∧(0:Int)=x∧True)∧ZZ∧(H8 n s n_1 n_2 n_3 n_4 n_5 xs)∧(H9 n s n_1 n_2 n_3 n_4 n_5 G)∧(false=plF (List.take (Int.toNat x) G) [n_2,n_3,n_4,n_5]∧B11o (rdsF (List.take (Int.toNat x) G)))∧[]=vmP (rdsF (List.take (Int.toNat x) G))∧True)∧∀
 (x:Int),Mg1 G x→bif decide (x < (↑G.length:Int)) then bif decide ((0:Int)≤x∧x < (↑G.length:Int)) then ∃ n_6 s_1 n_7 n_8 n_9 n_10 n_11 xs_1 n_12 n_13,List.take [AV.int .i64 n_6,.str s_1,.int .i64 n_7,.int .i64 n_8,.int .i64 n_9,.int .i64 n_10,.int .i64 n_11,.sl (2:Nat) false xs_1,.int .i64 n_12,.int .i64 n_13].length (G.getD x.toNat [])=[AV.int .i64 n_6,.str s_1,.int .i64 n_7,.int .i64 n_8,.int
 .i64 n_9,.int .i64 n_10,.int .i64 n_11,.sl (2:Nat) false xs_1,.int .i64 n_12,.int .i64 n_13]∧(bif plF (List.take x.toNat G) [n_2,n_3,n_4,n_5] then ∃ x_1,OneM x_1∧((0:Nat)=0∧(0:Nat)=0∧(0:Nat)=0∧(0:Nat)=0∧True∧(0:Nat)=0∧((bif f then f=true else
 True)∧G=G)∧(↑G.length:Int)=(↑G.length:Int)∧x=x∧True)∧(n_6=n_6∧s_1=s_1∧n_7=n_7∧n_8=n_8∧n_9=n_9∧n_10=n_10∧n_11=n_11∧(True∧xs_1=xs_1)∧n_12=n_12∧n_13=n_13∧True)∧ZZ∧(H8 n s n_1 n_2 n_3 n_4 n_5 xs)∧(H9 n s n_1 n_2 n_3 n_4 n_5 G)∧(true=plF (List.take (x.toNat + (1:Nat)) G) [n_2,n_3,n_4,n_5]∧B11 (rdsF (List.take x.toNat G)) (rdsF (List.take x.toNat G)))∧vmP (rdsF (List.take x.toNat G))=vmP (rdsF (List.take
 x.toNat G))∧True else ∃ x_1,OneM x_1∧((0:Nat)=0∧(0:Nat)=0∧(0:Nat)=0∧(0:Nat)=0∧True∧(0:Nat)=0∧((bif f then f=true else True)∧G=G)∧(↑G.length:Int)=(↑G.length:Int)∧x=x∧True)∧(n_6=n_6∧s_1=s_1∧n_7=n_7∧n_8=n_8∧n_9=n_9∧n_10=n_10∧n_11=n_11∧(True∧xs_1=xs_1)∧n_12=n_12∧n_13=n_13∧True)∧ZZ∧(H8 n s n_1 n_2 n_3 n_4 n_5 xs)∧(H9 n s n_1 n_2 n_3 n_4 n_5 G)∧((!(decide (n_8=n_2) && (decide (n_9=n_3) && (decide
 (n_10=n_4) && (decide (n_11=n_5) && true)))))=plF (List.take (x.toNat + (1:Nat)) G) [n_2,n_3,n_4,n_5]∧B11 (rdsF (List.take x.toNat G)) (rdsF (List.take x.toNat G)))∧vmP (rdsF (List.take x.toNat G))=vmP (rdsF (List.take x.toNat G))∧True)∧∀ (x_1 : PUnit),OneM x_1→(∃ x_2,Mg2 G xs_1 x
 x_2∧((True∧xs_1=xs_1)∧(↑xs_1.length:Int)=(↑xs_1.length:Int)∧(0:Int)=x_2∧(0:Nat)=0∧(0:Nat)=0∧(0:Nat)=0∧True∧(0:Nat)=0∧((bif f then f=true else True)∧G=G)∧(↑G.length:Int)=(↑G.length:Int)∧x=x∧True)∧ZZ∧(H8 n s n_1 n_2 n_3 n_4 n_5 xs)∧(H9 n s n_1 n_2 n_3 n_4 n_5 G)∧(plF (List.take (x.toNat + (1:Nat)) G) [n_2,n_3,n_4,n_5]=plF (List.take (x.toNat + (1:Nat)) G) [n_2,n_3,n_4,n_5]∧B11 (rdsF (List.take
 x.toNat G)) (mgP2 G xs_1 x x_2))∧vmP (rdsF (List.take x.toNat G))=vmP (mgP2 G xs_1 x x_2)∧True)∧∀ (x_2:Int),Mg2 G xs_1 x x_2→bif decide (x_2 < (↑xs_1.length:Int)) then bif decide ((0:Int)≤x_2∧x_2 < (↑xs_1.length:Int)) then ∃ n_14 n_15,List.take [AV.int .i64 n_14,.int .i64 n_15].length (xs_1.getD x_2.toNat [])=[AV.int .i64 n_14,.int .i64 n_15]∧(∃ x_3,Mg3 G xs_1 x x_2 n_15 x_3∧((0:Nat)=0∧mInt (vmP
 (mgP2 G xs_1 x x_2)) n_14=mInt (vmP (mgP2 G xs_1 x x_2)) x_3∧mHas (vmP (mgP2 G xs_1 x x_2)) n_14=mHas (vmP (mgP2 G xs_1 x x_2)) x_3∧(True∧xs_1=xs_1)∧(↑xs_1.length:Int)=(↑xs_1.length:Int)∧x_2=x_2∧(0:Nat)=0∧(0:Nat)=0∧(0:Nat)=0∧True∧(0:Nat)=0∧((bif f then f=true else True)∧G=G)∧(↑G.length:Int)=(↑G.length:Int)∧x=x∧True)∧(n_14=x_3∧n_15=n_15∧True)∧ZZ∧(H8 n s n_1 n_2 n_3 n_4 n_5 xs)∧(H9 n s n_1 n_2 n_3
 n_4 n_5 G)∧(plF (List.take (x.toNat + (1:Nat)) G) [n_2,n_3,n_4,n_5]=plF (List.take (x.toNat + (1:Nat)) G) [n_2,n_3,n_4,n_5]∧B11 (mgP2 G xs_1 x x_2) (mgP2 G xs_1 x x_2))∧vmP (mgP2 G xs_1 x x_2)=vmP (mgP2 G xs_1 x x_2)∧True)∧(∀ (x_3:Int),Mg3 G xs_1 x x_2 n_15 x_3→x_3=(1:Int)∨x_3=(2:Int)∨x_3=(3:Int)∨x_3=(4:Int)∨x_3=(5:Int)∨x_3=(6:Int)∨x_3=(7:Int)∨x_3=(8:Int)∨x_3=(9:Int)∨x_3=(10:Int)
∨x_3=(11:Int)∨False)∧(Mg3 G xs_1 x x_2 n_15 (1:Int)→bif bdP (mgP2 G xs_1 x x_2) (1:Int) then bif decide ((vmP (mgP2 G xs_1 x x_2)).length≤(140737488355327:Nat)) then bif decide (rng .i64 (x_2 + (1:Int))) then ∃ y,Mg2 G xs_1 x y∧(mg10 G xs_1 f false n n_1 n_2 n_3 n_4 n_5 s xs x).m y < (mg10 G xs_1 f false n n_1 n_2 n_3 n_4 n_5 s xs x).m
 x_2∧((True∧xs_1=xs_1)∧(↑xs_1.length:Int)=(↑xs_1.length:Int)∧x_2 + (1:Int)=y∧(0:Nat)=0∧(0:Nat)=0∧(0:Nat)=0∧True∧(0:Nat)=0∧((bif f then f=true else True)∧G=G)∧(↑G.length:Int)=(↑G.length:Int)∧x=x∧True)∧ZZ∧(H8 n s n_1 n_2 n_3 n_4 n_5 xs)∧(H9 n s n_1 n_2 n_3 n_4 n_5 G)∧(plF (List.take (x.toNat + (1:Nat)) G) [n_2,n_3,n_4,n_5]=plF (List.take (x.toNat + (1:Nat)) G) [n_2,n_3,n_4,n_5]∧true=bdP (mgP2 G xs_1 x
 y) (1:Int)∧bdP (mgP2 G xs_1 x x_2) (2:Int)=bdP (mgP2 G xs_1 x y) (2:Int)∧bdP (mgP2 G xs_1 x x_2) (3:Int)=bdP (mgP2 G xs_1 x y) (3:Int)∧bdP (mgP2 G xs_1 x x_2) (4:Int)=bdP (mgP2 G xs_1 x y) (4:Int)∧bdP (mgP2 G xs_1 x x_2) (5:Int)=bdP (mgP2 G xs_1 x y) (5:Int)∧bdP (mgP2 G xs_1 x x_2) (6:Int)=bdP (mgP2 G xs_1 x y) (6:Int)∧bdP (mgP2 G xs_1 x x_2) (7:Int)=bdP (mgP2 G xs_1 x y) (7:Int)∧bdP (mgP2 G xs_1 x
 x_2) (8:Int)=bdP (mgP2 G xs_1 x y) (8:Int)∧bdP (mgP2 G xs_1 x x_2) (9:Int)=bdP (mgP2 G xs_1 x y) (9:Int)∧bdP (mgP2 G xs_1 x x_2) (10:Int)=bdP (mgP2 G xs_1 x y) (10:Int)∧bdP (mgP2 G xs_1 x x_2) (11:Int)=bdP (mgP2 G xs_1 x y) (11:Int)∧True)∧mPut (vmP (mgP2 G xs_1 x x_2)) (1:Int) (AV.int .i64 n_15)=vmP (mgP2 G xs_1 x y)∧True else False else False else bif mHas (vmP (mgP2 G xs_1 x x_2)) (1:Int) then
 bif decide ((vmP (mgP2 G xs_1 x x_2)).length≤(140737488355327:Nat)) then bif decide (rng .i64 (x_2 + (1:Int))) then ∃ y,Mg2 G xs_1 x y∧(mg10 G xs_1 f false n n_1 n_2 n_3 n_4 n_5 s xs x).m y < (mg10 G xs_1 f false n n_1 n_2 n_3 n_4 n_5 s xs x).m x_2∧((True∧xs_1=xs_1)∧(↑xs_1.length:Int)=(↑xs_1.length:Int)∧x_2 + (1:Int)=y∧(0:Nat)=0∧(0:Nat)=0∧(0:Nat)=0∧True∧(0:Nat)=0∧((bif f then f=true else
 True)∧G=G)∧(↑G.length:Int)=(↑G.length:Int)∧x=x∧True)∧ZZ∧(H8 n s n_1 n_2 n_3 n_4 n_5 xs)∧(H9 n s n_1 n_2 n_3 n_4 n_5 G)∧(plF (List.take (x.toNat + (1:Nat)) G) [n_2,n_3,n_4,n_5]=plF (List.take (x.toNat + (1:Nat)) G) [n_2,n_3,n_4,n_5]∧(decide ¬mInt (vmP (mgP2 G xs_1 x x_2)) (1:Int)=n_15)=bdP (mgP2 G xs_1 x y) (1:Int)∧bdP (mgP2 G xs_1 x x_2) (2:Int)=bdP (mgP2 G xs_1 x y) (2:Int)∧bdP (mgP2 G xs_1 x x_2)
 (3:Int)=bdP (mgP2 G xs_1 x y) (3:Int)∧bdP (mgP2 G xs_1 x x_2) (4:Int)=bdP (mgP2 G xs_1 x y) (4:Int)∧bdP (mgP2 G xs_1 x x_2) (5:Int)=bdP (mgP2 G xs_1 x y) (5:Int)∧bdP (mgP2 G xs_1 x x_2) (6:Int)=bdP (mgP2 G xs_1 x y) (6:Int)∧bdP (mgP2 G xs_1 x x_2) (7:Int)=bdP (mgP2 G xs_1 x y) (7:Int)∧bdP (mgP2 G xs_1 x x_2) (8:Int)=bdP (mgP2 G xs_1 x y) (8:Int)∧bdP (mgP2 G xs_1 x x_2) (9:Int)=bdP (mgP2 G xs_1 x y)
 (9:Int)∧bdP (mgP2 G xs_1 x x_2) (10:Int)=bdP (mgP2 G xs_1 x y) (10:Int)∧bdP (mgP2 G xs_1 x x_2) (11:Int)=bdP (mgP2 G xs_1 x y) (11:Int)∧True)∧mPut (vmP (mgP2 G xs_1 x x_2)) (1:Int) (AV.int .i64 n_15)=vmP (mgP2 G xs_1 x y)∧True else False else False else bif decide ((vmP (mgP2 G xs_1 x x_2)).length≤(140737488355327:Nat)) then bif decide (rng .i64 (x_2 + (1:Int))) then ∃ y,Mg2 G xs_1 x y∧(mg10 G
 xs_1 f false n n_1 n_2 n_3 n_4 n_5 s xs x).m y < (mg10 G xs_1 f false n n_1 n_2 n_3 n_4 n_5 s xs x).m x_2∧((True∧xs_1=xs_1)∧(↑xs_1.length:Int)=(↑xs_1.length:Int)∧x_2 + (1:Int)=y∧(0:Nat)=0∧(0:Nat)=0∧(0:Nat)=0∧True∧(0:Nat)=0∧((bif f then f=true else True)∧G=G)∧(↑G.length:Int)=(↑G.length:Int)∧x=x∧True)∧ZZ∧(H8 n s n_1 n_2 n_3 n_4 n_5 xs)∧(H9 n s n_1 n_2 n_3 n_4 n_5 G)∧(plF (List.take (x.toNat +
 (1:Nat)) G) [n_2,n_3,n_4,n_5]=plF (List.take (x.toNat + (1:Nat)) G) [n_2,n_3,n_4,n_5]∧false=bdP (mgP2 G xs_1 x y) (1:Int)∧bdP (mgP2 G xs_1 x x_2) (2:Int)=bdP (mgP2 G xs_1 x y) (2:Int)∧bdP (mgP2 G xs_1 x x_2) (3:Int)=bdP (mgP2 G xs_1 x y) (3:Int)∧bdP (mgP2 G xs_1 x x_2) (4:Int)=bdP (mgP2 G xs_1 x y) (4:Int)∧bdP (mgP2 G xs_1 x x_2) (5:Int)=bdP (mgP2 G xs_1 x y) (5:Int)∧bdP (mgP2 G xs_1 x x_2)
 (6:Int)=bdP (mgP2 G xs_1 x y) (6:Int)∧bdP (mgP2 G xs_1 x x_2) (7:Int)=bdP (mgP2 G xs_1 x y) (7:Int)∧bdP (mgP2 G xs_1 x x_2) (8:Int)=bdP (mgP2 G xs_1 x y) (8:Int)∧bdP (mgP2 G xs_1 x x_2) (9:Int)=bdP (mgP2 G xs_1 x y) (9:Int)∧bdP (mgP2 G xs_1 x x_2) (10:Int)=bdP (mgP2 G xs_1 x y) (10:Int)∧bdP (mgP2 G xs_1 x x_2) (11:Int)=bdP (mgP2 G xs_1 x y) (11:Int)∧True)∧mPut (vmP (mgP2 G xs_1 x x_2)) (1:Int)
 (AV.int .i64 n_15)=vmP (mgP2 G xs_1 x y)∧True else False else False)∧(Mg3 G xs_1 x x_2 n_15 (2:Int)→bif bdP (mgP2 G xs_1 x x_2) (2:Int) then bif decide ((vmP (mgP2 G xs_1 x x_2)).length≤(140737488355327:Nat)) then bif decide (rng .i64 (x_2 + (1:Int))) then ∃ y,Mg2 G xs_1 x y∧(mg10 G xs_1 f false n n_1 n_2 n_3 n_4 n_5 s xs x).m y < (mg10 G xs_1 f false n n_1 n_2 n_3 n_4 n_5 s xs x).m
 x_2∧((True∧xs_1=xs_1)∧(↑xs_1.length:Int)=(↑xs_1.length:Int)∧x_2 + (1:Int)=y∧(0:Nat)=0∧(0:Nat)=0∧(0:Nat)=0∧True∧(0:Nat)=0∧((bif f then f=true else True)∧G=G)∧(↑G.length:Int)=(↑G.length:Int)∧x=x∧True)∧ZZ∧(H8 n s n_1 n_2 n_3 n_4 n_5 xs)∧(H9 n s n_1 n_2 n_3 n_4 n_5 G)∧(plF (List.take (x.toNat + (1:Nat)) G) [n_2,n_3,n_4,n_5]=plF (List.take (x.toNat + (1:Nat)) G) [n_2,n_3,n_4,n_5]∧bdP (mgP2 G xs_1 x x_2)
 (1:Int)=bdP (mgP2 G xs_1 x y) (1:Int)∧true=bdP (mgP2 G xs_1 x y) (2:Int)∧bdP (mgP2 G xs_1 x x_2) (3:Int)=bdP (mgP2 G xs_1 x y) (3:Int)∧bdP (mgP2 G xs_1 x x_2) (4:Int)=bdP (mgP2 G xs_1 x y) (4:Int)∧bdP (mgP2 G xs_1 x x_2) (5:Int)=bdP (mgP2 G xs_1 x y) (5:Int)∧bdP (mgP2 G xs_1 x x_2) (6:Int)=bdP (mgP2 G xs_1 x y) (6:Int)∧bdP (mgP2 G xs_1 x x_2) (7:Int)=bdP (mgP2 G xs_1 x y) (7:Int)∧bdP (mgP2 G xs_1 x
 x_2) (8:Int)=bdP (mgP2 G xs_1 x y) (8:Int)∧bdP (mgP2 G xs_1 x x_2) (9:Int)=bdP (mgP2 G xs_1 x y) (9:Int)∧bdP (mgP2 G xs_1 x x_2) (10:Int)=bdP (mgP2 G xs_1 x y) (10:Int)∧bdP (mgP2 G xs_1 x x_2) (11:Int)=bdP (mgP2 G xs_1 x y) (11:Int)∧True)∧mPut (vmP (mgP2 G xs_1 x x_2)) (2:Int) (AV.int .i64 n_15)=vmP (mgP2 G xs_1 x y)∧True else False else False else bif mHas (vmP (mgP2 G xs_1 x x_2)) (2:Int) then
 bif decide ((vmP (mgP2 G xs_1 x x_2)).length≤(140737488355327:Nat)) then bif decide (rng .i64 (x_2 + (1:Int))) then ∃ y,Mg2 G xs_1 x y∧(mg10 G xs_1 f false n n_1 n_2 n_3 n_4 n_5 s xs x).m y < (mg10 G xs_1 f false n n_1 n_2 n_3 n_4 n_5 s xs x).m x_2∧((True∧xs_1=xs_1)∧(↑xs_1.length:Int)=(↑xs_1.length:Int)∧x_2 + (1:Int)=y∧(0:Nat)=0∧(0:Nat)=0∧(0:Nat)=0∧True∧(0:Nat)=0∧((bif f then f=true else
 True)∧G=G)∧(↑G.length:Int)=(↑G.length:Int)∧x=x∧True)∧ZZ∧(H8 n s n_1 n_2 n_3 n_4 n_5 xs)∧(H9 n s n_1 n_2 n_3 n_4 n_5 G)∧(plF (List.take (x.toNat + (1:Nat)) G) [n_2,n_3,n_4,n_5]=plF (List.take (x.toNat + (1:Nat)) G) [n_2,n_3,n_4,n_5]∧bdP (mgP2 G xs_1 x x_2) (1:Int)=bdP (mgP2 G xs_1 x y) (1:Int)∧(decide ¬mInt (vmP (mgP2 G xs_1 x x_2)) (2:Int)=n_15)=bdP (mgP2 G xs_1 x y) (2:Int)∧bdP (mgP2 G xs_1 x x_2)
 (3:Int)=bdP (mgP2 G xs_1 x y) (3:Int)∧bdP (mgP2 G xs_1 x x_2) (4:Int)=bdP (mgP2 G xs_1 x y) (4:Int)∧bdP (mgP2 G xs_1 x x_2) (5:Int)=bdP (mgP2 G xs_1 x y) (5:Int)∧bdP (mgP2 G xs_1 x x_2) (6:Int)=bdP (mgP2 G xs_1 x y) (6:Int)∧bdP (mgP2 G xs_1 x x_2) (7:Int)=bdP (mgP2 G xs_1 x y) (7:Int)∧bdP (mgP2 G xs_1 x x_2) (8:Int)=bdP (mgP2 G xs_1 x y) (8:Int)∧bdP (mgP2 G xs_1 x x_2) (9:Int)=bdP (mgP2 G xs_1 x y)
 (9:Int)∧bdP (mgP2 G xs_1 x x_2) (10:Int)=bdP (mgP2 G xs_1 x y) (10:Int)∧bdP (mgP2 G xs_1 x x_2) (11:Int)=bdP (mgP2 G xs_1 x y) (11:Int)∧True)∧mPut (vmP (mgP2 G xs_1 x x_2)) (2:Int) (AV.int .i64 n_15)=vmP (mgP2 G xs_1 x y)∧True else False else False else bif decide ((vmP (mgP2 G xs_1 x x_2)).length≤(140737488355327:Nat)) then bif decide (rng .i64 (x_2 + (1:Int))) then ∃ y,Mg2 G xs_1 x y∧(mg10 G
 xs_1 f false n n_1 n_2 n_3 n_4 n_5 s xs x).m y < (mg10 G xs_1 f false n n_1 n_2 n_3 n_4 n_5 s xs x).m x_2∧((True∧xs_1=xs_1)∧(↑xs_1.length:Int)=(↑xs_1.length:Int)∧x_2 + (1:Int)=y∧(0:Nat)=0∧(0:Nat)=0∧(0:Nat)=0∧True∧(0:Nat)=0∧((bif f then f=true else True)∧G=G)∧(↑G.length:Int)=(↑G.length:Int)∧x=x∧True)∧ZZ∧(H8 n s n_1 n_2 n_3 n_4 n_5 xs)∧(H9 n s n_1 n_2 n_3 n_4 n_5 G)∧(plF (List.take (x.toNat +
 (1:Nat)) G) [n_2,n_3,n_4,n_5]=plF (List.take (x.toNat + (1:Nat)) G) [n_2,n_3,n_4,n_5]∧bdP (mgP2 G xs_1 x x_2) (1:Int)=bdP (mgP2 G xs_1 x y) (1:Int)∧false=bdP (mgP2 G xs_1 x y) (2:Int)∧bdP (mgP2 G xs_1 x x_2) (3:Int)=bdP (mgP2 G xs_1 x y) (3:Int)∧bdP (mgP2 G xs_1 x x_2) (4:Int)=bdP (mgP2 G xs_1 x y) (4:Int)∧bdP (mgP2 G xs_1 x x_2) (5:Int)=bdP (mgP2 G xs_1 x y) (5:Int)∧bdP (mgP2 G xs_1 x x_2)
 (6:Int)=bdP (mgP2 G xs_1 x y) (6:Int)∧bdP (mgP2 G xs_1 x x_2) (7:Int)=bdP (mgP2 G xs_1 x y) (7:Int)∧bdP (mgP2 G xs_1 x x_2) (8:Int)=bdP (mgP2 G xs_1 x y) (8:Int)∧bdP (mgP2 G xs_1 x x_2) (9:Int)=bdP (mgP2 G xs_1 x y) (9:Int)∧bdP (mgP2 G xs_1 x x_2) (10:Int)=bdP (mgP2 G xs_1 x y) (10:Int)∧bdP (mgP2 G xs_1 x x_2) (11:Int)=bdP (mgP2 G xs_1 x y) (11:Int)∧True)∧mPut (vmP (mgP2 G xs_1 x x_2)) (2:Int)
 (AV.int .i64 n_15)=vmP (mgP2 G xs_1 x y)∧True else False else False)∧(Mg3 G xs_1 x x_2 n_15 (3:Int)→bif bdP (mgP2 G xs_1 x x_2) (3:Int) then bif decide ((vmP (mgP2 G xs_1 x x_2)).length≤(140737488355327:Nat)) then bif decide (rng .i64 (x_2 + (1:Int))) then ∃ y,Mg2 G xs_1 x y∧(mg10 G xs_1 f false n n_1 n_2 n_3 n_4 n_5 s xs x).m y < (mg10 G xs_1 f false n n_1 n_2 n_3 n_4 n_5 s xs x).m
 x_2∧((True∧xs_1=xs_1)∧(↑xs_1.length:Int)=(↑xs_1.length:Int)∧x_2 + (1:Int)=y∧(0:Nat)=0∧(0:Nat)=0∧(0:Nat)=0∧True∧(0:Nat)=0∧((bif f then f=true else True)∧G=G)∧(↑G.length:Int)=(↑G.length:Int)∧x=x∧True)∧ZZ∧(H8 n s n_1 n_2 n_3 n_4 n_5 xs)∧(H9 n s n_1 n_2 n_3 n_4 n_5 G)∧(plF (List.take (x.toNat + (1:Nat)) G) [n_2,n_3,n_4,n_5]=plF (List.take (x.toNat + (1:Nat)) G) [n_2,n_3,n_4,n_5]∧bdP (mgP2 G xs_1 x x_2)
 (1:Int)=bdP (mgP2 G xs_1 x y) (1:Int)∧bdP (mgP2 G xs_1 x x_2) (2:Int)=bdP (mgP2 G xs_1 x y) (2:Int)∧true=bdP (mgP2 G xs_1 x y) (3:Int)∧bdP (mgP2 G xs_1 x x_2) (4:Int)=bdP (mgP2 G xs_1 x y) (4:Int)∧bdP (mgP2 G xs_1 x x_2) (5:Int)=bdP (mgP2 G xs_1 x y) (5:Int)∧bdP (mgP2 G xs_1 x x_2) (6:Int)=bdP (mgP2 G xs_1 x y) (6:Int)∧bdP (mgP2 G xs_1 x x_2) (7:Int)=bdP (mgP2 G xs_1 x y) (7:Int)∧bdP (mgP2 G xs_1 x
 x_2) (8:Int)=bdP (mgP2 G xs_1 x y) (8:Int)∧bdP (mgP2 G xs_1 x x_2) (9:Int)=bdP (mgP2 G xs_1 x y) (9:Int)∧bdP (mgP2 G xs_1 x x_2) (10:Int)=bdP (mgP2 G xs_1 x y) (10:Int)∧bdP (mgP2 G xs_1 x x_2) (11:Int)=bdP (mgP2 G xs_1 x y) (11:Int)∧True)∧mPut (vmP (mgP2 G xs_1 x x_2)) (3:Int) (AV.int .i64 n_15)=vmP (mgP2 G xs_1 x y)∧True else False else False else bif mHas (vmP (mgP2 G xs_1 x x_2)) (3:Int) then
 bif decide ((vmP (mgP2 G xs_1 x x_2)).length≤(140737488355327:Nat)) then bif decide (rng .i64 (x_2 + (1:Int))) then ∃ y,Mg2 G xs_1 x y∧(mg10 G xs_1 f false n n_1 n_2 n_3 n_4 n_5 s xs x).m y < (mg10 G xs_1 f false n n_1 n_2 n_3 n_4 n_5 s xs x).m x_2∧((True∧xs_1=xs_1)∧(↑xs_1.length:Int)=(↑xs_1.length:Int)∧x_2 + (1:Int)=y∧(0:Nat)=0∧(0:Nat)=0∧(0:Nat)=0∧True∧(0:Nat)=0∧((bif f then f=true else
 True)∧G=G)∧(↑G.length:Int)=(↑G.length:Int)∧x=x∧True)∧ZZ∧(H8 n s n_1 n_2 n_3 n_4 n_5 xs)∧(H9 n s n_1 n_2 n_3 n_4 n_5 G)∧(plF (List.take (x.toNat + (1:Nat)) G) [n_2,n_3,n_4,n_5]=plF (List.take (x.toNat + (1:Nat)) G) [n_2,n_3,n_4,n_5]∧bdP (mgP2 G xs_1 x x_2) (1:Int)=bdP (mgP2 G xs_1 x y) (1:Int)∧bdP (mgP2 G xs_1 x x_2) (2:Int)=bdP (mgP2 G xs_1 x y) (2:Int)∧(decide ¬mInt (vmP (mgP2 G xs_1 x x_2))
 (3:Int)=n_15)=bdP (mgP2 G xs_1 x y) (3:Int)∧bdP (mgP2 G xs_1 x x_2) (4:Int)=bdP (mgP2 G xs_1 x y) (4:Int)∧bdP (mgP2 G xs_1 x x_2) (5:Int)=bdP (mgP2 G xs_1 x y) (5:Int)∧bdP (mgP2 G xs_1 x x_2) (6:Int)=bdP (mgP2 G xs_1 x y) (6:Int)∧bdP (mgP2 G xs_1 x x_2) (7:Int)=bdP (mgP2 G xs_1 x y) (7:Int)∧bdP (mgP2 G xs_1 x x_2) (8:Int)=bdP (mgP2 G xs_1 x y) (8:Int)∧bdP (mgP2 G xs_1 x x_2) (9:Int)=bdP (mgP2 G
 xs_1 x y) (9:Int)∧bdP (mgP2 G xs_1 x x_2) (10:Int)=bdP (mgP2 G xs_1 x y) (10:Int)∧bdP (mgP2 G xs_1 x x_2) (11:Int)=bdP (mgP2 G xs_1 x y) (11:Int)∧True)∧mPut (vmP (mgP2 G xs_1 x x_2)) (3:Int) (AV.int .i64 n_15)=vmP (mgP2 G xs_1 x y)∧True else False else False else bif decide ((vmP (mgP2 G xs_1 x x_2)).length≤(140737488355327:Nat)) then bif decide (rng .i64 (x_2 + (1:Int))) then ∃ y,Mg2 G xs_1 x
 y∧(mg10 G xs_1 f false n n_1 n_2 n_3 n_4 n_5 s xs x).m y < (mg10 G xs_1 f false n n_1 n_2 n_3 n_4 n_5 s xs x).m x_2∧((True∧xs_1=xs_1)∧(↑xs_1.length:Int)=(↑xs_1.length:Int)∧x_2 + (1:Int)=y∧(0:Nat)=0∧(0:Nat)=0∧(0:Nat)=0∧True∧(0:Nat)=0∧((bif f then f=true else True)∧G=G)∧(↑G.length:Int)=(↑G.length:Int)∧x=x∧True)∧ZZ∧(H8 n s n_1 n_2 n_3 n_4 n_5 xs)∧(H9 n s n_1 n_2 n_3 n_4 n_5 G)∧(plF (List.take (x.toNat
 + (1:Nat)) G) [n_2,n_3,n_4,n_5]=plF (List.take (x.toNat + (1:Nat)) G) [n_2,n_3,n_4,n_5]∧bdP (mgP2 G xs_1 x x_2) (1:Int)=bdP (mgP2 G xs_1 x y) (1:Int)∧bdP (mgP2 G xs_1 x x_2) (2:Int)=bdP (mgP2 G xs_1 x y) (2:Int)∧false=bdP (mgP2 G xs_1 x y) (3:Int)∧bdP (mgP2 G xs_1 x x_2) (4:Int)=bdP (mgP2 G xs_1 x y) (4:Int)∧bdP (mgP2 G xs_1 x x_2) (5:Int)=bdP (mgP2 G xs_1 x y) (5:Int)∧bdP (mgP2 G xs_1 x x_2)
 (6:Int)=bdP (mgP2 G xs_1 x y) (6:Int)∧bdP (mgP2 G xs_1 x x_2) (7:Int)=bdP (mgP2 G xs_1 x y) (7:Int)∧bdP (mgP2 G xs_1 x x_2) (8:Int)=bdP (mgP2 G xs_1 x y) (8:Int)∧bdP (mgP2 G xs_1 x x_2) (9:Int)=bdP (mgP2 G xs_1 x y) (9:Int)∧bdP (mgP2 G xs_1 x x_2) (10:Int)=bdP (mgP2 G xs_1 x y) (10:Int)∧bdP (mgP2 G xs_1 x x_2) (11:Int)=bdP (mgP2 G xs_1 x y) (11:Int)∧True)∧mPut (vmP (mgP2 G xs_1 x x_2)) (3:Int)
 (AV.int .i64 n_15)=vmP (mgP2 G xs_1 x y)∧True else False else False)∧(Mg3 G xs_1 x x_2 n_15 (4:Int)→bif bdP (mgP2 G xs_1 x x_2) (4:Int) then bif decide ((vmP (mgP2 G xs_1 x x_2)).length≤(140737488355327:Nat)) then bif decide (rng .i64 (x_2 + (1:Int))) then ∃ y,Mg2 G xs_1 x y∧(mg10 G xs_1 f false n n_1 n_2 n_3 n_4 n_5 s xs x).m y < (mg10 G xs_1 f false n n_1 n_2 n_3 n_4 n_5 s xs x).m
 x_2∧((True∧xs_1=xs_1)∧(↑xs_1.length:Int)=(↑xs_1.length:Int)∧x_2 + (1:Int)=y∧(0:Nat)=0∧(0:Nat)=0∧(0:Nat)=0∧True∧(0:Nat)=0∧((bif f then f=true else True)∧G=G)∧(↑G.length:Int)=(↑G.length:Int)∧x=x∧True)∧ZZ∧(H8 n s n_1 n_2 n_3 n_4 n_5 xs)∧(H9 n s n_1 n_2 n_3 n_4 n_5 G)∧(plF (List.take (x.toNat + (1:Nat)) G) [n_2,n_3,n_4,n_5]=plF (List.take (x.toNat + (1:Nat)) G) [n_2,n_3,n_4,n_5]∧bdP (mgP2 G xs_1 x x_2)
 (1:Int)=bdP (mgP2 G xs_1 x y) (1:Int)∧bdP (mgP2 G xs_1 x x_2) (2:Int)=bdP (mgP2 G xs_1 x y) (2:Int)∧bdP (mgP2 G xs_1 x x_2) (3:Int)=bdP (mgP2 G xs_1 x y) (3:Int)∧true=bdP (mgP2 G xs_1 x y) (4:Int)∧bdP (mgP2 G xs_1 x x_2) (5:Int)=bdP (mgP2 G xs_1 x y) (5:Int)∧bdP (mgP2 G xs_1 x x_2) (6:Int)=bdP (mgP2 G xs_1 x y) (6:Int)∧bdP (mgP2 G xs_1 x x_2) (7:Int)=bdP (mgP2 G xs_1 x y) (7:Int)∧bdP (mgP2 G xs_1 x
 x_2) (8:Int)=bdP (mgP2 G xs_1 x y) (8:Int)∧bdP (mgP2 G xs_1 x x_2) (9:Int)=bdP (mgP2 G xs_1 x y) (9:Int)∧bdP (mgP2 G xs_1 x x_2) (10:Int)=bdP (mgP2 G xs_1 x y) (10:Int)∧bdP (mgP2 G xs_1 x x_2) (11:Int)=bdP (mgP2 G xs_1 x y) (11:Int)∧True)∧mPut (vmP (mgP2 G xs_1 x x_2)) (4:Int) (AV.int .i64 n_15)=vmP (mgP2 G xs_1 x y)∧True else False else False else bif mHas (vmP (mgP2 G xs_1 x x_2)) (4:Int) then
 bif decide ((vmP (mgP2 G xs_1 x x_2)).length≤(140737488355327:Nat)) then bif decide (rng .i64 (x_2 + (1:Int))) then ∃ y,Mg2 G xs_1 x y∧(mg10 G xs_1 f false n n_1 n_2 n_3 n_4 n_5 s xs x).m y < (mg10 G xs_1 f false n n_1 n_2 n_3 n_4 n_5 s xs x).m x_2∧((True∧xs_1=xs_1)∧(↑xs_1.length:Int)=(↑xs_1.length:Int)∧x_2 + (1:Int)=y∧(0:Nat)=0∧(0:Nat)=0∧(0:Nat)=0∧True∧(0:Nat)=0∧((bif f then f=true else
 True)∧G=G)∧(↑G.length:Int)=(↑G.length:Int)∧x=x∧True)∧ZZ∧(H8 n s n_1 n_2 n_3 n_4 n_5 xs)∧(H9 n s n_1 n_2 n_3 n_4 n_5 G)∧(plF (List.take (x.toNat + (1:Nat)) G) [n_2,n_3,n_4,n_5]=plF (List.take (x.toNat + (1:Nat)) G) [n_2,n_3,n_4,n_5]∧bdP (mgP2 G xs_1 x x_2) (1:Int)=bdP (mgP2 G xs_1 x y) (1:Int)∧bdP (mgP2 G xs_1 x x_2) (2:Int)=bdP (mgP2 G xs_1 x y) (2:Int)∧bdP (mgP2 G xs_1 x x_2) (3:Int)=bdP (mgP2 G
 xs_1 x y) (3:Int)∧(decide ¬mInt (vmP (mgP2 G xs_1 x x_2)) (4:Int)=n_15)=bdP (mgP2 G xs_1 x y) (4:Int)∧bdP (mgP2 G xs_1 x x_2) (5:Int)=bdP (mgP2 G xs_1 x y) (5:Int)∧bdP (mgP2 G xs_1 x x_2) (6:Int)=bdP (mgP2 G xs_1 x y) (6:Int)∧bdP (mgP2 G xs_1 x x_2) (7:Int)=bdP (mgP2 G xs_1 x y) (7:Int)∧bdP (mgP2 G xs_1 x x_2) (8:Int)=bdP (mgP2 G xs_1 x y) (8:Int)∧bdP (mgP2 G xs_1 x x_2) (9:Int)=bdP (mgP2 G xs_1 x
 y) (9:Int)∧bdP (mgP2 G xs_1 x x_2) (10:Int)=bdP (mgP2 G xs_1 x y) (10:Int)∧bdP (mgP2 G xs_1 x x_2) (11:Int)=bdP (mgP2 G xs_1 x y) (11:Int)∧True)∧mPut (vmP (mgP2 G xs_1 x x_2)) (4:Int) (AV.int .i64 n_15)=vmP (mgP2 G xs_1 x y)∧True else False else False else bif decide ((vmP (mgP2 G xs_1 x x_2)).length≤(140737488355327:Nat)) then bif decide (rng .i64 (x_2 + (1:Int))) then ∃ y,Mg2 G xs_1 x y∧(mg10 G
 xs_1 f false n n_1 n_2 n_3 n_4 n_5 s xs x).m y < (mg10 G xs_1 f false n n_1 n_2 n_3 n_4 n_5 s xs x).m x_2∧((True∧xs_1=xs_1)∧(↑xs_1.length:Int)=(↑xs_1.length:Int)∧x_2 + (1:Int)=y∧(0:Nat)=0∧(0:Nat)=0∧(0:Nat)=0∧True∧(0:Nat)=0∧((bif f then f=true else True)∧G=G)∧(↑G.length:Int)=(↑G.length:Int)∧x=x∧True)∧ZZ∧(H8 n s n_1 n_2 n_3 n_4 n_5 xs)∧(H9 n s n_1 n_2 n_3 n_4 n_5 G)∧(plF (List.take (x.toNat +
 (1:Nat)) G) [n_2,n_3,n_4,n_5]=plF (List.take (x.toNat + (1:Nat)) G) [n_2,n_3,n_4,n_5]∧bdP (mgP2 G xs_1 x x_2) (1:Int)=bdP (mgP2 G xs_1 x y) (1:Int)∧bdP (mgP2 G xs_1 x x_2) (2:Int)=bdP (mgP2 G xs_1 x y) (2:Int)∧bdP (mgP2 G xs_1 x x_2) (3:Int)=bdP (mgP2 G xs_1 x y) (3:Int)∧false=bdP (mgP2 G xs_1 x y) (4:Int)∧bdP (mgP2 G xs_1 x x_2) (5:Int)=bdP (mgP2 G xs_1 x y) (5:Int)∧bdP (mgP2 G xs_1 x x_2)
 (6:Int)=bdP (mgP2 G xs_1 x y) (6:Int)∧bdP (mgP2 G xs_1 x x_2) (7:Int)=bdP (mgP2 G xs_1 x y) (7:Int)∧bdP (mgP2 G xs_1 x x_2) (8:Int)=bdP (mgP2 G xs_1 x y) (8:Int)∧bdP (mgP2 G xs_1 x x_2) (9:Int)=bdP (mgP2 G xs_1 x y) (9:Int)∧bdP (mgP2 G xs_1 x x_2) (10:Int)=bdP (mgP2 G xs_1 x y) (10:Int)∧bdP (mgP2 G xs_1 x x_2) (11:Int)=bdP (mgP2 G xs_1 x y) (11:Int)∧True)∧mPut (vmP (mgP2 G xs_1 x x_2)) (4:Int)
 (AV.int .i64 n_15)=vmP (mgP2 G xs_1 x y)∧True else False else False)∧(Mg3 G xs_1 x x_2 n_15 (5:Int)→bif bdP (mgP2 G xs_1 x x_2) (5:Int) then bif decide ((vmP (mgP2 G xs_1 x x_2)).length≤(140737488355327:Nat)) then bif decide (rng .i64 (x_2 + (1:Int))) then ∃ y,Mg2 G xs_1 x y∧(mg10 G xs_1 f false n n_1 n_2 n_3 n_4 n_5 s xs x).m y < (mg10 G xs_1 f false n n_1 n_2 n_3 n_4 n_5 s xs x).m
 x_2∧((True∧xs_1=xs_1)∧(↑xs_1.length:Int)=(↑xs_1.length:Int)∧x_2 + (1:Int)=y∧(0:Nat)=0∧(0:Nat)=0∧(0:Nat)=0∧True∧(0:Nat)=0∧((bif f then f=true else True)∧G=G)∧(↑G.length:Int)=(↑G.length:Int)∧x=x∧True)∧ZZ∧(H8 n s n_1 n_2 n_3 n_4 n_5 xs)∧(H9 n s n_1 n_2 n_3 n_4 n_5 G)∧(plF (List.take (x.toNat + (1:Nat)) G) [n_2,n_3,n_4,n_5]=plF (List.take (x.toNat + (1:Nat)) G) [n_2,n_3,n_4,n_5]∧bdP (mgP2 G xs_1 x x_2)
 (1:Int)=bdP (mgP2 G xs_1 x y) (1:Int)∧bdP (mgP2 G xs_1 x x_2) (2:Int)=bdP (mgP2 G xs_1 x y) (2:Int)∧bdP (mgP2 G xs_1 x x_2) (3:Int)=bdP (mgP2 G xs_1 x y) (3:Int)∧bdP (mgP2 G xs_1 x x_2) (4:Int)=bdP (mgP2 G xs_1 x y) (4:Int)∧true=bdP (mgP2 G xs_1 x y) (5:Int)∧bdP (mgP2 G xs_1 x x_2) (6:Int)=bdP (mgP2 G xs_1 x y) (6:Int)∧bdP (mgP2 G xs_1 x x_2) (7:Int)=bdP (mgP2 G xs_1 x y) (7:Int)∧bdP (mgP2 G xs_1 x
 x_2) (8:Int)=bdP (mgP2 G xs_1 x y) (8:Int)∧bdP (mgP2 G xs_1 x x_2) (9:Int)=bdP (mgP2 G xs_1 x y) (9:Int)∧bdP (mgP2 G xs_1 x x_2) (10:Int)=bdP (mgP2 G xs_1 x y) (10:Int)∧bdP (mgP2 G xs_1 x x_2) (11:Int)=bdP (mgP2 G xs_1 x y) (11:Int)∧True)∧mPut (vmP (mgP2 G xs_1 x x_2)) (5:Int) (AV.int .i64 n_15)=vmP (mgP2 G xs_1 x y)∧True else False else False else bif mHas (vmP (mgP2 G xs_1 x x_2)) (5:Int) then
 bif decide ((vmP (mgP2 G xs_1 x x_2)).length≤(140737488355327:Nat)) then bif decide (rng .i64 (x_2 + (1:Int))) then ∃ y,Mg2 G xs_1 x y∧(mg10 G xs_1 f false n n_1 n_2 n_3 n_4 n_5 s xs x).m y < (mg10 G xs_1 f false n n_1 n_2 n_3 n_4 n_5 s xs x).m x_2∧((True∧xs_1=xs_1)∧(↑xs_1.length:Int)=(↑xs_1.length:Int)∧x_2 + (1:Int)=y∧(0:Nat)=0∧(0:Nat)=0∧(0:Nat)=0∧True∧(0:Nat)=0∧((bif f then f=true else
 True)∧G=G)∧(↑G.length:Int)=(↑G.length:Int)∧x=x∧True)∧ZZ∧(H8 n s n_1 n_2 n_3 n_4 n_5 xs)∧(H9 n s n_1 n_2 n_3 n_4 n_5 G)∧(plF (List.take (x.toNat + (1:Nat)) G) [n_2,n_3,n_4,n_5]=plF (List.take (x.toNat + (1:Nat)) G) [n_2,n_3,n_4,n_5]∧bdP (mgP2 G xs_1 x x_2) (1:Int)=bdP (mgP2 G xs_1 x y) (1:Int)∧bdP (mgP2 G xs_1 x x_2) (2:Int)=bdP (mgP2 G xs_1 x y) (2:Int)∧bdP (mgP2 G xs_1 x x_2) (3:Int)=bdP (mgP2 G
 xs_1 x y) (3:Int)∧bdP (mgP2 G xs_1 x x_2) (4:Int)=bdP (mgP2 G xs_1 x y) (4:Int)∧(decide ¬mInt (vmP (mgP2 G xs_1 x x_2)) (5:Int)=n_15)=bdP (mgP2 G xs_1 x y) (5:Int)∧bdP (mgP2 G xs_1 x x_2) (6:Int)=bdP (mgP2 G xs_1 x y) (6:Int)∧bdP (mgP2 G xs_1 x x_2) (7:Int)=bdP (mgP2 G xs_1 x y) (7:Int)∧bdP (mgP2 G xs_1 x x_2) (8:Int)=bdP (mgP2 G xs_1 x y) (8:Int)∧bdP (mgP2 G xs_1 x x_2) (9:Int)=bdP (mgP2 G xs_1 x
 y) (9:Int)∧bdP (mgP2 G xs_1 x x_2) (10:Int)=bdP (mgP2 G xs_1 x y) (10:Int)∧bdP (mgP2 G xs_1 x x_2) (11:Int)=bdP (mgP2 G xs_1 x y) (11:Int)∧True)∧mPut (vmP (mgP2 G xs_1 x x_2)) (5:Int) (AV.int .i64 n_15)=vmP (mgP2 G xs_1 x y)∧True else False else False else bif decide ((vmP (mgP2 G xs_1 x x_2)).length≤(140737488355327:Nat)) then bif decide (rng .i64 (x_2 + (1:Int))) then ∃ y,Mg2 G xs_1 x y∧(mg10 G
 xs_1 f false n n_1 n_2 n_3 n_4 n_5 s xs x).m y < (mg10 G xs_1 f false n n_1 n_2 n_3 n_4 n_5 s xs x).m x_2∧((True∧xs_1=xs_1)∧(↑xs_1.length:Int)=(↑xs_1.length:Int)∧x_2 + (1:Int)=y∧(0:Nat)=0∧(0:Nat)=0∧(0:Nat)=0∧True∧(0:Nat)=0∧((bif f then f=true else True)∧G=G)∧(↑G.length:Int)=(↑G.length:Int)∧x=x∧True)∧ZZ∧(H8 n s n_1 n_2 n_3 n_4 n_5 xs)∧(H9 n s n_1 n_2 n_3 n_4 n_5 G)∧(plF (List.take (x.toNat +
 (1:Nat)) G) [n_2,n_3,n_4,n_5]=plF (List.take (x.toNat + (1:Nat)) G) [n_2,n_3,n_4,n_5]∧bdP (mgP2 G xs_1 x x_2) (1:Int)=bdP (mgP2 G xs_1 x y) (1:Int)∧bdP (mgP2 G xs_1 x x_2) (2:Int)=bdP (mgP2 G xs_1 x y) (2:Int)∧bdP (mgP2 G xs_1 x x_2) (3:Int)=bdP (mgP2 G xs_1 x y) (3:Int)∧bdP (mgP2 G xs_1 x x_2) (4:Int)=bdP (mgP2 G xs_1 x y) (4:Int)∧false=bdP (mgP2 G xs_1 x y) (5:Int)∧bdP (mgP2 G xs_1 x x_2)
 (6:Int)=bdP (mgP2 G xs_1 x y) (6:Int)∧bdP (mgP2 G xs_1 x x_2) (7:Int)=bdP (mgP2 G xs_1 x y) (7:Int)∧bdP (mgP2 G xs_1 x x_2) (8:Int)=bdP (mgP2 G xs_1 x y) (8:Int)∧bdP (mgP2 G xs_1 x x_2) (9:Int)=bdP (mgP2 G xs_1 x y) (9:Int)∧bdP (mgP2 G xs_1 x x_2) (10:Int)=bdP (mgP2 G xs_1 x y) (10:Int)∧bdP (mgP2 G xs_1 x x_2) (11:Int)=bdP (mgP2 G xs_1 x y) (11:Int)∧True)∧mPut (vmP (mgP2 G xs_1 x x_2)) (5:Int)
 (AV.int .i64 n_15)=vmP (mgP2 G xs_1 x y)∧True else False else False)∧(Mg3 G xs_1 x x_2 n_15 (6:Int)→bif bdP (mgP2 G xs_1 x x_2) (6:Int) then bif decide ((vmP (mgP2 G xs_1 x x_2)).length≤(140737488355327:Nat)) then bif decide (rng .i64 (x_2 + (1:Int))) then ∃ y,Mg2 G xs_1 x y∧(mg10 G xs_1 f false n n_1 n_2 n_3 n_4 n_5 s xs x).m y < (mg10 G xs_1 f false n n_1 n_2 n_3 n_4 n_5 s xs x).m
 x_2∧((True∧xs_1=xs_1)∧(↑xs_1.length:Int)=(↑xs_1.length:Int)∧x_2 + (1:Int)=y∧(0:Nat)=0∧(0:Nat)=0∧(0:Nat)=0∧True∧(0:Nat)=0∧((bif f then f=true else True)∧G=G)∧(↑G.length:Int)=(↑G.length:Int)∧x=x∧True)∧ZZ∧(H8 n s n_1 n_2 n_3 n_4 n_5 xs)∧(H9 n s n_1 n_2 n_3 n_4 n_5 G)∧(plF (List.take (x.toNat + (1:Nat)) G) [n_2,n_3,n_4,n_5]=plF (List.take (x.toNat + (1:Nat)) G) [n_2,n_3,n_4,n_5]∧bdP (mgP2 G xs_1 x x_2)
 (1:Int)=bdP (mgP2 G xs_1 x y) (1:Int)∧bdP (mgP2 G xs_1 x x_2) (2:Int)=bdP (mgP2 G xs_1 x y) (2:Int)∧bdP (mgP2 G xs_1 x x_2) (3:Int)=bdP (mgP2 G xs_1 x y) (3:Int)∧bdP (mgP2 G xs_1 x x_2) (4:Int)=bdP (mgP2 G xs_1 x y) (4:Int)∧bdP (mgP2 G xs_1 x x_2) (5:Int)=bdP (mgP2 G xs_1 x y) (5:Int)∧true=bdP (mgP2 G xs_1 x y) (6:Int)∧bdP (mgP2 G xs_1 x x_2) (7:Int)=bdP (mgP2 G xs_1 x y) (7:Int)∧bdP (mgP2 G xs_1 x
 x_2) (8:Int)=bdP (mgP2 G xs_1 x y) (8:Int)∧bdP (mgP2 G xs_1 x x_2) (9:Int)=bdP (mgP2 G xs_1 x y) (9:Int)∧bdP (mgP2 G xs_1 x x_2) (10:Int)=bdP (mgP2 G xs_1 x y) (10:Int)∧bdP (mgP2 G xs_1 x x_2) (11:Int)=bdP (mgP2 G xs_1 x y) (11:Int)∧True)∧mPut (vmP (mgP2 G xs_1 x x_2)) (6:Int) (AV.int .i64 n_15)=vmP (mgP2 G xs_1 x y)∧True else False else False else bif mHas (vmP (mgP2 G xs_1 x x_2)) (6:Int) then
 bif decide ((vmP (mgP2 G xs_1 x x_2)).length≤(140737488355327:Nat)) then bif decide (rng .i64 (x_2 + (1:Int))) then ∃ y,Mg2 G xs_1 x y∧(mg10 G xs_1 f false n n_1 n_2 n_3 n_4 n_5 s xs x).m y < (mg10 G xs_1 f false n n_1 n_2 n_3 n_4 n_5 s xs x).m x_2∧((True∧xs_1=xs_1)∧(↑xs_1.length:Int)=(↑xs_1.length:Int)∧x_2 + (1:Int)=y∧(0:Nat)=0∧(0:Nat)=0∧(0:Nat)=0∧True∧(0:Nat)=0∧((bif f then f=true else
 True)∧G=G)∧(↑G.length:Int)=(↑G.length:Int)∧x=x∧True)∧ZZ∧(H8 n s n_1 n_2 n_3 n_4 n_5 xs)∧(H9 n s n_1 n_2 n_3 n_4 n_5 G)∧(plF (List.take (x.toNat + (1:Nat)) G) [n_2,n_3,n_4,n_5]=plF (List.take (x.toNat + (1:Nat)) G) [n_2,n_3,n_4,n_5]∧bdP (mgP2 G xs_1 x x_2) (1:Int)=bdP (mgP2 G xs_1 x y) (1:Int)∧bdP (mgP2 G xs_1 x x_2) (2:Int)=bdP (mgP2 G xs_1 x y) (2:Int)∧bdP (mgP2 G xs_1 x x_2) (3:Int)=bdP (mgP2 G
 xs_1 x y) (3:Int)∧bdP (mgP2 G xs_1 x x_2) (4:Int)=bdP (mgP2 G xs_1 x y) (4:Int)∧bdP (mgP2 G xs_1 x x_2) (5:Int)=bdP (mgP2 G xs_1 x y) (5:Int)∧(decide ¬mInt (vmP (mgP2 G xs_1 x x_2)) (6:Int)=n_15)=bdP (mgP2 G xs_1 x y) (6:Int)∧bdP (mgP2 G xs_1 x x_2) (7:Int)=bdP (mgP2 G xs_1 x y) (7:Int)∧bdP (mgP2 G xs_1 x x_2) (8:Int)=bdP (mgP2 G xs_1 x y) (8:Int)∧bdP (mgP2 G xs_1 x x_2) (9:Int)=bdP (mgP2 G xs_1 x
 y) (9:Int)∧bdP (mgP2 G xs_1 x x_2) (10:Int)=bdP (mgP2 G xs_1 x y) (10:Int)∧bdP (mgP2 G xs_1 x x_2) (11:Int)=bdP (mgP2 G xs_1 x y) (11:Int)∧True)∧mPut (vmP (mgP2 G xs_1 x x_2)) (6:Int) (AV.int .i64 n_15)=vmP (mgP2 G xs_1 x y)∧True else False else False else bif decide ((vmP (mgP2 G xs_1 x x_2)).length≤(140737488355327:Nat)) then bif decide (rng .i64 (x_2 + (1:Int))) then ∃ y,Mg2 G xs_1 x y∧(mg10 G
 xs_1 f false n n_1 n_2 n_3 n_4 n_5 s xs x).m y < (mg10 G xs_1 f false n n_1 n_2 n_3 n_4 n_5 s xs x).m x_2∧((True∧xs_1=xs_1)∧(↑xs_1.length:Int)=(↑xs_1.length:Int)∧x_2 + (1:Int)=y∧(0:Nat)=0∧(0:Nat)=0∧(0:Nat)=0∧True∧(0:Nat)=0∧((bif f then f=true else True)∧G=G)∧(↑G.length:Int)=(↑G.length:Int)∧x=x∧True)∧ZZ∧(H8 n s n_1 n_2 n_3 n_4 n_5 xs)∧(H9 n s n_1 n_2 n_3 n_4 n_5 G)∧(plF (List.take (x.toNat +
 (1:Nat)) G) [n_2,n_3,n_4,n_5]=plF (List.take (x.toNat + (1:Nat)) G) [n_2,n_3,n_4,n_5]∧bdP (mgP2 G xs_1 x x_2) (1:Int)=bdP (mgP2 G xs_1 x y) (1:Int)∧bdP (mgP2 G xs_1 x x_2) (2:Int)=bdP (mgP2 G xs_1 x y) (2:Int)∧bdP (mgP2 G xs_1 x x_2) (3:Int)=bdP (mgP2 G xs_1 x y) (3:Int)∧bdP (mgP2 G xs_1 x x_2) (4:Int)=bdP (mgP2 G xs_1 x y) (4:Int)∧bdP (mgP2 G xs_1 x x_2) (5:Int)=bdP (mgP2 G xs_1 x y)
 (5:Int)∧false=bdP (mgP2 G xs_1 x y) (6:Int)∧bdP (mgP2 G xs_1 x x_2) (7:Int)=bdP (mgP2 G xs_1 x y) (7:Int)∧bdP (mgP2 G xs_1 x x_2) (8:Int)=bdP (mgP2 G xs_1 x y) (8:Int)∧bdP (mgP2 G xs_1 x x_2) (9:Int)=bdP (mgP2 G xs_1 x y) (9:Int)∧bdP (mgP2 G xs_1 x x_2) (10:Int)=bdP (mgP2 G xs_1 x y) (10:Int)∧bdP (mgP2 G xs_1 x x_2) (11:Int)=bdP (mgP2 G xs_1 x y) (11:Int)∧True)∧mPut (vmP (mgP2 G xs_1 x x_2))
 (6:Int) (AV.int .i64 n_15)=vmP (mgP2 G xs_1 x y)∧True else False else False)∧(Mg3 G xs_1 x x_2 n_15 (7:Int)→bif bdP (mgP2 G xs_1 x x_2) (7:Int) then bif decide ((vmP (mgP2 G xs_1 x x_2)).length≤(140737488355327:Nat)) then bif decide (rng .i64 (x_2 + (1:Int))) then ∃ y,Mg2 G xs_1 x y∧(mg10 G xs_1 f false n n_1 n_2 n_3 n_4 n_5 s xs x).m y < (mg10 G xs_1 f false n n_1 n_2 n_3 n_4 n_5 s xs x).m
 x_2∧((True∧xs_1=xs_1)∧(↑xs_1.length:Int)=(↑xs_1.length:Int)∧x_2 + (1:Int)=y∧(0:Nat)=0∧(0:Nat)=0∧(0:Nat)=0∧True∧(0:Nat)=0∧((bif f then f=true else True)∧G=G)∧(↑G.length:Int)=(↑G.length:Int)∧x=x∧True)∧ZZ∧(H8 n s n_1 n_2 n_3 n_4 n_5 xs)∧(H9 n s n_1 n_2 n_3 n_4 n_5 G)∧(plF (List.take (x.toNat + (1:Nat)) G) [n_2,n_3,n_4,n_5]=plF (List.take (x.toNat + (1:Nat)) G) [n_2,n_3,n_4,n_5]∧bdP (mgP2 G xs_1 x x_2)
 (1:Int)=bdP (mgP2 G xs_1 x y) (1:Int)∧bdP (mgP2 G xs_1 x x_2) (2:Int)=bdP (mgP2 G xs_1 x y) (2:Int)∧bdP (mgP2 G xs_1 x x_2) (3:Int)=bdP (mgP2 G xs_1 x y) (3:Int)∧bdP (mgP2 G xs_1 x x_2) (4:Int)=bdP (mgP2 G xs_1 x y) (4:Int)∧bdP (mgP2 G xs_1 x x_2) (5:Int)=bdP (mgP2 G xs_1 x y) (5:Int)∧bdP (mgP2 G xs_1 x x_2) (6:Int)=bdP (mgP2 G xs_1 x y) (6:Int)∧true=bdP (mgP2 G xs_1 x y) (7:Int)∧bdP (mgP2 G xs_1 x
 x_2) (8:Int)=bdP (mgP2 G xs_1 x y) (8:Int)∧bdP (mgP2 G xs_1 x x_2) (9:Int)=bdP (mgP2 G xs_1 x y) (9:Int)∧bdP (mgP2 G xs_1 x x_2) (10:Int)=bdP (mgP2 G xs_1 x y) (10:Int)∧bdP (mgP2 G xs_1 x x_2) (11:Int)=bdP (mgP2 G xs_1 x y) (11:Int)∧True)∧mPut (vmP (mgP2 G xs_1 x x_2)) (7:Int) (AV.int .i64 n_15)=vmP (mgP2 G xs_1 x y)∧True else False else False else bif mHas (vmP (mgP2 G xs_1 x x_2)) (7:Int) then
 bif decide ((vmP (mgP2 G xs_1 x x_2)).length≤(140737488355327:Nat)) then bif decide (rng .i64 (x_2 + (1:Int))) then ∃ y,Mg2 G xs_1 x y∧(mg10 G xs_1 f false n n_1 n_2 n_3 n_4 n_5 s xs x).m y < (mg10 G xs_1 f false n n_1 n_2 n_3 n_4 n_5 s xs x).m x_2∧((True∧xs_1=xs_1)∧(↑xs_1.length:Int)=(↑xs_1.length:Int)∧x_2 + (1:Int)=y∧(0:Nat)=0∧(0:Nat)=0∧(0:Nat)=0∧True∧(0:Nat)=0∧((bif f then f=true else
 True)∧G=G)∧(↑G.length:Int)=(↑G.length:Int)∧x=x∧True)∧ZZ∧(H8 n s n_1 n_2 n_3 n_4 n_5 xs)∧(H9 n s n_1 n_2 n_3 n_4 n_5 G)∧(plF (List.take (x.toNat + (1:Nat)) G) [n_2,n_3,n_4,n_5]=plF (List.take (x.toNat + (1:Nat)) G) [n_2,n_3,n_4,n_5]∧bdP (mgP2 G xs_1 x x_2) (1:Int)=bdP (mgP2 G xs_1 x y) (1:Int)∧bdP (mgP2 G xs_1 x x_2) (2:Int)=bdP (mgP2 G xs_1 x y) (2:Int)∧bdP (mgP2 G xs_1 x x_2) (3:Int)=bdP (mgP2 G
 xs_1 x y) (3:Int)∧bdP (mgP2 G xs_1 x x_2) (4:Int)=bdP (mgP2 G xs_1 x y) (4:Int)∧bdP (mgP2 G xs_1 x x_2) (5:Int)=bdP (mgP2 G xs_1 x y) (5:Int)∧bdP (mgP2 G xs_1 x x_2) (6:Int)=bdP (mgP2 G xs_1 x y) (6:Int)∧(decide ¬mInt (vmP (mgP2 G xs_1 x x_2)) (7:Int)=n_15)=bdP (mgP2 G xs_1 x y) (7:Int)∧bdP (mgP2 G xs_1 x x_2) (8:Int)=bdP (mgP2 G xs_1 x y) (8:Int)∧bdP (mgP2 G xs_1 x x_2) (9:Int)=bdP (mgP2 G xs_1 x
 y) (9:Int)∧bdP (mgP2 G xs_1 x x_2) (10:Int)=bdP (mgP2 G xs_1 x y) (10:Int)∧bdP (mgP2 G xs_1 x x_2) (11:Int)=bdP (mgP2 G xs_1 x y) (11:Int)∧True)∧mPut (vmP (mgP2 G xs_1 x x_2)) (7:Int) (AV.int .i64 n_15)=vmP (mgP2 G xs_1 x y)∧True else False else False else bif decide ((vmP (mgP2 G xs_1 x x_2)).length≤(140737488355327:Nat)) then bif decide (rng .i64 (x_2 + (1:Int))) then ∃ y,Mg2 G xs_1 x y∧(mg10 G
 xs_1 f false n n_1 n_2 n_3 n_4 n_5 s xs x).m y < (mg10 G xs_1 f false n n_1 n_2 n_3 n_4 n_5 s xs x).m x_2∧((True∧xs_1=xs_1)∧(↑xs_1.length:Int)=(↑xs_1.length:Int)∧x_2 + (1:Int)=y∧(0:Nat)=0∧(0:Nat)=0∧(0:Nat)=0∧True∧(0:Nat)=0∧((bif f then f=true else True)∧G=G)∧(↑G.length:Int)=(↑G.length:Int)∧x=x∧True)∧ZZ∧(H8 n s n_1 n_2 n_3 n_4 n_5 xs)∧(H9 n s n_1 n_2 n_3 n_4 n_5 G)∧(plF (List.take (x.toNat +
 (1:Nat)) G) [n_2,n_3,n_4,n_5]=plF (List.take (x.toNat + (1:Nat)) G) [n_2,n_3,n_4,n_5]∧bdP (mgP2 G xs_1 x x_2) (1:Int)=bdP (mgP2 G xs_1 x y) (1:Int)∧bdP (mgP2 G xs_1 x x_2) (2:Int)=bdP (mgP2 G xs_1 x y) (2:Int)∧bdP (mgP2 G xs_1 x x_2) (3:Int)=bdP (mgP2 G xs_1 x y) (3:Int)∧bdP (mgP2 G xs_1 x x_2) (4:Int)=bdP (mgP2 G xs_1 x y) (4:Int)∧bdP (mgP2 G xs_1 x x_2) (5:Int)=bdP (mgP2 G xs_1 x y) (5:Int)∧bdP
 (mgP2 G xs_1 x x_2) (6:Int)=bdP (mgP2 G xs_1 x y) (6:Int)∧false=bdP (mgP2 G xs_1 x y) (7:Int)∧bdP (mgP2 G xs_1 x x_2) (8:Int)=bdP (mgP2 G xs_1 x y) (8:Int)∧bdP (mgP2 G xs_1 x x_2) (9:Int)=bdP (mgP2 G xs_1 x y) (9:Int)∧bdP (mgP2 G xs_1 x x_2) (10:Int)=bdP (mgP2 G xs_1 x y) (10:Int)∧bdP (mgP2 G xs_1 x x_2) (11:Int)=bdP (mgP2 G xs_1 x y) (11:Int)∧True)∧mPut (vmP (mgP2 G xs_1 x x_2)) (7:Int) (AV.int
 .i64 n_15)=vmP (mgP2 G xs_1 x y)∧True else False else False)∧(Mg3 G xs_1 x x_2 n_15 (8:Int)→bif bdP (mgP2 G xs_1 x x_2) (8:Int) then bif decide ((vmP (mgP2 G xs_1 x x_2)).length≤(140737488355327:Nat)) then bif decide (rng .i64 (x_2 + (1:Int))) then ∃ y,Mg2 G xs_1 x y∧(mg10 G xs_1 f false n n_1 n_2 n_3 n_4 n_5 s xs x).m y < (mg10 G xs_1 f false n n_1 n_2 n_3 n_4 n_5 s xs x).m
 x_2∧((True∧xs_1=xs_1)∧(↑xs_1.length:Int)=(↑xs_1.length:Int)∧x_2 + (1:Int)=y∧(0:Nat)=0∧(0:Nat)=0∧(0:Nat)=0∧True∧(0:Nat)=0∧((bif f then f=true else True)∧G=G)∧(↑G.length:Int)=(↑G.length:Int)∧x=x∧True)∧ZZ∧(H8 n s n_1 n_2 n_3 n_4 n_5 xs)∧(H9 n s n_1 n_2 n_3 n_4 n_5 G)∧(plF (List.take (x.toNat + (1:Nat)) G) [n_2,n_3,n_4,n_5]=plF (List.take (x.toNat + (1:Nat)) G) [n_2,n_3,n_4,n_5]∧bdP (mgP2 G xs_1 x x_2)
 (1:Int)=bdP (mgP2 G xs_1 x y) (1:Int)∧bdP (mgP2 G xs_1 x x_2) (2:Int)=bdP (mgP2 G xs_1 x y) (2:Int)∧bdP (mgP2 G xs_1 x x_2) (3:Int)=bdP (mgP2 G xs_1 x y) (3:Int)∧bdP (mgP2 G xs_1 x x_2) (4:Int)=bdP (mgP2 G xs_1 x y) (4:Int)∧bdP (mgP2 G xs_1 x x_2) (5:Int)=bdP (mgP2 G xs_1 x y) (5:Int)∧bdP (mgP2 G xs_1 x x_2) (6:Int)=bdP (mgP2 G xs_1 x y) (6:Int)∧bdP (mgP2 G xs_1 x x_2) (7:Int)=bdP (mgP2 G xs_1 x y)
 (7:Int)∧true=bdP (mgP2 G xs_1 x y) (8:Int)∧bdP (mgP2 G xs_1 x x_2) (9:Int)=bdP (mgP2 G xs_1 x y) (9:Int)∧bdP (mgP2 G xs_1 x x_2) (10:Int)=bdP (mgP2 G xs_1 x y) (10:Int)∧bdP (mgP2 G xs_1 x x_2) (11:Int)=bdP (mgP2 G xs_1 x y) (11:Int)∧True)∧mPut (vmP (mgP2 G xs_1 x x_2)) (8:Int) (AV.int .i64 n_15)=vmP (mgP2 G xs_1 x y)∧True else False else False else bif mHas (vmP (mgP2 G xs_1 x x_2)) (8:Int) then
 bif decide ((vmP (mgP2 G xs_1 x x_2)).length≤(140737488355327:Nat)) then bif decide (rng .i64 (x_2 + (1:Int))) then ∃ y,Mg2 G xs_1 x y∧(mg10 G xs_1 f false n n_1 n_2 n_3 n_4 n_5 s xs x).m y < (mg10 G xs_1 f false n n_1 n_2 n_3 n_4 n_5 s xs x).m x_2∧((True∧xs_1=xs_1)∧(↑xs_1.length:Int)=(↑xs_1.length:Int)∧x_2 + (1:Int)=y∧(0:Nat)=0∧(0:Nat)=0∧(0:Nat)=0∧True∧(0:Nat)=0∧((bif f then f=true else
 True)∧G=G)∧(↑G.length:Int)=(↑G.length:Int)∧x=x∧True)∧ZZ∧(H8 n s n_1 n_2 n_3 n_4 n_5 xs)∧(H9 n s n_1 n_2 n_3 n_4 n_5 G)∧(plF (List.take (x.toNat + (1:Nat)) G) [n_2,n_3,n_4,n_5]=plF (List.take (x.toNat + (1:Nat)) G) [n_2,n_3,n_4,n_5]∧bdP (mgP2 G xs_1 x x_2) (1:Int)=bdP (mgP2 G xs_1 x y) (1:Int)∧bdP (mgP2 G xs_1 x x_2) (2:Int)=bdP (mgP2 G xs_1 x y) (2:Int)∧bdP (mgP2 G xs_1 x x_2) (3:Int)=bdP (mgP2 G
 xs_1 x y) (3:Int)∧bdP (mgP2 G xs_1 x x_2) (4:Int)=bdP (mgP2 G xs_1 x y) (4:Int)∧bdP (mgP2 G xs_1 x x_2) (5:Int)=bdP (mgP2 G xs_1 x y) (5:Int)∧bdP (mgP2 G xs_1 x x_2) (6:Int)=bdP (mgP2 G xs_1 x y) (6:Int)∧bdP (mgP2 G xs_1 x x_2) (7:Int)=bdP (mgP2 G xs_1 x y) (7:Int)∧(decide ¬mInt (vmP (mgP2 G xs_1 x x_2)) (8:Int)=n_15)=bdP (mgP2 G xs_1 x y) (8:Int)∧bdP (mgP2 G xs_1 x x_2) (9:Int)=bdP (mgP2 G xs_1 x
 y) (9:Int)∧bdP (mgP2 G xs_1 x x_2) (10:Int)=bdP (mgP2 G xs_1 x y) (10:Int)∧bdP (mgP2 G xs_1 x x_2) (11:Int)=bdP (mgP2 G xs_1 x y) (11:Int)∧True)∧mPut (vmP (mgP2 G xs_1 x x_2)) (8:Int) (AV.int .i64 n_15)=vmP (mgP2 G xs_1 x y)∧True else False else False else bif decide ((vmP (mgP2 G xs_1 x x_2)).length≤(140737488355327:Nat)) then bif decide (rng .i64 (x_2 + (1:Int))) then ∃ y,Mg2 G xs_1 x y∧(mg10 G
 xs_1 f false n n_1 n_2 n_3 n_4 n_5 s xs x).m y < (mg10 G xs_1 f false n n_1 n_2 n_3 n_4 n_5 s xs x).m x_2∧((True∧xs_1=xs_1)∧(↑xs_1.length:Int)=(↑xs_1.length:Int)∧x_2 + (1:Int)=y∧(0:Nat)=0∧(0:Nat)=0∧(0:Nat)=0∧True∧(0:Nat)=0∧((bif f then f=true else True)∧G=G)∧(↑G.length:Int)=(↑G.length:Int)∧x=x∧True)∧ZZ∧(H8 n s n_1 n_2 n_3 n_4 n_5 xs)∧(H9 n s n_1 n_2 n_3 n_4 n_5 G)∧(plF (List.take (x.toNat +
 (1:Nat)) G) [n_2,n_3,n_4,n_5]=plF (List.take (x.toNat + (1:Nat)) G) [n_2,n_3,n_4,n_5]∧bdP (mgP2 G xs_1 x x_2) (1:Int)=bdP (mgP2 G xs_1 x y) (1:Int)∧bdP (mgP2 G xs_1 x x_2) (2:Int)=bdP (mgP2 G xs_1 x y) (2:Int)∧bdP (mgP2 G xs_1 x x_2) (3:Int)=bdP (mgP2 G xs_1 x y) (3:Int)∧bdP (mgP2 G xs_1 x x_2) (4:Int)=bdP (mgP2 G xs_1 x y) (4:Int)∧bdP (mgP2 G xs_1 x x_2) (5:Int)=bdP (mgP2 G xs_1 x y) (5:Int)∧bdP
 (mgP2 G xs_1 x x_2) (6:Int)=bdP (mgP2 G xs_1 x y) (6:Int)∧bdP (mgP2 G xs_1 x x_2) (7:Int)=bdP (mgP2 G xs_1 x y) (7:Int)∧false=bdP (mgP2 G xs_1 x y) (8:Int)∧bdP (mgP2 G xs_1 x x_2) (9:Int)=bdP (mgP2 G xs_1 x y) (9:Int)∧bdP (mgP2 G xs_1 x x_2) (10:Int)=bdP (mgP2 G xs_1 x y) (10:Int)∧bdP (mgP2 G xs_1 x x_2) (11:Int)=bdP (mgP2 G xs_1 x y) (11:Int)∧True)∧mPut (vmP (mgP2 G xs_1 x x_2)) (8:Int) (AV.int
 .i64 n_15)=vmP (mgP2 G xs_1 x y)∧True else False else False)∧(Mg3 G xs_1 x x_2 n_15 (9:Int)→bif bdP (mgP2 G xs_1 x x_2) (9:Int) then bif decide ((vmP (mgP2 G xs_1 x x_2)).length≤(140737488355327:Nat)) then bif decide (rng .i64 (x_2 + (1:Int))) then ∃ y,Mg2 G xs_1 x y∧(mg10 G xs_1 f false n n_1 n_2 n_3 n_4 n_5 s xs x).m y < (mg10 G xs_1 f false n n_1 n_2 n_3 n_4 n_5 s xs x).m
 x_2∧((True∧xs_1=xs_1)∧(↑xs_1.length:Int)=(↑xs_1.length:Int)∧x_2 + (1:Int)=y∧(0:Nat)=0∧(0:Nat)=0∧(0:Nat)=0∧True∧(0:Nat)=0∧((bif f then f=true else True)∧G=G)∧(↑G.length:Int)=(↑G.length:Int)∧x=x∧True)∧ZZ∧(H8 n s n_1 n_2 n_3 n_4 n_5 xs)∧(H9 n s n_1 n_2 n_3 n_4 n_5 G)∧(plF (List.take (x.toNat + (1:Nat)) G) [n_2,n_3,n_4,n_5]=plF (List.take (x.toNat + (1:Nat)) G) [n_2,n_3,n_4,n_5]∧bdP (mgP2 G xs_1 x x_2)
 (1:Int)=bdP (mgP2 G xs_1 x y) (1:Int)∧bdP (mgP2 G xs_1 x x_2) (2:Int)=bdP (mgP2 G xs_1 x y) (2:Int)∧bdP (mgP2 G xs_1 x x_2) (3:Int)=bdP (mgP2 G xs_1 x y) (3:Int)∧bdP (mgP2 G xs_1 x x_2) (4:Int)=bdP (mgP2 G xs_1 x y) (4:Int)∧bdP (mgP2 G xs_1 x x_2) (5:Int)=bdP (mgP2 G xs_1 x y) (5:Int)∧bdP (mgP2 G xs_1 x x_2) (6:Int)=bdP (mgP2 G xs_1 x y) (6:Int)∧bdP (mgP2 G xs_1 x x_2) (7:Int)=bdP (mgP2 G xs_1 x y)
 (7:Int)∧bdP (mgP2 G xs_1 x x_2) (8:Int)=bdP (mgP2 G xs_1 x y) (8:Int)∧true=bdP (mgP2 G xs_1 x y) (9:Int)∧bdP (mgP2 G xs_1 x x_2) (10:Int)=bdP (mgP2 G xs_1 x y) (10:Int)∧bdP (mgP2 G xs_1 x x_2) (11:Int)=bdP (mgP2 G xs_1 x y) (11:Int)∧True)∧mPut (vmP (mgP2 G xs_1 x x_2)) (9:Int) (AV.int .i64 n_15)=vmP (mgP2 G xs_1 x y)∧True else False else False else bif mHas (vmP (mgP2 G xs_1 x x_2)) (9:Int) then
 bif decide ((vmP (mgP2 G xs_1 x x_2)).length≤(140737488355327:Nat)) then bif decide (rng .i64 (x_2 + (1:Int))) then ∃ y,Mg2 G xs_1 x y∧(mg10 G xs_1 f false n n_1 n_2 n_3 n_4 n_5 s xs x).m y < (mg10 G xs_1 f false n n_1 n_2 n_3 n_4 n_5 s xs x).m x_2∧((True∧xs_1=xs_1)∧(↑xs_1.length:Int)=(↑xs_1.length:Int)∧x_2 + (1:Int)=y∧(0:Nat)=0∧(0:Nat)=0∧(0:Nat)=0∧True∧(0:Nat)=0∧((bif f then f=true else
 True)∧G=G)∧(↑G.length:Int)=(↑G.length:Int)∧x=x∧True)∧ZZ∧(H8 n s n_1 n_2 n_3 n_4 n_5 xs)∧(H9 n s n_1 n_2 n_3 n_4 n_5 G)∧(plF (List.take (x.toNat + (1:Nat)) G) [n_2,n_3,n_4,n_5]=plF (List.take (x.toNat + (1:Nat)) G) [n_2,n_3,n_4,n_5]∧bdP (mgP2 G xs_1 x x_2) (1:Int)=bdP (mgP2 G xs_1 x y) (1:Int)∧bdP (mgP2 G xs_1 x x_2) (2:Int)=bdP (mgP2 G xs_1 x y) (2:Int)∧bdP (mgP2 G xs_1 x x_2) (3:Int)=bdP (mgP2 G
 xs_1 x y) (3:Int)∧bdP (mgP2 G xs_1 x x_2) (4:Int)=bdP (mgP2 G xs_1 x y) (4:Int)∧bdP (mgP2 G xs_1 x x_2) (5:Int)=bdP (mgP2 G xs_1 x y) (5:Int)∧bdP (mgP2 G xs_1 x x_2) (6:Int)=bdP (mgP2 G xs_1 x y) (6:Int)∧bdP (mgP2 G xs_1 x x_2) (7:Int)=bdP (mgP2 G xs_1 x y) (7:Int)∧bdP (mgP2 G xs_1 x x_2) (8:Int)=bdP (mgP2 G xs_1 x y) (8:Int)∧(decide ¬mInt (vmP (mgP2 G xs_1 x x_2)) (9:Int)=n_15)=bdP (mgP2 G xs_1 x
 y) (9:Int)∧bdP (mgP2 G xs_1 x x_2) (10:Int)=bdP (mgP2 G xs_1 x y) (10:Int)∧bdP (mgP2 G xs_1 x x_2) (11:Int)=bdP (mgP2 G xs_1 x y) (11:Int)∧True)∧mPut (vmP (mgP2 G xs_1 x x_2)) (9:Int) (AV.int .i64 n_15)=vmP (mgP2 G xs_1 x y)∧True else False else False else bif decide ((vmP (mgP2 G xs_1 x x_2)).length≤(140737488355327:Nat)) then bif decide (rng .i64 (x_2 + (1:Int))) then ∃ y,Mg2 G xs_1 x y∧(mg10 G
 xs_1 f false n n_1 n_2 n_3 n_4 n_5 s xs x).m y < (mg10 G xs_1 f false n n_1 n_2 n_3 n_4 n_5 s xs x).m x_2∧((True∧xs_1=xs_1)∧(↑xs_1.length:Int)=(↑xs_1.length:Int)∧x_2 + (1:Int)=y∧(0:Nat)=0∧(0:Nat)=0∧(0:Nat)=0∧True∧(0:Nat)=0∧((bif f then f=true else True)∧G=G)∧(↑G.length:Int)=(↑G.length:Int)∧x=x∧True)∧ZZ∧(H8 n s n_1 n_2 n_3 n_4 n_5 xs)∧(H9 n s n_1 n_2 n_3 n_4 n_5 G)∧(plF (List.take (x.toNat +
 (1:Nat)) G) [n_2,n_3,n_4,n_5]=plF (List.take (x.toNat + (1:Nat)) G) [n_2,n_3,n_4,n_5]∧bdP (mgP2 G xs_1 x x_2) (1:Int)=bdP (mgP2 G xs_1 x y) (1:Int)∧bdP (mgP2 G xs_1 x x_2) (2:Int)=bdP (mgP2 G xs_1 x y) (2:Int)∧bdP (mgP2 G xs_1 x x_2) (3:Int)=bdP (mgP2 G xs_1 x y) (3:Int)∧bdP (mgP2 G xs_1 x x_2) (4:Int)=bdP (mgP2 G xs_1 x y) (4:Int)∧bdP (mgP2 G xs_1 x x_2) (5:Int)=bdP (mgP2 G xs_1 x y) (5:Int)∧bdP
 (mgP2 G xs_1 x x_2) (6:Int)=bdP (mgP2 G xs_1 x y) (6:Int)∧bdP (mgP2 G xs_1 x x_2) (7:Int)=bdP (mgP2 G xs_1 x y) (7:Int)∧bdP (mgP2 G xs_1 x x_2) (8:Int)=bdP (mgP2 G xs_1 x y) (8:Int)∧false=bdP (mgP2 G xs_1 x y) (9:Int)∧bdP (mgP2 G xs_1 x x_2) (10:Int)=bdP (mgP2 G xs_1 x y) (10:Int)∧bdP (mgP2 G xs_1 x x_2) (11:Int)=bdP (mgP2 G xs_1 x y) (11:Int)∧True)∧mPut (vmP (mgP2 G xs_1 x x_2)) (9:Int) (AV.int
 .i64 n_15)=vmP (mgP2 G xs_1 x y)∧True else False else False)∧(Mg3 G xs_1 x x_2 n_15 (10:Int)→bif bdP (mgP2 G xs_1 x x_2) (10:Int) then bif decide ((vmP (mgP2 G xs_1 x x_2)).length≤(140737488355327:Nat)) then bif decide (rng .i64 (x_2 + (1:Int))) then ∃ y,Mg2 G xs_1 x y∧(mg10 G xs_1 f false n n_1 n_2 n_3 n_4 n_5 s xs x).m y < (mg10 G xs_1 f false n n_1 n_2 n_3 n_4 n_5 s xs x).m
 x_2∧((True∧xs_1=xs_1)∧(↑xs_1.length:Int)=(↑xs_1.length:Int)∧x_2 + (1:Int)=y∧(0:Nat)=0∧(0:Nat)=0∧(0:Nat)=0∧True∧(0:Nat)=0∧((bif f then f=true else True)∧G=G)∧(↑G.length:Int)=(↑G.length:Int)∧x=x∧True)∧ZZ∧(H8 n s n_1 n_2 n_3 n_4 n_5 xs)∧(H9 n s n_1 n_2 n_3 n_4 n_5 G)∧(plF (List.take (x.toNat + (1:Nat)) G) [n_2,n_3,n_4,n_5]=plF (List.take (x.toNat + (1:Nat)) G) [n_2,n_3,n_4,n_5]∧bdP (mgP2 G xs_1 x x_2)
 (1:Int)=bdP (mgP2 G xs_1 x y) (1:Int)∧bdP (mgP2 G xs_1 x x_2) (2:Int)=bdP (mgP2 G xs_1 x y) (2:Int)∧bdP (mgP2 G xs_1 x x_2) (3:Int)=bdP (mgP2 G xs_1 x y) (3:Int)∧bdP (mgP2 G xs_1 x x_2) (4:Int)=bdP (mgP2 G xs_1 x y) (4:Int)∧bdP (mgP2 G xs_1 x x_2) (5:Int)=bdP (mgP2 G xs_1 x y) (5:Int)∧bdP (mgP2 G xs_1 x x_2) (6:Int)=bdP (mgP2 G xs_1 x y) (6:Int)∧bdP (mgP2 G xs_1 x x_2) (7:Int)=bdP (mgP2 G xs_1 x y)
 (7:Int)∧bdP (mgP2 G xs_1 x x_2) (8:Int)=bdP (mgP2 G xs_1 x y) (8:Int)∧bdP (mgP2 G xs_1 x x_2) (9:Int)=bdP (mgP2 G xs_1 x y) (9:Int)∧true=bdP (mgP2 G xs_1 x y) (10:Int)∧bdP (mgP2 G xs_1 x x_2) (11:Int)=bdP (mgP2 G xs_1 x y) (11:Int)∧True)∧mPut (vmP (mgP2 G xs_1 x x_2)) (10:Int) (AV.int .i64 n_15)=vmP (mgP2 G xs_1 x y)∧True else False else False else bif mHas (vmP (mgP2 G xs_1 x x_2)) (10:Int) then
 bif decide ((vmP (mgP2 G xs_1 x x_2)).length≤(140737488355327:Nat)) then bif decide (rng .i64 (x_2 + (1:Int))) then ∃ y,Mg2 G xs_1 x y∧(mg10 G xs_1 f false n n_1 n_2 n_3 n_4 n_5 s xs x).m y < (mg10 G xs_1 f false n n_1 n_2 n_3 n_4 n_5 s xs x).m x_2∧((True∧xs_1=xs_1)∧(↑xs_1.length:Int)=(↑xs_1.length:Int)∧x_2 + (1:Int)=y∧(0:Nat)=0∧(0:Nat)=0∧(0:Nat)=0∧True∧(0:Nat)=0∧((bif f then f=true else
 True)∧G=G)∧(↑G.length:Int)=(↑G.length:Int)∧x=x∧True)∧ZZ∧(H8 n s n_1 n_2 n_3 n_4 n_5 xs)∧(H9 n s n_1 n_2 n_3 n_4 n_5 G)∧(plF (List.take (x.toNat + (1:Nat)) G) [n_2,n_3,n_4,n_5]=plF (List.take (x.toNat + (1:Nat)) G) [n_2,n_3,n_4,n_5]∧bdP (mgP2 G xs_1 x x_2) (1:Int)=bdP (mgP2 G xs_1 x y) (1:Int)∧bdP (mgP2 G xs_1 x x_2) (2:Int)=bdP (mgP2 G xs_1 x y) (2:Int)∧bdP (mgP2 G xs_1 x x_2) (3:Int)=bdP (mgP2 G
 xs_1 x y) (3:Int)∧bdP (mgP2 G xs_1 x x_2) (4:Int)=bdP (mgP2 G xs_1 x y) (4:Int)∧bdP (mgP2 G xs_1 x x_2) (5:Int)=bdP (mgP2 G xs_1 x y) (5:Int)∧bdP (mgP2 G xs_1 x x_2) (6:Int)=bdP (mgP2 G xs_1 x y) (6:Int)∧bdP (mgP2 G xs_1 x x_2) (7:Int)=bdP (mgP2 G xs_1 x y) (7:Int)∧bdP (mgP2 G xs_1 x x_2) (8:Int)=bdP (mgP2 G xs_1 x y) (8:Int)∧bdP (mgP2 G xs_1 x x_2) (9:Int)=bdP (mgP2 G xs_1 x y) (9:Int)∧(decide
 ¬mInt (vmP (mgP2 G xs_1 x x_2)) (10:Int)=n_15)=bdP (mgP2 G xs_1 x y) (10:Int)∧bdP (mgP2 G xs_1 x x_2) (11:Int)=bdP (mgP2 G xs_1 x y) (11:Int)∧True)∧mPut (vmP (mgP2 G xs_1 x x_2)) (10:Int) (AV.int .i64 n_15)=vmP (mgP2 G xs_1 x y)∧True else False else False else bif decide ((vmP (mgP2 G xs_1 x x_2)).length≤(140737488355327:Nat)) then bif decide (rng .i64 (x_2 + (1:Int))) then ∃ y,Mg2 G xs_1 x
 y∧(mg10 G xs_1 f false n n_1 n_2 n_3 n_4 n_5 s xs x).m y < (mg10 G xs_1 f false n n_1 n_2 n_3 n_4 n_5 s xs x).m x_2∧((True∧xs_1=xs_1)∧(↑xs_1.length:Int)=(↑xs_1.length:Int)∧x_2 + (1:Int)=y∧(0:Nat)=0∧(0:Nat)=0∧(0:Nat)=0∧True∧(0:Nat)=0∧((bif f then f=true else True)∧G=G)∧(↑G.length:Int)=(↑G.length:Int)∧x=x∧True)∧ZZ∧(H8 n s n_1 n_2 n_3 n_4 n_5 xs)∧(H9 n s n_1 n_2 n_3 n_4 n_5 G)∧(plF (List.take (x.toNat
 + (1:Nat)) G) [n_2,n_3,n_4,n_5]=plF (List.take (x.toNat + (1:Nat)) G) [n_2,n_3,n_4,n_5]∧bdP (mgP2 G xs_1 x x_2) (1:Int)=bdP (mgP2 G xs_1 x y) (1:Int)∧bdP (mgP2 G xs_1 x x_2) (2:Int)=bdP (mgP2 G xs_1 x y) (2:Int)∧bdP (mgP2 G xs_1 x x_2) (3:Int)=bdP (mgP2 G xs_1 x y) (3:Int)∧bdP (mgP2 G xs_1 x x_2) (4:Int)=bdP (mgP2 G xs_1 x y) (4:Int)∧bdP (mgP2 G xs_1 x x_2) (5:Int)=bdP (mgP2 G xs_1 x y) (5:Int)∧bdP
 (mgP2 G xs_1 x x_2) (6:Int)=bdP (mgP2 G xs_1 x y) (6:Int)∧bdP (mgP2 G xs_1 x x_2) (7:Int)=bdP (mgP2 G xs_1 x y) (7:Int)∧bdP (mgP2 G xs_1 x x_2) (8:Int)=bdP (mgP2 G xs_1 x y) (8:Int)∧bdP (mgP2 G xs_1 x x_2) (9:Int)=bdP (mgP2 G xs_1 x y) (9:Int)∧false=bdP (mgP2 G xs_1 x y) (10:Int)∧bdP (mgP2 G xs_1 x x_2) (11:Int)=bdP (mgP2 G xs_1 x y) (11:Int)∧True)∧mPut (vmP (mgP2 G xs_1 x x_2)) (10:Int) (AV.int
 .i64 n_15)=vmP (mgP2 G xs_1 x y)∧True else False else False)∧(Mg3 G xs_1 x x_2 n_15 (11:Int)→bif bdP (mgP2 G xs_1 x x_2) (11:Int) then bif decide ((vmP (mgP2 G xs_1 x x_2)).length≤(140737488355327:Nat)) then bif decide (rng .i64 (x_2 + (1:Int))) then ∃ y,Mg2 G xs_1 x y∧(mg10 G xs_1 f false n n_1 n_2 n_3 n_4 n_5 s xs x).m y < (mg10 G xs_1 f false n n_1 n_2 n_3 n_4 n_5 s xs x).m
 x_2∧((True∧xs_1=xs_1)∧(↑xs_1.length:Int)=(↑xs_1.length:Int)∧x_2 + (1:Int)=y∧(0:Nat)=0∧(0:Nat)=0∧(0:Nat)=0∧True∧(0:Nat)=0∧((bif f then f=true else True)∧G=G)∧(↑G.length:Int)=(↑G.length:Int)∧x=x∧True)∧ZZ∧(H8 n s n_1 n_2 n_3 n_4 n_5 xs)∧(H9 n s n_1 n_2 n_3 n_4 n_5 G)∧(plF (List.take (x.toNat + (1:Nat)) G) [n_2,n_3,n_4,n_5]=plF (List.take (x.toNat + (1:Nat)) G) [n_2,n_3,n_4,n_5]∧bdP (mgP2 G xs_1 x x_2)
 (1:Int)=bdP (mgP2 G xs_1 x y) (1:Int)∧bdP (mgP2 G xs_1 x x_2) (2:Int)=bdP (mgP2 G xs_1 x y) (2:Int)∧bdP (mgP2 G xs_1 x x_2) (3:Int)=bdP (mgP2 G xs_1 x y) (3:Int)∧bdP (mgP2 G xs_1 x x_2) (4:Int)=bdP (mgP2 G xs_1 x y) (4:Int)∧bdP (mgP2 G xs_1 x x_2) (5:Int)=bdP (mgP2 G xs_1 x y) (5:Int)∧bdP (mgP2 G xs_1 x x_2) (6:Int)=bdP (mgP2 G xs_1 x y) (6:Int)∧bdP (mgP2 G xs_1 x x_2) (7:Int)=bdP (mgP2 G xs_1 x y)
 (7:Int)∧bdP (mgP2 G xs_1 x x_2) (8:Int)=bdP (mgP2 G xs_1 x y) (8:Int)∧bdP (mgP2 G xs_1 x x_2) (9:Int)=bdP (mgP2 G xs_1 x y) (9:Int)∧bdP (mgP2 G xs_1 x x_2) (10:Int)=bdP (mgP2 G xs_1 x y) (10:Int)∧true=bdP (mgP2 G xs_1 x y) (11:Int)∧True)∧mPut (vmP (mgP2 G xs_1 x x_2)) (11:Int) (AV.int .i64 n_15)=vmP (mgP2 G xs_1 x y)∧True else False else False else bif mHas (vmP (mgP2 G xs_1 x x_2)) (11:Int) then
 bif decide ((vmP (mgP2 G xs_1 x x_2)).length≤(140737488355327:Nat)) then bif decide (rng .i64 (x_2 + (1:Int))) then ∃ y,Mg2 G xs_1 x y∧(mg10 G xs_1 f false n n_1 n_2 n_3 n_4 n_5 s xs x).m y < (mg10 G xs_1 f false n n_1 n_2 n_3 n_4 n_5 s xs x).m x_2∧((True∧xs_1=xs_1)∧(↑xs_1.length:Int)=(↑xs_1.length:Int)∧x_2 + (1:Int)=y∧(0:Nat)=0∧(0:Nat)=0∧(0:Nat)=0∧True∧(0:Nat)=0∧((bif f then f=true else
 True)∧G=G)∧(↑G.length:Int)=(↑G.length:Int)∧x=x∧True)∧ZZ∧(H8 n s n_1 n_2 n_3 n_4 n_5 xs)∧(H9 n s n_1 n_2 n_3 n_4 n_5 G)∧(plF (List.take (x.toNat + (1:Nat)) G) [n_2,n_3,n_4,n_5]=plF (List.take (x.toNat + (1:Nat)) G) [n_2,n_3,n_4,n_5]∧bdP (mgP2 G xs_1 x x_2) (1:Int)=bdP (mgP2 G xs_1 x y) (1:Int)∧bdP (mgP2 G xs_1 x x_2) (2:Int)=bdP (mgP2 G xs_1 x y) (2:Int)∧bdP (mgP2 G xs_1 x x_2) (3:Int)=bdP (mgP2 G
 xs_1 x y) (3:Int)∧bdP (mgP2 G xs_1 x x_2) (4:Int)=bdP (mgP2 G xs_1 x y) (4:Int)∧bdP (mgP2 G xs_1 x x_2) (5:Int)=bdP (mgP2 G xs_1 x y) (5:Int)∧bdP (mgP2 G xs_1 x x_2) (6:Int)=bdP (mgP2 G xs_1 x y) (6:Int)∧bdP (mgP2 G xs_1 x x_2) (7:Int)=bdP (mgP2 G xs_1 x y) (7:Int)∧bdP (mgP2 G xs_1 x x_2) (8:Int)=bdP (mgP2 G xs_1 x y) (8:Int)∧bdP (mgP2 G xs_1 x x_2) (9:Int)=bdP (mgP2 G xs_1 x y) (9:Int)∧bdP (mgP2 G
 xs_1 x x_2) (10:Int)=bdP (mgP2 G xs_1 x y) (10:Int)∧(decide ¬mInt (vmP (mgP2 G xs_1 x x_2)) (11:Int)=n_15)=bdP (mgP2 G xs_1 x y) (11:Int)∧True)∧mPut (vmP (mgP2 G xs_1 x x_2)) (11:Int) (AV.int .i64 n_15)=vmP (mgP2 G xs_1 x y)∧True else False else False else bif decide ((vmP (mgP2 G xs_1 x x_2)).length≤(140737488355327:Nat)) then bif decide (rng .i64 (x_2 + (1:Int))) then ∃ y,Mg2 G xs_1 x y∧(mg10 G
 xs_1 f false n n_1 n_2 n_3 n_4 n_5 s xs x).m y < (mg10 G xs_1 f false n n_1 n_2 n_3 n_4 n_5 s xs x).m x_2∧((True∧xs_1=xs_1)∧(↑xs_1.length:Int)=(↑xs_1.length:Int)∧x_2 + (1:Int)=y∧(0:Nat)=0∧(0:Nat)=0∧(0:Nat)=0∧True∧(0:Nat)=0∧((bif f then f=true else True)∧G=G)∧(↑G.length:Int)=(↑G.length:Int)∧x=x∧True)∧ZZ∧(H8 n s n_1 n_2 n_3 n_4 n_5 xs)∧(H9 n s n_1 n_2 n_3 n_4 n_5 G)∧(plF (List.take (x.toNat +
 (1:Nat)) G) [n_2,n_3,n_4,n_5]=plF (List.take (x.toNat + (1:Nat)) G) [n_2,n_3,n_4,n_5]∧bdP (mgP2 G xs_1 x x_2) (1:Int)=bdP (mgP2 G xs_1 x y) (1:Int)∧bdP (mgP2 G xs_1 x x_2) (2:Int)=bdP (mgP2 G xs_1 x y) (2:Int)∧bdP (mgP2 G xs_1 x x_2) (3:Int)=bdP (mgP2 G xs_1 x y) (3:Int)∧bdP (mgP2 G xs_1 x x_2) (4:Int)=bdP (mgP2 G xs_1 x y) (4:Int)∧bdP (mgP2 G xs_1 x x_2) (5:Int)=bdP (mgP2 G xs_1 x y) (5:Int)∧bdP
 (mgP2 G xs_1 x x_2) (6:Int)=bdP (mgP2 G xs_1 x y) (6:Int)∧bdP (mgP2 G xs_1 x x_2) (7:Int)=bdP (mgP2 G xs_1 x y) (7:Int)∧bdP (mgP2 G xs_1 x x_2) (8:Int)=bdP (mgP2 G xs_1 x y) (8:Int)∧bdP (mgP2 G xs_1 x x_2) (9:Int)=bdP (mgP2 G xs_1 x y) (9:Int)∧bdP (mgP2 G xs_1 x x_2) (10:Int)=bdP (mgP2 G xs_1 x y) (10:Int)∧false=bdP (mgP2 G xs_1 x y) (11:Int)∧True)∧mPut (vmP (mgP2 G xs_1 x x_2)) (11:Int) (AV.int
 .i64 n_15)=vmP (mgP2 G xs_1 x y)∧True else False else False)∧True else False else bif decide (rng .i64 (x + (1:Int))) then ∃ y,Mg1 G y∧(mg6 G f n n_1 n_2 n_3 n_4 n_5 s xs).m y < (mg6 G f n n_1 n_2 n_3 n_4 n_5 s xs).m x∧((0:Nat)=0∧(0:Nat)=0∧(0:Nat)=0∧True∧(0:Nat)=0∧((bif f then f=true else True)∧G=G)∧(↑G.length:Int)=(↑G.length:Int)∧x + (1:Int)=y∧True)∧ZZ∧(H8 n s n_1 n_2 n_3 n_4 n_5 xs)∧(H9 n s n_1
 n_2 n_3 n_4 n_5 G)∧(plF (List.take (x.toNat + (1:Nat)) G) [n_2,n_3,n_4,n_5]=plF (List.take (Int.toNat y) G) [n_2,n_3,n_4,n_5]∧B11 (mgP2 G xs_1 x x_2) (rdsF (List.take (Int.toNat y) G)))∧vmP (mgP2 G xs_1 x x_2)=vmP (rdsF (List.take (Int.toNat y) G))∧True else False else False else (bif plF (List.take x.toNat G) [n_2,n_3,n_4,n_5] then ∃ x_1,OneM x_1∧((0:Nat)=0∧(0:Nat)=0∧True∧(0:Nat)=0∧True)∧ZZ∧(H8 n
 s n_1 n_2 n_3 n_4 n_5 xs)∧(n=n∧s=s∧n_1=n_1∧(0:Int)=mgI (plF G [n_2,n_3,n_4,n_5]) n_2∧(0:Int)=mgI (plF G [n_2,n_3,n_4,n_5]) n_3∧(0:Int)=mgI (plF G [n_2,n_3,n_4,n_5]) n_4∧(0:Int)=mgI (plF G [n_2,n_3,n_4,n_5]) n_5∧True∧(↑G.length:Int)=(↑G.length:Int)∧True∧True)∧(plF (List.take x.toNat G) [n_2,n_3,n_4,n_5]=plF G [n_2,n_3,n_4,n_5]∧B11 (rdsF (List.take x.toNat G)) (rdsF G))∧vmP (rdsF (List.take x.toNat
 G))=vmP (rdsF G)∧True else ∃ x_1,OneM x_1∧((0:Nat)=0∧(0:Nat)=0∧True∧(0:Nat)=0∧True)∧ZZ∧(H8 n s n_1 n_2 n_3 n_4 n_5 xs)∧(n=n∧s=s∧n_1=n_1∧n_2=mgI (plF G [n_2,n_3,n_4,n_5]) n_2∧n_3=mgI (plF G [n_2,n_3,n_4,n_5]) n_3∧n_4=mgI (plF G [n_2,n_3,n_4,n_5]) n_4∧n_5=mgI (plF G [n_2,n_3,n_4,n_5]) n_5∧True∧(↑G.length:Int)=(↑G.length:Int)∧True∧True)∧(plF (List.take x.toNat G) [n_2,n_3,n_4,n_5]=plF G
 [n_2,n_3,n_4,n_5]∧B11 (rdsF (List.take x.toNat G)) (rdsF G))∧vmP (rdsF (List.take x.toNat G))=vmP (rdsF G)∧True)∧∀ (x : PUnit),OneM x→(∃ x,Mg4 G x∧((0:Nat)=0∧(0:Nat)=0∧True∧(plF G [n_2,n_3,n_4,n_5]=plF G [n_2,n_3,n_4,n_5]∧B11 (rdsF G) (rdsF G))∧(0:Int)=x∧True)∧ZZ∧(H8 n s n_1 n_2 n_3 n_4 n_5 xs)∧(n=n∧s=s∧n_1=n_1∧mgI (plF G [n_2,n_3,n_4,n_5]) n_2=mgI (plF G [n_2,n_3,n_4,n_5]) n_2∧mgI (plF G
 [n_2,n_3,n_4,n_5]) n_3=mgI (plF G [n_2,n_3,n_4,n_5]) n_3∧mgI (plF G [n_2,n_3,n_4,n_5]) n_4=mgI (plF G [n_2,n_3,n_4,n_5]) n_4∧mgI (plF G [n_2,n_3,n_4,n_5]) n_5=mgI (plF G [n_2,n_3,n_4,n_5]) n_5∧(0:Nat)=List.length (rdN G (Int.toNat x))∧(↑G.length:Int)=(↑G.length:Int)∧(0:Nat)=List.length (ctN G (Int.toNat x))∧True)∧vmP (rdsF G)=vmP (rdsF G)∧[]=rdN G (Int.toNat x)∧[]=ctN G (Int.toNat x)∧True)∧∀
 (x:Int),Mg4 G x→(bif decide (x < (12:Int)) then ∃ x_1,Mg5 x x_1∧((0:Nat)=0∧(0:Nat)=0∧True∧(plF G [n_2,n_3,n_4,n_5]=plF G [n_2,n_3,n_4,n_5]∧B11 (rdsF G) (rdsF G))∧x=x_1∧True)∧((0:Int)=0∧{ data := #[] }=(⟨#[]⟩ : ByteArray)∧(0:Int)=0∧(0:Int)=0∧(0:Int)=0∧(0:Int)=0∧(0:Int)=0∧True∧(0:Int)=0∧True∧True)∧(H8 n s n_1 n_2 n_3 n_4 n_5 xs)∧(n=n∧s=s∧n_1=n_1∧mgI (plF G [n_2,n_3,n_4,n_5]) n_2=mgI (plF G
 [n_2,n_3,n_4,n_5]) n_2∧mgI (plF G [n_2,n_3,n_4,n_5]) n_3=mgI (plF G [n_2,n_3,n_4,n_5]) n_3∧mgI (plF G [n_2,n_3,n_4,n_5]) n_4=mgI (plF G [n_2,n_3,n_4,n_5]) n_4∧mgI (plF G [n_2,n_3,n_4,n_5]) n_5=mgI (plF G [n_2,n_3,n_4,n_5]) n_5∧List.length (rdN G x.toNat)=List.length (rdN G (Int.toNat x_1))∧(↑G.length:Int)=(↑G.length:Int)∧List.length (ctN G x.toNat)=List.length (ctN G (Int.toNat x_1))∧True)∧vmP
 (rdsF G)=vmP (rdsF G)∧rdN G x.toNat=rdN G (Int.toNat x_1)∧ctN G x.toNat=ctN G (Int.toNat x_1)∧True else bif decide (List.length (rdN G x.toNat)=List.length (rdN G x.toNat)) then bif decide (List.length (ctN G x.toNat)=List.length (ctN G x.toNat)) then n=gK G∧s=gN G∧n_1=gT G∧mgI (plF G [n_2,n_3,n_4,n_5]) n_2=gQ G (0:Nat)∧mgI (plF G [n_2,n_3,n_4,n_5]) n_3=gQ G (1:Nat)∧mgI (plF G [n_2,n_3,n_4,n_5])
 n_4=gQ G (2:Nat)∧mgI (plF G [n_2,n_3,n_4,n_5]) n_5=gQ G (3:Nat)∧(True∧rdN G x.toNat=gR G)∧(↑G.length:Int)=(↑G.length:Int)∧(True∧ctN G x.toNat=gC G)∧True else False else False)∧(∀ (x_1:Int),Mg5 x x_1→x_1=(0:Int)∨x_1=(1:Int)∨x_1=(2:Int)∨x_1=(3:Int)∨x_1=(4:Int)∨x_1=(5:Int)∨x_1=(6:Int)∨x_1=(7:Int)∨x_1=(8:Int)∨x_1=(9:Int)∨x_1=(10:Int)∨x_1=(11:Int)∨False)∧(Mg5 x (0:Int)→bif plF G
 [n_2,n_3,n_4,n_5] then ∃ y,Mg4 G y∧(mg20 G n n_1 n_2 n_3 n_4 n_5 s xs).m y < (mg20 G n n_1 n_2 n_3 n_4 n_5 s xs).m x∧((0:Nat)=0∧(0:Nat)=0∧True∧(plF G [n_2,n_3,n_4,n_5]=plF G [n_2,n_3,n_4,n_5]∧B11 (rdsF G) (rdsF G))∧(1:Int)=y∧True)∧ZZ∧(H8 n s n_1 n_2 n_3 n_4 n_5 xs)∧(n=n∧s=s∧n_1=n_1∧mgI (plF G [n_2,n_3,n_4,n_5]) n_2=mgI (plF G [n_2,n_3,n_4,n_5]) n_2∧mgI (plF G [n_2,n_3,n_4,n_5]) n_3=mgI (plF G
 [n_2,n_3,n_4,n_5]) n_3∧mgI (plF G [n_2,n_3,n_4,n_5]) n_4=mgI (plF G [n_2,n_3,n_4,n_5]) n_4∧mgI (plF G [n_2,n_3,n_4,n_5]) n_5=mgI (plF G [n_2,n_3,n_4,n_5]) n_5∧List.length (rdN G (0:Nat))=List.length (rdN G (Int.toNat y))∧(↑G.length:Int)=(↑G.length:Int)∧(ctN G (0:Nat) ++ [[AV.int .i64 (0:Int)]]).length=List.length (ctN G (Int.toNat y))∧True)∧vmP (rdsF G)=vmP (rdsF G)∧rdN G (0:Nat)=rdN G (Int.toNat
 y)∧ctN G (0:Nat) ++ [[AV.int .i64 (0:Int)]]=ctN G (Int.toNat y)∧True else bif mHas (vmP (rdsF G)) (0:Int) then ∃ y,Mg4 G y∧(mg20 G n n_1 n_2 n_3 n_4 n_5 s xs).m y < (mg20 G n n_1 n_2 n_3 n_4 n_5 s xs).m x∧((0:Nat)=0∧(0:Nat)=0∧True∧(plF G [n_2,n_3,n_4,n_5]=plF G [n_2,n_3,n_4,n_5]∧B11 (rdsF G) (rdsF G))∧(1:Int)=y∧True)∧ZZ∧(H8 n s n_1 n_2 n_3 n_4 n_5 xs)∧(n=n∧s=s∧n_1=n_1∧mgI (plF G [n_2,n_3,n_4,n_5])
 n_2=mgI (plF G [n_2,n_3,n_4,n_5]) n_2∧mgI (plF G [n_2,n_3,n_4,n_5]) n_3=mgI (plF G [n_2,n_3,n_4,n_5]) n_3∧mgI (plF G [n_2,n_3,n_4,n_5]) n_4=mgI (plF G [n_2,n_3,n_4,n_5]) n_4∧mgI (plF G [n_2,n_3,n_4,n_5]) n_5=mgI (plF G [n_2,n_3,n_4,n_5]) n_5∧(rdN G (0:Nat) ++ [[AV.int .i64 (0:Int),.int .i64 (mInt (vmP (rdsF G)) (0:Int))]]).length=List.length (rdN G (Int.toNat
 y))∧(↑G.length:Int)=(↑G.length:Int)∧List.length (ctN G (0:Nat))=List.length (ctN G (Int.toNat y))∧True)∧vmP (rdsF G)=vmP (rdsF G)∧rdN G (0:Nat) ++ [[AV.int .i64 (0:Int),.int .i64 (mInt (vmP (rdsF G)) (0:Int))]]=rdN G (Int.toNat y)∧ctN G (0:Nat)=ctN G (Int.toNat y)∧True else ∃ y,Mg4 G y∧(mg20 G n n_1 n_2 n_3 n_4 n_5 s xs).m y < (mg20 G n n_1 n_2 n_3 n_4 n_5 s xs).m x∧((0:Nat)=0∧(0:Nat)=0∧True∧(plF G
 [n_2,n_3,n_4,n_5]=plF G [n_2,n_3,n_4,n_5]∧B11 (rdsF G) (rdsF G))∧(1:Int)=y∧True)∧ZZ∧(H8 n s n_1 n_2 n_3 n_4 n_5 xs)∧(n=n∧s=s∧n_1=n_1∧mgI (plF G [n_2,n_3,n_4,n_5]) n_2=mgI (plF G [n_2,n_3,n_4,n_5]) n_2∧mgI (plF G [n_2,n_3,n_4,n_5]) n_3=mgI (plF G [n_2,n_3,n_4,n_5]) n_3∧mgI (plF G [n_2,n_3,n_4,n_5]) n_4=mgI (plF G [n_2,n_3,n_4,n_5]) n_4∧mgI (plF G [n_2,n_3,n_4,n_5]) n_5=mgI (plF G [n_2,n_3,n_4,n_5])
 n_5∧List.length (rdN G (0:Nat))=List.length (rdN G (Int.toNat y))∧(↑G.length:Int)=(↑G.length:Int)∧List.length (ctN G (0:Nat))=List.length (ctN G (Int.toNat y))∧True)∧vmP (rdsF G)=vmP (rdsF G)∧rdN G (0:Nat)=rdN G (Int.toNat y)∧ctN G (0:Nat)=ctN G (Int.toNat y)∧True)∧(Mg5 x (1:Int)→bif bdP (rdsF G) (1:Int) then bif decide (List.length (ctN G (1:Nat))=List.length (ctN G (1:Nat))∧List.length (ctN G
 (1:Nat)) + (1:Nat)≤(9223372036854775807:Nat)∧(List.length (ctN G (1:Nat)) + (1:Nat)) * (8:Nat)≤(140737488355328:Nat)) then ∃ y,Mg4 G y∧(mg20 G n n_1 n_2 n_3 n_4 n_5 s xs).m y < (mg20 G n n_1 n_2 n_3 n_4 n_5 s xs).m x∧((0:Nat)=0∧(0:Nat)=0∧True∧(plF G [n_2,n_3,n_4,n_5]=plF G [n_2,n_3,n_4,n_5]∧B11 (rdsF G) (rdsF G))∧(2:Int)=y∧True)∧ZZ∧(H8 n s n_1 n_2 n_3 n_4 n_5 xs)∧(n=n∧s=s∧n_1=n_1∧mgI (plF G
 [n_2,n_3,n_4,n_5]) n_2=mgI (plF G [n_2,n_3,n_4,n_5]) n_2∧mgI (plF G [n_2,n_3,n_4,n_5]) n_3=mgI (plF G [n_2,n_3,n_4,n_5]) n_3∧mgI (plF G [n_2,n_3,n_4,n_5]) n_4=mgI (plF G [n_2,n_3,n_4,n_5]) n_4∧mgI (plF G [n_2,n_3,n_4,n_5]) n_5=mgI (plF G [n_2,n_3,n_4,n_5]) n_5∧List.length (rdN G (1:Nat))=List.length (rdN G (Int.toNat y))∧(↑G.length:Int)=(↑G.length:Int)∧(ctN G (1:Nat) ++ [[AV.int .i64
 (1:Int)]]).length=List.length (ctN G (Int.toNat y))∧True)∧vmP (rdsF G)=vmP (rdsF G)∧rdN G (1:Nat)=rdN G (Int.toNat y)∧ctN G (1:Nat) ++ [[AV.int .i64 (1:Int)]]=ctN G (Int.toNat y)∧True else False else bif mHas (vmP (rdsF G)) (1:Int) then bif decide (List.length (rdN G (1:Nat))=List.length (rdN G (1:Nat))∧List.length (rdN G (1:Nat)) + [[AV.int .i64 (1:Int),.int .i64 (mInt (vmP (rdsF G))
 (1:Int))]].length≤(9223372036854775807:Nat)∧(List.length (rdN G (1:Nat)) + [[AV.int .i64 (1:Int),.int .i64 (mInt (vmP (rdsF G)) (1:Int))]].length) * (16:Nat)≤(140737488355328:Nat)) then ∃ y,Mg4 G y∧(mg20 G n n_1 n_2 n_3 n_4 n_5 s xs).m y < (mg20 G n n_1 n_2 n_3 n_4 n_5 s xs).m x∧((0:Nat)=0∧(0:Nat)=0∧True∧(plF G [n_2,n_3,n_4,n_5]=plF G [n_2,n_3,n_4,n_5]∧B11 (rdsF G) (rdsF
 G))∧(2:Int)=y∧True)∧ZZ∧(H8 n s n_1 n_2 n_3 n_4 n_5 xs)∧(n=n∧s=s∧n_1=n_1∧mgI (plF G [n_2,n_3,n_4,n_5]) n_2=mgI (plF G [n_2,n_3,n_4,n_5]) n_2∧mgI (plF G [n_2,n_3,n_4,n_5]) n_3=mgI (plF G [n_2,n_3,n_4,n_5]) n_3∧mgI (plF G [n_2,n_3,n_4,n_5]) n_4=mgI (plF G [n_2,n_3,n_4,n_5]) n_4∧mgI (plF G [n_2,n_3,n_4,n_5]) n_5=mgI (plF G [n_2,n_3,n_4,n_5]) n_5∧(rdN G (1:Nat) ++ [[AV.int .i64 (1:Int),.int .i64 (mInt
 (vmP (rdsF G)) (1:Int))]]).length=List.length (rdN G (Int.toNat y))∧(↑G.length:Int)=(↑G.length:Int)∧List.length (ctN G (1:Nat))=List.length (ctN G (Int.toNat y))∧True)∧vmP (rdsF G)=vmP (rdsF G)∧rdN G (1:Nat) ++ [[AV.int .i64 (1:Int),.int .i64 (mInt (vmP (rdsF G)) (1:Int))]]=rdN G (Int.toNat y)∧ctN G (1:Nat)=ctN G (Int.toNat y)∧True else False else ∃ y,Mg4 G y∧(mg20 G n n_1 n_2 n_3 n_4 n_5 s xs).m y
 < (mg20 G n n_1 n_2 n_3 n_4 n_5 s xs).m x∧((0:Nat)=0∧(0:Nat)=0∧True∧(plF G [n_2,n_3,n_4,n_5]=plF G [n_2,n_3,n_4,n_5]∧B11 (rdsF G) (rdsF G))∧(2:Int)=y∧True)∧ZZ∧(H8 n s n_1 n_2 n_3 n_4 n_5 xs)∧(n=n∧s=s∧n_1=n_1∧mgI (plF G [n_2,n_3,n_4,n_5]) n_2=mgI (plF G [n_2,n_3,n_4,n_5]) n_2∧mgI (plF G [n_2,n_3,n_4,n_5]) n_3=mgI (plF G [n_2,n_3,n_4,n_5]) n_3∧mgI (plF G [n_2,n_3,n_4,n_5]) n_4=mgI (plF G
 [n_2,n_3,n_4,n_5]) n_4∧mgI (plF G [n_2,n_3,n_4,n_5]) n_5=mgI (plF G [n_2,n_3,n_4,n_5]) n_5∧List.length (rdN G (1:Nat))=List.length (rdN G (Int.toNat y))∧(↑G.length:Int)=(↑G.length:Int)∧List.length (ctN G (1:Nat))=List.length (ctN G (Int.toNat y))∧True)∧vmP (rdsF G)=vmP (rdsF G)∧rdN G (1:Nat)=rdN G (Int.toNat y)∧ctN G (1:Nat)=ctN G (Int.toNat y)∧True)∧(Mg5 x (2:Int)→bif bdP (rdsF G) (2:Int) then bif
 decide (List.length (ctN G (2:Nat))=List.length (ctN G (2:Nat))∧List.length (ctN G (2:Nat)) + (1:Nat)≤(9223372036854775807:Nat)∧(List.length (ctN G (2:Nat)) + (1:Nat)) * (8:Nat)≤(140737488355328:Nat)) then ∃ y,Mg4 G y∧(mg20 G n n_1 n_2 n_3 n_4 n_5 s xs).m y < (mg20 G n n_1 n_2 n_3 n_4 n_5 s xs).m x∧((0:Nat)=0∧(0:Nat)=0∧True∧(plF G [n_2,n_3,n_4,n_5]=plF G [n_2,n_3,n_4,n_5]∧B11 (rdsF G) (rdsF
 G))∧(3:Int)=y∧True)∧ZZ∧(H8 n s n_1 n_2 n_3 n_4 n_5 xs)∧(n=n∧s=s∧n_1=n_1∧mgI (plF G [n_2,n_3,n_4,n_5]) n_2=mgI (plF G [n_2,n_3,n_4,n_5]) n_2∧mgI (plF G [n_2,n_3,n_4,n_5]) n_3=mgI (plF G [n_2,n_3,n_4,n_5]) n_3∧mgI (plF G [n_2,n_3,n_4,n_5]) n_4=mgI (plF G [n_2,n_3,n_4,n_5]) n_4∧mgI (plF G [n_2,n_3,n_4,n_5]) n_5=mgI (plF G [n_2,n_3,n_4,n_5]) n_5∧List.length (rdN G (2:Nat))=List.length (rdN G (Int.toNat
 y))∧(↑G.length:Int)=(↑G.length:Int)∧(ctN G (2:Nat) ++ [[AV.int .i64 (2:Int)]]).length=List.length (ctN G (Int.toNat y))∧True)∧vmP (rdsF G)=vmP (rdsF G)∧rdN G (2:Nat)=rdN G (Int.toNat y)∧ctN G (2:Nat) ++ [[AV.int .i64 (2:Int)]]=ctN G (Int.toNat y)∧True else False else bif mHas (vmP (rdsF G)) (2:Int) then bif decide (List.length (rdN G (2:Nat))=List.length (rdN G (2:Nat))∧List.length (rdN G (2:Nat))
 + [[AV.int .i64 (2:Int),.int .i64 (mInt (vmP (rdsF G)) (2:Int))]].length≤(9223372036854775807:Nat)∧(List.length (rdN G (2:Nat)) + [[AV.int .i64 (2:Int),.int .i64 (mInt (vmP (rdsF G)) (2:Int))]].length) * (16:Nat)≤(140737488355328:Nat)) then ∃ y,Mg4 G y∧(mg20 G n n_1 n_2 n_3 n_4 n_5 s xs).m y < (mg20 G n n_1 n_2 n_3 n_4 n_5 s xs).m x∧((0:Nat)=0∧(0:Nat)=0∧True∧(plF G [n_2,n_3,n_4,n_5]=plF G
 [n_2,n_3,n_4,n_5]∧B11 (rdsF G) (rdsF G))∧(3:Int)=y∧True)∧ZZ∧(H8 n s n_1 n_2 n_3 n_4 n_5 xs)∧(n=n∧s=s∧n_1=n_1∧mgI (plF G [n_2,n_3,n_4,n_5]) n_2=mgI (plF G [n_2,n_3,n_4,n_5]) n_2∧mgI (plF G [n_2,n_3,n_4,n_5]) n_3=mgI (plF G [n_2,n_3,n_4,n_5]) n_3∧mgI (plF G [n_2,n_3,n_4,n_5]) n_4=mgI (plF G [n_2,n_3,n_4,n_5]) n_4∧mgI (plF G [n_2,n_3,n_4,n_5]) n_5=mgI (plF G [n_2,n_3,n_4,n_5]) n_5∧(rdN G (2:Nat) ++
 [[AV.int .i64 (2:Int),.int .i64 (mInt (vmP (rdsF G)) (2:Int))]]).length=List.length (rdN G (Int.toNat y))∧(↑G.length:Int)=(↑G.length:Int)∧List.length (ctN G (2:Nat))=List.length (ctN G (Int.toNat y))∧True)∧vmP (rdsF G)=vmP (rdsF G)∧rdN G (2:Nat) ++ [[AV.int .i64 (2:Int),.int .i64 (mInt (vmP (rdsF G)) (2:Int))]]=rdN G (Int.toNat y)∧ctN G (2:Nat)=ctN G (Int.toNat y)∧True else False else ∃ y,Mg4 G
 y∧(mg20 G n n_1 n_2 n_3 n_4 n_5 s xs).m y < (mg20 G n n_1 n_2 n_3 n_4 n_5 s xs).m x∧((0:Nat)=0∧(0:Nat)=0∧True∧(plF G [n_2,n_3,n_4,n_5]=plF G [n_2,n_3,n_4,n_5]∧B11 (rdsF G) (rdsF G))∧(3:Int)=y∧True)∧ZZ∧(H8 n s n_1 n_2 n_3 n_4 n_5 xs)∧(n=n∧s=s∧n_1=n_1∧mgI (plF G [n_2,n_3,n_4,n_5]) n_2=mgI (plF G [n_2,n_3,n_4,n_5]) n_2∧mgI (plF G [n_2,n_3,n_4,n_5]) n_3=mgI (plF G [n_2,n_3,n_4,n_5]) n_3∧mgI (plF G
 [n_2,n_3,n_4,n_5]) n_4=mgI (plF G [n_2,n_3,n_4,n_5]) n_4∧mgI (plF G [n_2,n_3,n_4,n_5]) n_5=mgI (plF G [n_2,n_3,n_4,n_5]) n_5∧List.length (rdN G (2:Nat))=List.length (rdN G (Int.toNat y))∧(↑G.length:Int)=(↑G.length:Int)∧List.length (ctN G (2:Nat))=List.length (ctN G (Int.toNat y))∧True)∧vmP (rdsF G)=vmP (rdsF G)∧rdN G (2:Nat)=rdN G (Int.toNat y)∧ctN G (2:Nat)=ctN G (Int.toNat y)∧True)∧(Mg5 x
 (3:Int)→bif bdP (rdsF G) (3:Int) then bif decide (List.length (ctN G (3:Nat))=List.length (ctN G (3:Nat))∧List.length (ctN G (3:Nat)) + (1:Nat)≤(9223372036854775807:Nat)∧(List.length (ctN G (3:Nat)) + (1:Nat)) * (8:Nat)≤(140737488355328:Nat)) then ∃ y,Mg4 G y∧(mg20 G n n_1 n_2 n_3 n_4 n_5 s xs).m y < (mg20 G n n_1 n_2 n_3 n_4 n_5 s xs).m x∧((0:Nat)=0∧(0:Nat)=0∧True∧(plF G [n_2,n_3,n_4,n_5]=plF
 G [n_2,n_3,n_4,n_5]∧B11 (rdsF G) (rdsF G))∧(4:Int)=y∧True)∧ZZ∧(H8 n s n_1 n_2 n_3 n_4 n_5 xs)∧(n=n∧s=s∧n_1=n_1∧mgI (plF G [n_2,n_3,n_4,n_5]) n_2=mgI (plF G [n_2,n_3,n_4,n_5]) n_2∧mgI (plF G [n_2,n_3,n_4,n_5]) n_3=mgI (plF G [n_2,n_3,n_4,n_5]) n_3∧mgI (plF G [n_2,n_3,n_4,n_5]) n_4=mgI (plF G [n_2,n_3,n_4,n_5]) n_4∧mgI (plF G [n_2,n_3,n_4,n_5]) n_5=mgI (plF G [n_2,n_3,n_4,n_5]) n_5∧List.length (rdN G
 (3:Nat))=List.length (rdN G (Int.toNat y))∧(↑G.length:Int)=(↑G.length:Int)∧(ctN G (3:Nat) ++ [[AV.int .i64 (3:Int)]]).length=List.length (ctN G (Int.toNat y))∧True)∧vmP (rdsF G)=vmP (rdsF G)∧rdN G (3:Nat)=rdN G (Int.toNat y)∧ctN G (3:Nat) ++ [[AV.int .i64 (3:Int)]]=ctN G (Int.toNat y)∧True else False else bif mHas (vmP (rdsF G)) (3:Int) then bif decide (List.length (rdN G (3:Nat))=List.length (rdN
 G (3:Nat))∧List.length (rdN G (3:Nat)) + [[AV.int .i64 (3:Int),.int .i64 (mInt (vmP (rdsF G)) (3:Int))]].length≤(9223372036854775807:Nat)∧(List.length (rdN G (3:Nat)) + [[AV.int .i64 (3:Int),.int .i64 (mInt (vmP (rdsF G)) (3:Int))]].length) * (16:Nat)≤(140737488355328:Nat)) then ∃ y,Mg4 G y∧(mg20 G n n_1 n_2 n_3 n_4 n_5 s xs).m y < (mg20 G n n_1 n_2 n_3 n_4 n_5 s xs).m
 x∧((0:Nat)=0∧(0:Nat)=0∧True∧(plF G [n_2,n_3,n_4,n_5]=plF G [n_2,n_3,n_4,n_5]∧B11 (rdsF G) (rdsF G))∧(4:Int)=y∧True)∧ZZ∧(H8 n s n_1 n_2 n_3 n_4 n_5 xs)∧(n=n∧s=s∧n_1=n_1∧mgI (plF G [n_2,n_3,n_4,n_5]) n_2=mgI (plF G [n_2,n_3,n_4,n_5]) n_2∧mgI (plF G [n_2,n_3,n_4,n_5]) n_3=mgI (plF G [n_2,n_3,n_4,n_5]) n_3∧mgI (plF G [n_2,n_3,n_4,n_5]) n_4=mgI (plF G [n_2,n_3,n_4,n_5]) n_4∧mgI (plF G [n_2,n_3,n_4,n_5])
 n_5=mgI (plF G [n_2,n_3,n_4,n_5]) n_5∧(rdN G (3:Nat) ++ [[AV.int .i64 (3:Int),.int .i64 (mInt (vmP (rdsF G)) (3:Int))]]).length=List.length (rdN G (Int.toNat y))∧(↑G.length:Int)=(↑G.length:Int)∧List.length (ctN G (3:Nat))=List.length (ctN G (Int.toNat y))∧True)∧vmP (rdsF G)=vmP (rdsF G)∧rdN G (3:Nat) ++ [[AV.int .i64 (3:Int),.int .i64 (mInt (vmP (rdsF G)) (3:Int))]]=rdN G (Int.toNat y)∧ctN G
 (3:Nat)=ctN G (Int.toNat y)∧True else False else ∃ y,Mg4 G y∧(mg20 G n n_1 n_2 n_3 n_4 n_5 s xs).m y < (mg20 G n n_1 n_2 n_3 n_4 n_5 s xs).m x∧((0:Nat)=0∧(0:Nat)=0∧True∧(plF G [n_2,n_3,n_4,n_5]=plF G [n_2,n_3,n_4,n_5]∧B11 (rdsF G) (rdsF G))∧(4:Int)=y∧True)∧ZZ∧(H8 n s n_1 n_2 n_3 n_4 n_5 xs)∧(n=n∧s=s∧n_1=n_1∧mgI (plF G [n_2,n_3,n_4,n_5]) n_2=mgI (plF G [n_2,n_3,n_4,n_5]) n_2∧mgI (plF G
 [n_2,n_3,n_4,n_5]) n_3=mgI (plF G [n_2,n_3,n_4,n_5]) n_3∧mgI (plF G [n_2,n_3,n_4,n_5]) n_4=mgI (plF G [n_2,n_3,n_4,n_5]) n_4∧mgI (plF G [n_2,n_3,n_4,n_5]) n_5=mgI (plF G [n_2,n_3,n_4,n_5]) n_5∧List.length (rdN G (3:Nat))=List.length (rdN G (Int.toNat y))∧(↑G.length:Int)=(↑G.length:Int)∧List.length (ctN G (3:Nat))=List.length (ctN G (Int.toNat y))∧True)∧vmP (rdsF G)=vmP (rdsF G)∧rdN G (3:Nat)=rdN G
 (Int.toNat y)∧ctN G (3:Nat)=ctN G (Int.toNat y)∧True)∧(Mg5 x (4:Int)→bif bdP (rdsF G) (4:Int) then bif decide (List.length (ctN G (4:Nat))=List.length (ctN G (4:Nat))∧List.length (ctN G (4:Nat)) + (1:Nat)≤(9223372036854775807:Nat)∧(List.length (ctN G (4:Nat)) + (1:Nat)) * (8:Nat)≤(140737488355328:Nat)) then ∃ y,Mg4 G y∧(mg20 G n n_1 n_2 n_3 n_4 n_5 s xs).m y < (mg20 G n n_1 n_2 n_3 n_4 n_5 s
 xs).m x∧((0:Nat)=0∧(0:Nat)=0∧True∧(plF G [n_2,n_3,n_4,n_5]=plF G [n_2,n_3,n_4,n_5]∧B11 (rdsF G) (rdsF G))∧(5:Int)=y∧True)∧ZZ∧(H8 n s n_1 n_2 n_3 n_4 n_5 xs)∧(n=n∧s=s∧n_1=n_1∧mgI (plF G [n_2,n_3,n_4,n_5]) n_2=mgI (plF G [n_2,n_3,n_4,n_5]) n_2∧mgI (plF G [n_2,n_3,n_4,n_5]) n_3=mgI (plF G [n_2,n_3,n_4,n_5]) n_3∧mgI (plF G [n_2,n_3,n_4,n_5]) n_4=mgI (plF G [n_2,n_3,n_4,n_5]) n_4∧mgI (plF G
 [n_2,n_3,n_4,n_5]) n_5=mgI (plF G [n_2,n_3,n_4,n_5]) n_5∧List.length (rdN G (4:Nat))=List.length (rdN G (Int.toNat y))∧(↑G.length:Int)=(↑G.length:Int)∧(ctN G (4:Nat) ++ [[AV.int .i64 (4:Int)]]).length=List.length (ctN G (Int.toNat y))∧True)∧vmP (rdsF G)=vmP (rdsF G)∧rdN G (4:Nat)=rdN G (Int.toNat y)∧ctN G (4:Nat) ++ [[AV.int .i64 (4:Int)]]=ctN G (Int.toNat y)∧True else False else bif mHas (vmP
 (rdsF G)) (4:Int) then bif decide (List.length (rdN G (4:Nat))=List.length (rdN G (4:Nat))∧List.length (rdN G (4:Nat)) + [[AV.int .i64 (4:Int),.int .i64 (mInt (vmP (rdsF G)) (4:Int))]].length≤(9223372036854775807:Nat)∧(List.length (rdN G (4:Nat)) + [[AV.int .i64 (4:Int),.int .i64 (mInt (vmP (rdsF G)) (4:Int))]].length) * (16:Nat)≤(140737488355328:Nat)) then ∃ y,Mg4 G y∧(mg20 G n n_1 n_2 n_3 n_4
 n_5 s xs).m y < (mg20 G n n_1 n_2 n_3 n_4 n_5 s xs).m x∧((0:Nat)=0∧(0:Nat)=0∧True∧(plF G [n_2,n_3,n_4,n_5]=plF G [n_2,n_3,n_4,n_5]∧B11 (rdsF G) (rdsF G))∧(5:Int)=y∧True)∧ZZ∧(H8 n s n_1 n_2 n_3 n_4 n_5 xs)∧(n=n∧s=s∧n_1=n_1∧mgI (plF G [n_2,n_3,n_4,n_5]) n_2=mgI (plF G [n_2,n_3,n_4,n_5]) n_2∧mgI (plF G [n_2,n_3,n_4,n_5]) n_3=mgI (plF G [n_2,n_3,n_4,n_5]) n_3∧mgI (plF G [n_2,n_3,n_4,n_5]) n_4=mgI (plF
 G [n_2,n_3,n_4,n_5]) n_4∧mgI (plF G [n_2,n_3,n_4,n_5]) n_5=mgI (plF G [n_2,n_3,n_4,n_5]) n_5∧(rdN G (4:Nat) ++ [[AV.int .i64 (4:Int),.int .i64 (mInt (vmP (rdsF G)) (4:Int))]]).length=List.length (rdN G (Int.toNat y))∧(↑G.length:Int)=(↑G.length:Int)∧List.length (ctN G (4:Nat))=List.length (ctN G (Int.toNat y))∧True)∧vmP (rdsF G)=vmP (rdsF G)∧rdN G (4:Nat) ++ [[AV.int .i64 (4:Int),.int .i64 (mInt
 (vmP (rdsF G)) (4:Int))]]=rdN G (Int.toNat y)∧ctN G (4:Nat)=ctN G (Int.toNat y)∧True else False else ∃ y,Mg4 G y∧(mg20 G n n_1 n_2 n_3 n_4 n_5 s xs).m y < (mg20 G n n_1 n_2 n_3 n_4 n_5 s xs).m x∧((0:Nat)=0∧(0:Nat)=0∧True∧(plF G [n_2,n_3,n_4,n_5]=plF G [n_2,n_3,n_4,n_5]∧B11 (rdsF G) (rdsF G))∧(5:Int)=y∧True)∧ZZ∧(H8 n s n_1 n_2 n_3 n_4 n_5 xs)∧(n=n∧s=s∧n_1=n_1∧mgI (plF G [n_2,n_3,n_4,n_5]) n_2=mgI
 (plF G [n_2,n_3,n_4,n_5]) n_2∧mgI (plF G [n_2,n_3,n_4,n_5]) n_3=mgI (plF G [n_2,n_3,n_4,n_5]) n_3∧mgI (plF G [n_2,n_3,n_4,n_5]) n_4=mgI (plF G [n_2,n_3,n_4,n_5]) n_4∧mgI (plF G [n_2,n_3,n_4,n_5]) n_5=mgI (plF G [n_2,n_3,n_4,n_5]) n_5∧List.length (rdN G (4:Nat))=List.length (rdN G (Int.toNat y))∧(↑G.length:Int)=(↑G.length:Int)∧List.length (ctN G (4:Nat))=List.length (ctN G (Int.toNat y))∧True)∧vmP
 (rdsF G)=vmP (rdsF G)∧rdN G (4:Nat)=rdN G (Int.toNat y)∧ctN G (4:Nat)=ctN G (Int.toNat y)∧True)∧(Mg5 x (5:Int)→bif bdP (rdsF G) (5:Int) then bif decide (List.length (ctN G (5:Nat))=List.length (ctN G (5:Nat))∧List.length (ctN G (5:Nat)) + (1:Nat)≤(9223372036854775807:Nat)∧(List.length (ctN G (5:Nat)) + (1:Nat)) * (8:Nat)≤(140737488355328:Nat)) then ∃ y,Mg4 G y∧(mg20 G n n_1 n_2 n_3 n_4 n_5 s
 xs).m y < (mg20 G n n_1 n_2 n_3 n_4 n_5 s xs).m x∧((0:Nat)=0∧(0:Nat)=0∧True∧(plF G [n_2,n_3,n_4,n_5]=plF G [n_2,n_3,n_4,n_5]∧B11 (rdsF G) (rdsF G))∧(6:Int)=y∧True)∧ZZ∧(H8 n s n_1 n_2 n_3 n_4 n_5 xs)∧(n=n∧s=s∧n_1=n_1∧mgI (plF G [n_2,n_3,n_4,n_5]) n_2=mgI (plF G [n_2,n_3,n_4,n_5]) n_2∧mgI (plF G [n_2,n_3,n_4,n_5]) n_3=mgI (plF G [n_2,n_3,n_4,n_5]) n_3∧mgI (plF G [n_2,n_3,n_4,n_5]) n_4=mgI (plF G
 [n_2,n_3,n_4,n_5]) n_4∧mgI (plF G [n_2,n_3,n_4,n_5]) n_5=mgI (plF G [n_2,n_3,n_4,n_5]) n_5∧List.length (rdN G (5:Nat))=List.length (rdN G (Int.toNat y))∧(↑G.length:Int)=(↑G.length:Int)∧(ctN G (5:Nat) ++ [[AV.int .i64 (5:Int)]]).length=List.length (ctN G (Int.toNat y))∧True)∧vmP (rdsF G)=vmP (rdsF G)∧rdN G (5:Nat)=rdN G (Int.toNat y)∧ctN G (5:Nat) ++ [[AV.int .i64 (5:Int)]]=ctN G (Int.toNat y)∧True
 else False else bif mHas (vmP (rdsF G)) (5:Int) then bif decide (List.length (rdN G (5:Nat))=List.length (rdN G (5:Nat))∧List.length (rdN G (5:Nat)) + [[AV.int .i64 (5:Int),.int .i64 (mInt (vmP (rdsF G)) (5:Int))]].length≤(9223372036854775807:Nat)∧(List.length (rdN G (5:Nat)) + [[AV.int .i64 (5:Int),.int .i64 (mInt (vmP (rdsF G)) (5:Int))]].length) * (16:Nat)≤(140737488355328:Nat)) then ∃ y,Mg4
 G y∧(mg20 G n n_1 n_2 n_3 n_4 n_5 s xs).m y < (mg20 G n n_1 n_2 n_3 n_4 n_5 s xs).m x∧((0:Nat)=0∧(0:Nat)=0∧True∧(plF G [n_2,n_3,n_4,n_5]=plF G [n_2,n_3,n_4,n_5]∧B11 (rdsF G) (rdsF G))∧(6:Int)=y∧True)∧ZZ∧(H8 n s n_1 n_2 n_3 n_4 n_5 xs)∧(n=n∧s=s∧n_1=n_1∧mgI (plF G [n_2,n_3,n_4,n_5]) n_2=mgI (plF G [n_2,n_3,n_4,n_5]) n_2∧mgI (plF G [n_2,n_3,n_4,n_5]) n_3=mgI (plF G [n_2,n_3,n_4,n_5]) n_3∧mgI (plF G
 [n_2,n_3,n_4,n_5]) n_4=mgI (plF G [n_2,n_3,n_4,n_5]) n_4∧mgI (plF G [n_2,n_3,n_4,n_5]) n_5=mgI (plF G [n_2,n_3,n_4,n_5]) n_5∧(rdN G (5:Nat) ++ [[AV.int .i64 (5:Int),.int .i64 (mInt (vmP (rdsF G)) (5:Int))]]).length=List.length (rdN G (Int.toNat y))∧(↑G.length:Int)=(↑G.length:Int)∧List.length (ctN G (5:Nat))=List.length (ctN G (Int.toNat y))∧True)∧vmP (rdsF G)=vmP (rdsF G)∧rdN G (5:Nat) ++ [[AV.int
 .i64 (5:Int),.int .i64 (mInt (vmP (rdsF G)) (5:Int))]]=rdN G (Int.toNat y)∧ctN G (5:Nat)=ctN G (Int.toNat y)∧True else False else ∃ y,Mg4 G y∧(mg20 G n n_1 n_2 n_3 n_4 n_5 s xs).m y < (mg20 G n n_1 n_2 n_3 n_4 n_5 s xs).m x∧((0:Nat)=0∧(0:Nat)=0∧True∧(plF G [n_2,n_3,n_4,n_5]=plF G [n_2,n_3,n_4,n_5]∧B11 (rdsF G) (rdsF G))∧(6:Int)=y∧True)∧ZZ∧(H8 n s n_1 n_2 n_3 n_4 n_5 xs)∧(n=n∧s=s∧n_1=n_1∧mgI (plF G
 [n_2,n_3,n_4,n_5]) n_2=mgI (plF G [n_2,n_3,n_4,n_5]) n_2∧mgI (plF G [n_2,n_3,n_4,n_5]) n_3=mgI (plF G [n_2,n_3,n_4,n_5]) n_3∧mgI (plF G [n_2,n_3,n_4,n_5]) n_4=mgI (plF G [n_2,n_3,n_4,n_5]) n_4∧mgI (plF G [n_2,n_3,n_4,n_5]) n_5=mgI (plF G [n_2,n_3,n_4,n_5]) n_5∧List.length (rdN G (5:Nat))=List.length (rdN G (Int.toNat y))∧(↑G.length:Int)=(↑G.length:Int)∧List.length (ctN G (5:Nat))=List.length (ctN G
 (Int.toNat y))∧True)∧vmP (rdsF G)=vmP (rdsF G)∧rdN G (5:Nat)=rdN G (Int.toNat y)∧ctN G (5:Nat)=ctN G (Int.toNat y)∧True)∧(Mg5 x (6:Int)→bif bdP (rdsF G) (6:Int) then bif decide (List.length (ctN G (6:Nat))=List.length (ctN G (6:Nat))∧List.length (ctN G (6:Nat)) + (1:Nat)≤(9223372036854775807:Nat)∧(List.length (ctN G (6:Nat)) + (1:Nat)) * (8:Nat)≤(140737488355328:Nat)) then ∃ y,Mg4 G y∧(mg20 G n
 n_1 n_2 n_3 n_4 n_5 s xs).m y < (mg20 G n n_1 n_2 n_3 n_4 n_5 s xs).m x∧((0:Nat)=0∧(0:Nat)=0∧True∧(plF G [n_2,n_3,n_4,n_5]=plF G [n_2,n_3,n_4,n_5]∧B11 (rdsF G) (rdsF G))∧(7:Int)=y∧True)∧ZZ∧(H8 n s n_1 n_2 n_3 n_4 n_5 xs)∧(n=n∧s=s∧n_1=n_1∧mgI (plF G [n_2,n_3,n_4,n_5]) n_2=mgI (plF G [n_2,n_3,n_4,n_5]) n_2∧mgI (plF G [n_2,n_3,n_4,n_5]) n_3=mgI (plF G [n_2,n_3,n_4,n_5]) n_3∧mgI (plF G
 [n_2,n_3,n_4,n_5]) n_4=mgI (plF G [n_2,n_3,n_4,n_5]) n_4∧mgI (plF G [n_2,n_3,n_4,n_5]) n_5=mgI (plF G [n_2,n_3,n_4,n_5]) n_5∧List.length (rdN G (6:Nat))=List.length (rdN G (Int.toNat y))∧(↑G.length:Int)=(↑G.length:Int)∧(ctN G (6:Nat) ++ [[AV.int .i64 (6:Int)]]).length=List.length (ctN G (Int.toNat y))∧True)∧vmP (rdsF G)=vmP (rdsF G)∧rdN G (6:Nat)=rdN G (Int.toNat y)∧ctN G (6:Nat) ++ [[AV.int .i64
 (6:Int)]]=ctN G (Int.toNat y)∧True else False else bif mHas (vmP (rdsF G)) (6:Int) then bif decide (List.length (rdN G (6:Nat))=List.length (rdN G (6:Nat))∧List.length (rdN G (6:Nat)) + [[AV.int .i64 (6:Int),.int .i64 (mInt (vmP (rdsF G)) (6:Int))]].length≤(9223372036854775807:Nat)∧(List.length (rdN G (6:Nat)) + [[AV.int .i64 (6:Int),.int .i64 (mInt (vmP (rdsF G)) (6:Int))]].length) * (16:Nat) ≤
 (140737488355328:Nat)) then ∃ y,Mg4 G y∧(mg20 G n n_1 n_2 n_3 n_4 n_5 s xs).m y < (mg20 G n n_1 n_2 n_3 n_4 n_5 s xs).m x∧((0:Nat)=0∧(0:Nat)=0∧True∧(plF G [n_2,n_3,n_4,n_5]=plF G [n_2,n_3,n_4,n_5]∧B11 (rdsF G) (rdsF G))∧(7:Int)=y∧True)∧ZZ∧(H8 n s n_1 n_2 n_3 n_4 n_5 xs)∧(n=n∧s=s∧n_1=n_1∧mgI (plF G [n_2,n_3,n_4,n_5]) n_2=mgI (plF G [n_2,n_3,n_4,n_5]) n_2∧mgI (plF G [n_2,n_3,n_4,n_5]) n_3=mgI (plF G
 [n_2,n_3,n_4,n_5]) n_3∧mgI (plF G [n_2,n_3,n_4,n_5]) n_4=mgI (plF G [n_2,n_3,n_4,n_5]) n_4∧mgI (plF G [n_2,n_3,n_4,n_5]) n_5=mgI (plF G [n_2,n_3,n_4,n_5]) n_5∧(rdN G (6:Nat) ++ [[AV.int .i64 (6:Int),.int .i64 (mInt (vmP (rdsF G)) (6:Int))]]).length=List.length (rdN G (Int.toNat y))∧(↑G.length:Int)=(↑G.length:Int)∧List.length (ctN G (6:Nat))=List.length (ctN G (Int.toNat y))∧True)∧vmP (rdsF G)=vmP
 (rdsF G)∧rdN G (6:Nat) ++ [[AV.int .i64 (6:Int),.int .i64 (mInt (vmP (rdsF G)) (6:Int))]]=rdN G (Int.toNat y)∧ctN G (6:Nat)=ctN G (Int.toNat y)∧True else False else ∃ y,Mg4 G y∧(mg20 G n n_1 n_2 n_3 n_4 n_5 s xs).m y < (mg20 G n n_1 n_2 n_3 n_4 n_5 s xs).m x∧((0:Nat)=0∧(0:Nat)=0∧True∧(plF G [n_2,n_3,n_4,n_5]=plF G [n_2,n_3,n_4,n_5]∧B11 (rdsF G) (rdsF G))∧(7:Int)=y∧True)∧ZZ∧(H8 n s n_1 n_2 n_3 n_4
 n_5 xs)∧(n=n∧s=s∧n_1=n_1∧mgI (plF G [n_2,n_3,n_4,n_5]) n_2=mgI (plF G [n_2,n_3,n_4,n_5]) n_2∧mgI (plF G [n_2,n_3,n_4,n_5]) n_3=mgI (plF G [n_2,n_3,n_4,n_5]) n_3∧mgI (plF G [n_2,n_3,n_4,n_5]) n_4=mgI (plF G [n_2,n_3,n_4,n_5]) n_4∧mgI (plF G [n_2,n_3,n_4,n_5]) n_5=mgI (plF G [n_2,n_3,n_4,n_5]) n_5∧List.length (rdN G (6:Nat))=List.length (rdN G (Int.toNat
 y))∧(↑G.length:Int)=(↑G.length:Int)∧List.length (ctN G (6:Nat))=List.length (ctN G (Int.toNat y))∧True)∧vmP (rdsF G)=vmP (rdsF G)∧rdN G (6:Nat)=rdN G (Int.toNat y)∧ctN G (6:Nat)=ctN G (Int.toNat y)∧True)∧(Mg5 x (7:Int)→bif bdP (rdsF G) (7:Int) then bif decide (List.length (ctN G (7:Nat))=List.length (ctN G (7:Nat))∧List.length (ctN G (7:Nat)) + (1:Nat)≤(9223372036854775807:Nat)∧(List.length (ctN
 G (7:Nat)) + (1:Nat)) * (8:Nat)≤(140737488355328:Nat)) then ∃ y,Mg4 G y∧(mg20 G n n_1 n_2 n_3 n_4 n_5 s xs).m y < (mg20 G n n_1 n_2 n_3 n_4 n_5 s xs).m x∧((0:Nat)=0∧(0:Nat)=0∧True∧(plF G [n_2,n_3,n_4,n_5]=plF G [n_2,n_3,n_4,n_5]∧B11 (rdsF G) (rdsF G))∧(8:Int)=y∧True)∧ZZ∧(H8 n s n_1 n_2 n_3 n_4 n_5 xs)∧(n=n∧s=s∧n_1=n_1∧mgI (plF G [n_2,n_3,n_4,n_5]) n_2=mgI (plF G [n_2,n_3,n_4,n_5]) n_2∧mgI (plF G
 [n_2,n_3,n_4,n_5]) n_3=mgI (plF G [n_2,n_3,n_4,n_5]) n_3∧mgI (plF G [n_2,n_3,n_4,n_5]) n_4=mgI (plF G [n_2,n_3,n_4,n_5]) n_4∧mgI (plF G [n_2,n_3,n_4,n_5]) n_5=mgI (plF G [n_2,n_3,n_4,n_5]) n_5∧List.length (rdN G (7:Nat))=List.length (rdN G (Int.toNat y))∧(↑G.length:Int)=(↑G.length:Int)∧(ctN G (7:Nat) ++ [[AV.int .i64 (7:Int)]]).length=List.length (ctN G (Int.toNat y))∧True)∧vmP (rdsF G)=vmP (rdsF
 G)∧rdN G (7:Nat)=rdN G (Int.toNat y)∧ctN G (7:Nat) ++ [[AV.int .i64 (7:Int)]]=ctN G (Int.toNat y)∧True else False else bif mHas (vmP (rdsF G)) (7:Int) then bif decide (List.length (rdN G (7:Nat))=List.length (rdN G (7:Nat))∧List.length (rdN G (7:Nat)) + [[AV.int .i64 (7:Int),.int .i64 (mInt (vmP (rdsF G)) (7:Int))]].length≤(9223372036854775807:Nat)∧(List.length (rdN G (7:Nat)) + [[AV.int .i64
 (7:Int),.int .i64 (mInt (vmP (rdsF G)) (7:Int))]].length) * (16:Nat)≤(140737488355328:Nat)) then ∃ y,Mg4 G y∧(mg20 G n n_1 n_2 n_3 n_4 n_5 s xs).m y < (mg20 G n n_1 n_2 n_3 n_4 n_5 s xs).m x∧((0:Nat)=0∧(0:Nat)=0∧True∧(plF G [n_2,n_3,n_4,n_5]=plF G [n_2,n_3,n_4,n_5]∧B11 (rdsF G) (rdsF G))∧(8:Int)=y∧True)∧ZZ∧(H8 n s n_1 n_2 n_3 n_4 n_5 xs)∧(n=n∧s=s∧n_1=n_1∧mgI (plF G [n_2,n_3,n_4,n_5]) n_2=mgI (plF
 G [n_2,n_3,n_4,n_5]) n_2∧mgI (plF G [n_2,n_3,n_4,n_5]) n_3=mgI (plF G [n_2,n_3,n_4,n_5]) n_3∧mgI (plF G [n_2,n_3,n_4,n_5]) n_4=mgI (plF G [n_2,n_3,n_4,n_5]) n_4∧mgI (plF G [n_2,n_3,n_4,n_5]) n_5=mgI (plF G [n_2,n_3,n_4,n_5]) n_5∧(rdN G (7:Nat) ++ [[AV.int .i64 (7:Int),.int .i64 (mInt (vmP (rdsF G)) (7:Int))]]).length=List.length (rdN G (Int.toNat y))∧(↑G.length:Int)=(↑G.length:Int)∧List.length (ctN
 G (7:Nat))=List.length (ctN G (Int.toNat y))∧True)∧vmP (rdsF G)=vmP (rdsF G)∧rdN G (7:Nat) ++ [[AV.int .i64 (7:Int),.int .i64 (mInt (vmP (rdsF G)) (7:Int))]]=rdN G (Int.toNat y)∧ctN G (7:Nat)=ctN G (Int.toNat y)∧True else False else ∃ y,Mg4 G y∧(mg20 G n n_1 n_2 n_3 n_4 n_5 s xs).m y < (mg20 G n n_1 n_2 n_3 n_4 n_5 s xs).m x∧((0:Nat)=0∧(0:Nat)=0∧True∧(plF G [n_2,n_3,n_4,n_5]=plF G
 [n_2,n_3,n_4,n_5]∧B11 (rdsF G) (rdsF G))∧(8:Int)=y∧True)∧ZZ∧(H8 n s n_1 n_2 n_3 n_4 n_5 xs)∧(n=n∧s=s∧n_1=n_1∧mgI (plF G [n_2,n_3,n_4,n_5]) n_2=mgI (plF G [n_2,n_3,n_4,n_5]) n_2∧mgI (plF G [n_2,n_3,n_4,n_5]) n_3=mgI (plF G [n_2,n_3,n_4,n_5]) n_3∧mgI (plF G [n_2,n_3,n_4,n_5]) n_4=mgI (plF G [n_2,n_3,n_4,n_5]) n_4∧mgI (plF G [n_2,n_3,n_4,n_5]) n_5=mgI (plF G [n_2,n_3,n_4,n_5]) n_5∧List.length (rdN G
 (7:Nat))=List.length (rdN G (Int.toNat y))∧(↑G.length:Int)=(↑G.length:Int)∧List.length (ctN G (7:Nat))=List.length (ctN G (Int.toNat y))∧True)∧vmP (rdsF G)=vmP (rdsF G)∧rdN G (7:Nat)=rdN G (Int.toNat y)∧ctN G (7:Nat)=ctN G (Int.toNat y)∧True)∧(Mg5 x (8:Int)→bif bdP (rdsF G) (8:Int) then bif decide (List.length (ctN G (8:Nat))=List.length (ctN G (8:Nat))∧List.length (ctN G (8:Nat)) + (1:Nat) ≤
 (9223372036854775807:Nat)∧(List.length (ctN G (8:Nat)) + (1:Nat)) * (8:Nat)≤(140737488355328:Nat)) then ∃ y,Mg4 G y∧(mg20 G n n_1 n_2 n_3 n_4 n_5 s xs).m y < (mg20 G n n_1 n_2 n_3 n_4 n_5 s xs).m x∧((0:Nat)=0∧(0:Nat)=0∧True∧(plF G [n_2,n_3,n_4,n_5]=plF G [n_2,n_3,n_4,n_5]∧B11 (rdsF G) (rdsF G))∧(9:Int)=y∧True)∧ZZ∧(H8 n s n_1 n_2 n_3 n_4 n_5 xs)∧(n=n∧s=s∧n_1=n_1∧mgI (plF G [n_2,n_3,n_4,n_5])
 n_2=mgI (plF G [n_2,n_3,n_4,n_5]) n_2∧mgI (plF G [n_2,n_3,n_4,n_5]) n_3=mgI (plF G [n_2,n_3,n_4,n_5]) n_3∧mgI (plF G [n_2,n_3,n_4,n_5]) n_4=mgI (plF G [n_2,n_3,n_4,n_5]) n_4∧mgI (plF G [n_2,n_3,n_4,n_5]) n_5=mgI (plF G [n_2,n_3,n_4,n_5]) n_5∧List.length (rdN G (8:Nat))=List.length (rdN G (Int.toNat y))∧(↑G.length:Int)=(↑G.length:Int)∧(ctN G (8:Nat) ++ [[AV.int .i64 (8:Int)]]).length=List.length
 (ctN G (Int.toNat y))∧True)∧vmP (rdsF G)=vmP (rdsF G)∧rdN G (8:Nat)=rdN G (Int.toNat y)∧ctN G (8:Nat) ++ [[AV.int .i64 (8:Int)]]=ctN G (Int.toNat y)∧True else False else bif mHas (vmP (rdsF G)) (8:Int) then bif decide (List.length (rdN G (8:Nat))=List.length (rdN G (8:Nat))∧List.length (rdN G (8:Nat)) + [[AV.int .i64 (8:Int),.int .i64 (mInt (vmP (rdsF G)) (8:Int))]].length ≤
 (9223372036854775807:Nat)∧(List.length (rdN G (8:Nat)) + [[AV.int .i64 (8:Int),.int .i64 (mInt (vmP (rdsF G)) (8:Int))]].length) * (16:Nat)≤(140737488355328:Nat)) then ∃ y,Mg4 G y∧(mg20 G n n_1 n_2 n_3 n_4 n_5 s xs).m y < (mg20 G n n_1 n_2 n_3 n_4 n_5 s xs).m x∧((0:Nat)=0∧(0:Nat)=0∧True∧(plF G [n_2,n_3,n_4,n_5]=plF G [n_2,n_3,n_4,n_5]∧B11 (rdsF G) (rdsF G))∧(9:Int)=y∧True)∧ZZ∧(H8 n s n_1 n_2 n_3
 n_4 n_5 xs)∧(n=n∧s=s∧n_1=n_1∧mgI (plF G [n_2,n_3,n_4,n_5]) n_2=mgI (plF G [n_2,n_3,n_4,n_5]) n_2∧mgI (plF G [n_2,n_3,n_4,n_5]) n_3=mgI (plF G [n_2,n_3,n_4,n_5]) n_3∧mgI (plF G [n_2,n_3,n_4,n_5]) n_4=mgI (plF G [n_2,n_3,n_4,n_5]) n_4∧mgI (plF G [n_2,n_3,n_4,n_5]) n_5=mgI (plF G [n_2,n_3,n_4,n_5]) n_5∧(rdN G (8:Nat) ++ [[AV.int .i64 (8:Int),.int .i64 (mInt (vmP (rdsF G))
 (8:Int))]]).length=List.length (rdN G (Int.toNat y))∧(↑G.length:Int)=(↑G.length:Int)∧List.length (ctN G (8:Nat))=List.length (ctN G (Int.toNat y))∧True)∧vmP (rdsF G)=vmP (rdsF G)∧rdN G (8:Nat) ++ [[AV.int .i64 (8:Int),.int .i64 (mInt (vmP (rdsF G)) (8:Int))]]=rdN G (Int.toNat y)∧ctN G (8:Nat)=ctN G (Int.toNat y)∧True else False else ∃ y,Mg4 G y∧(mg20 G n n_1 n_2 n_3 n_4 n_5 s xs).m y < (mg20 G n
 n_1 n_2 n_3 n_4 n_5 s xs).m x∧((0:Nat)=0∧(0:Nat)=0∧True∧(plF G [n_2,n_3,n_4,n_5]=plF G [n_2,n_3,n_4,n_5]∧B11 (rdsF G) (rdsF G))∧(9:Int)=y∧True)∧ZZ∧(H8 n s n_1 n_2 n_3 n_4 n_5 xs)∧(n=n∧s=s∧n_1=n_1∧mgI (plF G [n_2,n_3,n_4,n_5]) n_2=mgI (plF G [n_2,n_3,n_4,n_5]) n_2∧mgI (plF G [n_2,n_3,n_4,n_5]) n_3=mgI (plF G [n_2,n_3,n_4,n_5]) n_3∧mgI (plF G [n_2,n_3,n_4,n_5]) n_4=mgI (plF G [n_2,n_3,n_4,n_5])
 n_4∧mgI (plF G [n_2,n_3,n_4,n_5]) n_5=mgI (plF G [n_2,n_3,n_4,n_5]) n_5∧List.length (rdN G (8:Nat))=List.length (rdN G (Int.toNat y))∧(↑G.length:Int)=(↑G.length:Int)∧List.length (ctN G (8:Nat))=List.length (ctN G (Int.toNat y))∧True)∧vmP (rdsF G)=vmP (rdsF G)∧rdN G (8:Nat)=rdN G (Int.toNat y)∧ctN G (8:Nat)=ctN G (Int.toNat y)∧True)∧(Mg5 x (9:Int)→bif bdP (rdsF G) (9:Int) then bif decide
 (List.length (ctN G (9:Nat))=List.length (ctN G (9:Nat))∧List.length (ctN G (9:Nat)) + (1:Nat)≤(9223372036854775807:Nat)∧(List.length (ctN G (9:Nat)) + (1:Nat)) * (8:Nat)≤(140737488355328:Nat)) then ∃ y,Mg4 G y∧(mg20 G n n_1 n_2 n_3 n_4 n_5 s xs).m y < (mg20 G n n_1 n_2 n_3 n_4 n_5 s xs).m x∧((0:Nat)=0∧(0:Nat)=0∧True∧(plF G [n_2,n_3,n_4,n_5]=plF G [n_2,n_3,n_4,n_5]∧B11 (rdsF G) (rdsF
 G))∧(10:Int)=y∧True)∧ZZ∧(H8 n s n_1 n_2 n_3 n_4 n_5 xs)∧(n=n∧s=s∧n_1=n_1∧mgI (plF G [n_2,n_3,n_4,n_5]) n_2=mgI (plF G [n_2,n_3,n_4,n_5]) n_2∧mgI (plF G [n_2,n_3,n_4,n_5]) n_3=mgI (plF G [n_2,n_3,n_4,n_5]) n_3∧mgI (plF G [n_2,n_3,n_4,n_5]) n_4=mgI (plF G [n_2,n_3,n_4,n_5]) n_4∧mgI (plF G [n_2,n_3,n_4,n_5]) n_5=mgI (plF G [n_2,n_3,n_4,n_5]) n_5∧List.length (rdN G (9:Nat))=List.length (rdN G
 (Int.toNat y))∧(↑G.length:Int)=(↑G.length:Int)∧(ctN G (9:Nat) ++ [[AV.int .i64 (9:Int)]]).length=List.length (ctN G (Int.toNat y))∧True)∧vmP (rdsF G)=vmP (rdsF G)∧rdN G (9:Nat)=rdN G (Int.toNat y)∧ctN G (9:Nat) ++ [[AV.int .i64 (9:Int)]]=ctN G (Int.toNat y)∧True else False else bif mHas (vmP (rdsF G)) (9:Int) then bif decide (List.length (rdN G (9:Nat))=List.length (rdN G (9:Nat))∧List.length (rdN
 G (9:Nat)) + [[AV.int .i64 (9:Int),.int .i64 (mInt (vmP (rdsF G)) (9:Int))]].length≤(9223372036854775807:Nat)∧(List.length (rdN G (9:Nat)) + [[AV.int .i64 (9:Int),.int .i64 (mInt (vmP (rdsF G)) (9:Int))]].length) * (16:Nat)≤(140737488355328:Nat)) then ∃ y,Mg4 G y∧(mg20 G n n_1 n_2 n_3 n_4 n_5 s xs).m y < (mg20 G n n_1 n_2 n_3 n_4 n_5 s xs).m x∧((0:Nat)=0∧(0:Nat)=0∧True∧(plF G
 [n_2,n_3,n_4,n_5]=plF G [n_2,n_3,n_4,n_5]∧B11 (rdsF G) (rdsF G))∧(10:Int)=y∧True)∧ZZ∧(H8 n s n_1 n_2 n_3 n_4 n_5 xs)∧(n=n∧s=s∧n_1=n_1∧mgI (plF G [n_2,n_3,n_4,n_5]) n_2=mgI (plF G [n_2,n_3,n_4,n_5]) n_2∧mgI (plF G [n_2,n_3,n_4,n_5]) n_3=mgI (plF G [n_2,n_3,n_4,n_5]) n_3∧mgI (plF G [n_2,n_3,n_4,n_5]) n_4=mgI (plF G [n_2,n_3,n_4,n_5]) n_4∧mgI (plF G [n_2,n_3,n_4,n_5]) n_5=mgI (plF G [n_2,n_3,n_4,n_5])
 n_5∧(rdN G (9:Nat) ++ [[AV.int .i64 (9:Int),.int .i64 (mInt (vmP (rdsF G)) (9:Int))]]).length=List.length (rdN G (Int.toNat y))∧(↑G.length:Int)=(↑G.length:Int)∧List.length (ctN G (9:Nat))=List.length (ctN G (Int.toNat y))∧True)∧vmP (rdsF G)=vmP (rdsF G)∧rdN G (9:Nat) ++ [[AV.int .i64 (9:Int),.int .i64 (mInt (vmP (rdsF G)) (9:Int))]]=rdN G (Int.toNat y)∧ctN G (9:Nat)=ctN G (Int.toNat y)∧True else
 False else ∃ y,Mg4 G y∧(mg20 G n n_1 n_2 n_3 n_4 n_5 s xs).m y < (mg20 G n n_1 n_2 n_3 n_4 n_5 s xs).m x∧((0:Nat)=0∧(0:Nat)=0∧True∧(plF G [n_2,n_3,n_4,n_5]=plF G [n_2,n_3,n_4,n_5]∧B11 (rdsF G) (rdsF G))∧(10:Int)=y∧True)∧ZZ∧(H8 n s n_1 n_2 n_3 n_4 n_5 xs)∧(n=n∧s=s∧n_1=n_1∧mgI (plF G [n_2,n_3,n_4,n_5]) n_2=mgI (plF G [n_2,n_3,n_4,n_5]) n_2∧mgI (plF G [n_2,n_3,n_4,n_5]) n_3=mgI (plF G
 [n_2,n_3,n_4,n_5]) n_3∧mgI (plF G [n_2,n_3,n_4,n_5]) n_4=mgI (plF G [n_2,n_3,n_4,n_5]) n_4∧mgI (plF G [n_2,n_3,n_4,n_5]) n_5=mgI (plF G [n_2,n_3,n_4,n_5]) n_5∧List.length (rdN G (9:Nat))=List.length (rdN G (Int.toNat y))∧(↑G.length:Int)=(↑G.length:Int)∧List.length (ctN G (9:Nat))=List.length (ctN G (Int.toNat y))∧True)∧vmP (rdsF G)=vmP (rdsF G)∧rdN G (9:Nat)=rdN G (Int.toNat y)∧ctN G (9:Nat)=ctN G
 (Int.toNat y)∧True)∧(Mg5 x (10:Int)→bif bdP (rdsF G) (10:Int) then bif decide (List.length (ctN G (10:Nat))=List.length (ctN G (10:Nat))∧List.length (ctN G (10:Nat)) + (1:Nat)≤(9223372036854775807:Nat)∧(List.length (ctN G (10:Nat)) + (1:Nat)) * (8:Nat)≤(140737488355328:Nat)) then ∃ y,Mg4 G y∧(mg20 G n n_1 n_2 n_3 n_4 n_5 s xs).m y < (mg20 G n n_1 n_2 n_3 n_4 n_5 s xs).m
 x∧((0:Nat)=0∧(0:Nat)=0∧True∧(plF G [n_2,n_3,n_4,n_5]=plF G [n_2,n_3,n_4,n_5]∧B11 (rdsF G) (rdsF G))∧(11:Int)=y∧True)∧ZZ∧(H8 n s n_1 n_2 n_3 n_4 n_5 xs)∧(n=n∧s=s∧n_1=n_1∧mgI (plF G [n_2,n_3,n_4,n_5]) n_2=mgI (plF G [n_2,n_3,n_4,n_5]) n_2∧mgI (plF G [n_2,n_3,n_4,n_5]) n_3=mgI (plF G [n_2,n_3,n_4,n_5]) n_3∧mgI (plF G [n_2,n_3,n_4,n_5]) n_4=mgI (plF G [n_2,n_3,n_4,n_5]) n_4∧mgI (plF G
 [n_2,n_3,n_4,n_5]) n_5=mgI (plF G [n_2,n_3,n_4,n_5]) n_5∧List.length (rdN G (10:Nat))=List.length (rdN G (Int.toNat y))∧(↑G.length:Int)=(↑G.length:Int)∧(ctN G (10:Nat) ++ [[AV.int .i64 (10:Int)]]).length=List.length (ctN G (Int.toNat y))∧True)∧vmP (rdsF G)=vmP (rdsF G)∧rdN G (10:Nat)=rdN G (Int.toNat y)∧ctN G (10:Nat) ++ [[AV.int .i64 (10:Int)]]=ctN G (Int.toNat y)∧True else False else bif mHas
 (vmP (rdsF G)) (10:Int) then bif decide (List.length (rdN G (10:Nat))=List.length (rdN G (10:Nat))∧List.length (rdN G (10:Nat)) + [[AV.int .i64 (10:Int),.int .i64 (mInt (vmP (rdsF G)) (10:Int))]].length≤(9223372036854775807:Nat)∧(List.length (rdN G (10:Nat)) + [[AV.int .i64 (10:Int),.int .i64 (mInt (vmP (rdsF G)) (10:Int))]].length) * (16:Nat)≤(140737488355328:Nat)) then ∃ y,Mg4 G y∧(mg20 G n
 n_1 n_2 n_3 n_4 n_5 s xs).m y < (mg20 G n n_1 n_2 n_3 n_4 n_5 s xs).m x∧((0:Nat)=0∧(0:Nat)=0∧True∧(plF G [n_2,n_3,n_4,n_5]=plF G [n_2,n_3,n_4,n_5]∧B11 (rdsF G) (rdsF G))∧(11:Int)=y∧True)∧ZZ∧(H8 n s n_1 n_2 n_3 n_4 n_5 xs)∧(n=n∧s=s∧n_1=n_1∧mgI (plF G [n_2,n_3,n_4,n_5]) n_2=mgI (plF G [n_2,n_3,n_4,n_5]) n_2∧mgI (plF G [n_2,n_3,n_4,n_5]) n_3=mgI (plF G [n_2,n_3,n_4,n_5]) n_3∧mgI (plF G
 [n_2,n_3,n_4,n_5]) n_4=mgI (plF G [n_2,n_3,n_4,n_5]) n_4∧mgI (plF G [n_2,n_3,n_4,n_5]) n_5=mgI (plF G [n_2,n_3,n_4,n_5]) n_5∧(rdN G (10:Nat) ++ [[AV.int .i64 (10:Int),.int .i64 (mInt (vmP (rdsF G)) (10:Int))]]).length=List.length (rdN G (Int.toNat y))∧(↑G.length:Int)=(↑G.length:Int)∧List.length (ctN G (10:Nat))=List.length (ctN G (Int.toNat y))∧True)∧vmP (rdsF G)=vmP (rdsF G)∧rdN G (10:Nat) ++
 [[AV.int .i64 (10:Int),.int .i64 (mInt (vmP (rdsF G)) (10:Int))]]=rdN G (Int.toNat y)∧ctN G (10:Nat)=ctN G (Int.toNat y)∧True else False else ∃ y,Mg4 G y∧(mg20 G n n_1 n_2 n_3 n_4 n_5 s xs).m y < (mg20 G n n_1 n_2 n_3 n_4 n_5 s xs).m x∧((0:Nat)=0∧(0:Nat)=0∧True∧(plF G [n_2,n_3,n_4,n_5]=plF G [n_2,n_3,n_4,n_5]∧B11 (rdsF G) (rdsF G))∧(11:Int)=y∧True)∧ZZ∧(H8 n s n_1 n_2 n_3 n_4 n_5
 xs)∧(n=n∧s=s∧n_1=n_1∧mgI (plF G [n_2,n_3,n_4,n_5]) n_2=mgI (plF G [n_2,n_3,n_4,n_5]) n_2∧mgI (plF G [n_2,n_3,n_4,n_5]) n_3=mgI (plF G [n_2,n_3,n_4,n_5]) n_3∧mgI (plF G [n_2,n_3,n_4,n_5]) n_4=mgI (plF G [n_2,n_3,n_4,n_5]) n_4∧mgI (plF G [n_2,n_3,n_4,n_5]) n_5=mgI (plF G [n_2,n_3,n_4,n_5]) n_5∧List.length (rdN G (10:Nat))=List.length (rdN G (Int.toNat y))∧(↑G.length:Int)=(↑G.length:Int)∧List.length
 (ctN G (10:Nat))=List.length (ctN G (Int.toNat y))∧True)∧vmP (rdsF G)=vmP (rdsF G)∧rdN G (10:Nat)=rdN G (Int.toNat y)∧ctN G (10:Nat)=ctN G (Int.toNat y)∧True)∧(Mg5 x (11:Int)→bif bdP (rdsF G) (11:Int) then bif decide (List.length (ctN G (11:Nat))=List.length (ctN G (11:Nat))∧List.length (ctN G (11:Nat)) + (1:Nat)≤(9223372036854775807:Nat)∧(List.length (ctN G (11:Nat)) + (1:Nat)) * (8:Nat) ≤
 (140737488355328:Nat)) then ∃ y,Mg4 G y∧(mg20 G n n_1 n_2 n_3 n_4 n_5 s xs).m y < (mg20 G n n_1 n_2 n_3 n_4 n_5 s xs).m x∧((0:Nat)=0∧(0:Nat)=0∧True∧(plF G [n_2,n_3,n_4,n_5]=plF G [n_2,n_3,n_4,n_5]∧B11 (rdsF G) (rdsF G))∧(12:Int)=y∧True)∧ZZ∧(H8 n s n_1 n_2 n_3 n_4 n_5 xs)∧(n=n∧s=s∧n_1=n_1∧mgI (plF G [n_2,n_3,n_4,n_5]) n_2=mgI (plF G [n_2,n_3,n_4,n_5]) n_2∧mgI (plF G [n_2,n_3,n_4,n_5]) n_3=mgI (plF G
 [n_2,n_3,n_4,n_5]) n_3∧mgI (plF G [n_2,n_3,n_4,n_5]) n_4=mgI (plF G [n_2,n_3,n_4,n_5]) n_4∧mgI (plF G [n_2,n_3,n_4,n_5]) n_5=mgI (plF G [n_2,n_3,n_4,n_5]) n_5∧List.length (rdN G (11:Nat))=List.length (rdN G (Int.toNat y))∧(↑G.length:Int)=(↑G.length:Int)∧(ctN G (11:Nat) ++ [[AV.int .i64 (11:Int)]]).length=List.length (ctN G (Int.toNat y))∧True)∧vmP (rdsF G)=vmP (rdsF G)∧rdN G (11:Nat)=rdN G
 (Int.toNat y)∧ctN G (11:Nat) ++ [[AV.int .i64 (11:Int)]]=ctN G (Int.toNat y)∧True else False else bif mHas (vmP (rdsF G)) (11:Int) then bif decide (List.length (rdN G (11:Nat))=List.length (rdN G (11:Nat))∧List.length (rdN G (11:Nat)) + [[AV.int .i64 (11:Int),.int .i64 (mInt (vmP (rdsF G)) (11:Int))]].length≤(9223372036854775807:Nat)∧(List.length (rdN G (11:Nat)) + [[AV.int .i64 (11:Int),.int
 .i64 (mInt (vmP (rdsF G)) (11:Int))]].length) * (16:Nat)≤(140737488355328:Nat)) then ∃ y,Mg4 G y∧(mg20 G n n_1 n_2 n_3 n_4 n_5 s xs).m y < (mg20 G n n_1 n_2 n_3 n_4 n_5 s xs).m x∧((0:Nat)=0∧(0:Nat)=0∧True∧(plF G [n_2,n_3,n_4,n_5]=plF G [n_2,n_3,n_4,n_5]∧B11 (rdsF G) (rdsF G))∧(12:Int)=y∧True)∧ZZ∧(H8 n s n_1 n_2 n_3 n_4 n_5 xs)∧(n=n∧s=s∧n_1=n_1∧mgI (plF G [n_2,n_3,n_4,n_5]) n_2=mgI (plF G
 [n_2,n_3,n_4,n_5]) n_2∧mgI (plF G [n_2,n_3,n_4,n_5]) n_3=mgI (plF G [n_2,n_3,n_4,n_5]) n_3∧mgI (plF G [n_2,n_3,n_4,n_5]) n_4=mgI (plF G [n_2,n_3,n_4,n_5]) n_4∧mgI (plF G [n_2,n_3,n_4,n_5]) n_5=mgI (plF G [n_2,n_3,n_4,n_5]) n_5∧(rdN G (11:Nat) ++ [[AV.int .i64 (11:Int),.int .i64 (mInt (vmP (rdsF G)) (11:Int))]]).length=List.length (rdN G (Int.toNat y))∧(↑G.length:Int)=(↑G.length:Int)∧List.length
 (ctN G (11:Nat))=List.length (ctN G (Int.toNat y))∧True)∧vmP (rdsF G)=vmP (rdsF G)∧rdN G (11:Nat) ++ [[AV.int .i64 (11:Int),.int .i64 (mInt (vmP (rdsF G)) (11:Int))]]=rdN G (Int.toNat y)∧ctN G (11:Nat)=ctN G (Int.toNat y)∧True else False else ∃ y,Mg4 G y∧(mg20 G n n_1 n_2 n_3 n_4 n_5 s xs).m y < (mg20 G n n_1 n_2 n_3 n_4 n_5 s xs).m x∧((0:Nat)=0∧(0:Nat)=0∧True∧(plF G [n_2,n_3,n_4,n_5]=plF G
 [n_2,n_3,n_4,n_5]∧B11 (rdsF G) (rdsF G))∧(12:Int)=y∧True)∧ZZ∧(H8 n s n_1 n_2 n_3 n_4 n_5 xs)∧(n=n∧s=s∧n_1=n_1∧mgI (plF G [n_2,n_3,n_4,n_5]) n_2=mgI (plF G [n_2,n_3,n_4,n_5]) n_2∧mgI (plF G [n_2,n_3,n_4,n_5]) n_3=mgI (plF G [n_2,n_3,n_4,n_5]) n_3∧mgI (plF G [n_2,n_3,n_4,n_5]) n_4=mgI (plF G [n_2,n_3,n_4,n_5]) n_4∧mgI (plF G [n_2,n_3,n_4,n_5]) n_5=mgI (plF G [n_2,n_3,n_4,n_5]) n_5∧List.length (rdN G
 (11:Nat))=List.length (rdN G (Int.toNat y))∧(↑G.length:Int)=(↑G.length:Int)∧List.length (ctN G (11:Nat))=List.length (ctN G (Int.toNat y))∧True)∧vmP (rdsF G)=vmP (rdsF G)∧rdN G (11:Nat)=rdN G (Int.toNat y)∧ctN G (11:Nat)=ctN G (Int.toNat y)∧True)∧True else False
set_option maxRecDepth 100000 in
theorem mgd_P : mgd_T gK gN gT gQ gR gC := by
  unfold mgd_T
  intro gl G f h _
  have ln := h.fl
  have l0 := h.f0
  have bf : cond f (f=true) True := by cases f <;> trivial
  refine cd1 (by omega) ?_
  obtain ⟨k,nm,t,f0,a,b,c,rd0,co0,ar0,hr0,_⟩ := h.fr 0 l0
  have hhd : itPl (G.headD [])=[f0,a,b,c] := by
    have e : G.headD []=G.getD 0 [] := by cases G <;> rfl
    rw [e,hr0]; rfl
  have hh0 : G.headD []=itA k nm t f0 a b c rd0 co0 ar0 := by
    have e : G.headD []=G.getD 0 [] := by cases G <;> rfl
    rw [e,hr0]
  have pF : plF [] [f0,a,b,c]=false := rfl
  have e0 : rdsF (List.take 0 G)=[] := rfl
  refine ⟨k,nm,t,f0,a,b,c,rd0,by rw [hr0]; rfl,⟨0,⟨by decide,by omega⟩,by (repeat' (first | exact trivial | exact rfl | assumption | apply And.intro))⟩,?_⟩
  rintro x ⟨x0,x1⟩
  refine csx (fun hx => cd1 (by omega) ?_) (fun hx => ?_)
  · obtain ⟨k2,nm2,t2,f2,a2,b2,c2,rd,co2,ar2,hr,hrd⟩ := h.fr x.toNat (by omega)
    have htk := take_snoc (G := G) (i := x.toNat) (by omega)
    have hps : plF (G.take (x.toNat + 1)) [f0,a,b,c]=(plF (G.take x.toNat) [f0,a,b,c] || !(decide (f2=f0) && (decide (a2=a) && (decide (b2=b) && (decide (c2=c) && true))))) := by
      rw [htk,plF_snoc,hr]
      congr 1
      rw [Bool.eq_iff_iff]
      simp [itA,itPl]
    refine ⟨k2,nm2,t2,f2,a2,b2,c2,rd,co2,ar2,by rw [hr]; rfl,csplit (fun hp => ⟨(),⟨trivial⟩,?_⟩) (fun hp => ⟨(),⟨trivial⟩,?_⟩),?_⟩
    · rw [hps,hp,Bool.true_or]
      (repeat' (first | exact trivial | exact rfl | assumption | apply And.intro))
    · rw [hps,hp,Bool.false_or]
      (repeat' (first | exact trivial | exact rfl | assumption | apply And.intro))
    clear hps
    rintro _ _
    have hrdE : rd=itRd (G.getD x.toNat []) := by rw [hr]; rfl
    have z0 : mgP2 G rd x 0=rdsF (G.take x.toNat) := by unfold mgP2; simp
    refine ⟨⟨0,⟨⟨x0,hx⟩,hrdE,by decide,by omega⟩,by rw [z0]; (repeat' (first | exact trivial | exact rfl | assumption | apply And.intro))⟩,?_⟩
    intro q m2
    have q0 := m2.flo
    have q1 := m2.fhi
    have hlen := mgP2_len h m2
    have lrd := hrd.fl
    refine csx (fun hq => cd1 (by omega) ?_) (fun hq => cdI (by omega) ⟨x + 1,⟨by omega,by omega⟩,by simp only [mg6]; omega,?_⟩)
    · obtain ⟨e,v,he,hb,_⟩ := hrd.fr q.toNat (by omega)
      have hm2 : Mg2 G rd x (q + 1) := ⟨m2.fi,m2.fr,by omega,by omega⟩
      have hms : (mg10 G rd f false k t f0 a b c nm rd0 x).m (q + 1) < (mg10 G rd f false k t f0 a b c nm rd0 x).m q := by simp only [mg10]; omega
      refine ⟨e,v,by rw [he]; rfl,⟨e,⟨m2,hq,he,hb⟩,by (repeat' (first | exact trivial | exact rfl | assumption | apply And.intro))⟩,fun e' hm => ?_,?_,?_,?_,?_,?_,?_,?_,?_,?_,?_,?_,trivial⟩
      · have := hm.fb; omega
      · intro hm
        have hP := mgP2_snoc (G := G) (i := x) m2.flo hm.fk hm.fe
        refine csplit (fun hb => cd1 hlen (cdI (by omega) ⟨q + 1,hm2,hms,?_⟩)) (fun hb => csplit (fun hh => cd1 hlen (cdI (by omega) ⟨q + 1,hm2,hms,?_⟩)) (fun hh => cd1 hlen (cdI (by omega) ⟨q + 1,hm2,hms,?_⟩)))
        · rw [hP,bdP_ne (mgP2 G rd x q) 1 v 2 (by decide),bdP_ne (mgP2 G rd x q) 1 v 3 (by decide),bdP_ne (mgP2 G rd x q) 1 v 4 (by decide),bdP_ne (mgP2 G rd x q) 1 v 5 (by decide),bdP_ne (mgP2 G rd x q) 1 v 6 (by decide),bdP_ne (mgP2 G rd x q) 1 v 7 (by decide),bdP_ne (mgP2 G rd x q) 1 v 8 (by decide),bdP_ne (mgP2 G rd x q) 1 v 9 (by decide),bdP_ne (mgP2 G rd x q) 1 v 10 (by decide),bdP_ne (mgP2 G rd x q) 1 v 11 (by decide),bdP_same (mgP2 G rd x q) 1 v,vm_sn,hb,Bool.true_or]
          (repeat' (first | exact trivial | exact rfl | assumption | apply And.intro))
        · rw [hP,bdP_ne (mgP2 G rd x q) 1 v 2 (by decide),bdP_ne (mgP2 G rd x q) 1 v 3 (by decide),bdP_ne (mgP2 G rd x q) 1 v 4 (by decide),bdP_ne (mgP2 G rd x q) 1 v 5 (by decide),bdP_ne (mgP2 G rd x q) 1 v 6 (by decide),bdP_ne (mgP2 G rd x q) 1 v 7 (by decide),bdP_ne (mgP2 G rd x q) 1 v 8 (by decide),bdP_ne (mgP2 G rd x q) 1 v 9 (by decide),bdP_ne (mgP2 G rd x q) 1 v 10 (by decide),bdP_ne (mgP2 G rd x q) 1 v 11 (by decide),bdP_same (mgP2 G rd x q) 1 v,vm_sn,hb,hh,Bool.false_or,Bool.true_and]
          (repeat' (first | exact trivial | exact rfl | assumption | apply And.intro))
        · rw [hP,bdP_ne (mgP2 G rd x q) 1 v 2 (by decide),bdP_ne (mgP2 G rd x q) 1 v 3 (by decide),bdP_ne (mgP2 G rd x q) 1 v 4 (by decide),bdP_ne (mgP2 G rd x q) 1 v 5 (by decide),bdP_ne (mgP2 G rd x q) 1 v 6 (by decide),bdP_ne (mgP2 G rd x q) 1 v 7 (by decide),bdP_ne (mgP2 G rd x q) 1 v 8 (by decide),bdP_ne (mgP2 G rd x q) 1 v 9 (by decide),bdP_ne (mgP2 G rd x q) 1 v 10 (by decide),bdP_ne (mgP2 G rd x q) 1 v 11 (by decide),bdP_same (mgP2 G rd x q) 1 v,vm_sn,hb,hh,Bool.false_or,Bool.false_and]
          (repeat' (first | exact trivial | exact rfl | assumption | apply And.intro))
      · intro hm
        have hP := mgP2_snoc (G := G) (i := x) m2.flo hm.fk hm.fe
        refine csplit (fun hb => cd1 hlen (cdI (by omega) ⟨q + 1,hm2,hms,?_⟩)) (fun hb => csplit (fun hh => cd1 hlen (cdI (by omega) ⟨q + 1,hm2,hms,?_⟩)) (fun hh => cd1 hlen (cdI (by omega) ⟨q + 1,hm2,hms,?_⟩)))
        · rw [hP,bdP_ne (mgP2 G rd x q) 2 v 1 (by decide),bdP_ne (mgP2 G rd x q) 2 v 3 (by decide),bdP_ne (mgP2 G rd x q) 2 v 4 (by decide),bdP_ne (mgP2 G rd x q) 2 v 5 (by decide),bdP_ne (mgP2 G rd x q) 2 v 6 (by decide),bdP_ne (mgP2 G rd x q) 2 v 7 (by decide),bdP_ne (mgP2 G rd x q) 2 v 8 (by decide),bdP_ne (mgP2 G rd x q) 2 v 9 (by decide),bdP_ne (mgP2 G rd x q) 2 v 10 (by decide),bdP_ne (mgP2 G rd x q) 2 v 11 (by decide),bdP_same (mgP2 G rd x q) 2 v,vm_sn,hb,Bool.true_or]
          (repeat' (first | exact trivial | exact rfl | assumption | apply And.intro))
        · rw [hP,bdP_ne (mgP2 G rd x q) 2 v 1 (by decide),bdP_ne (mgP2 G rd x q) 2 v 3 (by decide),bdP_ne (mgP2 G rd x q) 2 v 4 (by decide),bdP_ne (mgP2 G rd x q) 2 v 5 (by decide),bdP_ne (mgP2 G rd x q) 2 v 6 (by decide),bdP_ne (mgP2 G rd x q) 2 v 7 (by decide),bdP_ne (mgP2 G rd x q) 2 v 8 (by decide),bdP_ne (mgP2 G rd x q) 2 v 9 (by decide),bdP_ne (mgP2 G rd x q) 2 v 10 (by decide),bdP_ne (mgP2 G rd x q) 2 v 11 (by decide),bdP_same (mgP2 G rd x q) 2 v,vm_sn,hb,hh,Bool.false_or,Bool.true_and]
          (repeat' (first | exact trivial | exact rfl | assumption | apply And.intro))
        · rw [hP,bdP_ne (mgP2 G rd x q) 2 v 1 (by decide),bdP_ne (mgP2 G rd x q) 2 v 3 (by decide),bdP_ne (mgP2 G rd x q) 2 v 4 (by decide),bdP_ne (mgP2 G rd x q) 2 v 5 (by decide),bdP_ne (mgP2 G rd x q) 2 v 6 (by decide),bdP_ne (mgP2 G rd x q) 2 v 7 (by decide),bdP_ne (mgP2 G rd x q) 2 v 8 (by decide),bdP_ne (mgP2 G rd x q) 2 v 9 (by decide),bdP_ne (mgP2 G rd x q) 2 v 10 (by decide),bdP_ne (mgP2 G rd x q) 2 v 11 (by decide),bdP_same (mgP2 G rd x q) 2 v,vm_sn,hb,hh,Bool.false_or,Bool.false_and]
          (repeat' (first | exact trivial | exact rfl | assumption | apply And.intro))
      · intro hm
        have hP := mgP2_snoc (G := G) (i := x) m2.flo hm.fk hm.fe
        refine csplit (fun hb => cd1 hlen (cdI (by omega) ⟨q + 1,hm2,hms,?_⟩)) (fun hb => csplit (fun hh => cd1 hlen (cdI (by omega) ⟨q + 1,hm2,hms,?_⟩)) (fun hh => cd1 hlen (cdI (by omega) ⟨q + 1,hm2,hms,?_⟩)))
        · rw [hP,bdP_ne (mgP2 G rd x q) 3 v 1 (by decide),bdP_ne (mgP2 G rd x q) 3 v 2 (by decide),bdP_ne (mgP2 G rd x q) 3 v 4 (by decide),bdP_ne (mgP2 G rd x q) 3 v 5 (by decide),bdP_ne (mgP2 G rd x q) 3 v 6 (by decide),bdP_ne (mgP2 G rd x q) 3 v 7 (by decide),bdP_ne (mgP2 G rd x q) 3 v 8 (by decide),bdP_ne (mgP2 G rd x q) 3 v 9 (by decide),bdP_ne (mgP2 G rd x q) 3 v 10 (by decide),bdP_ne (mgP2 G rd x q) 3 v 11 (by decide),bdP_same (mgP2 G rd x q) 3 v,vm_sn,hb,Bool.true_or]
          (repeat' (first | exact trivial | exact rfl | assumption | apply And.intro))
        · rw [hP,bdP_ne (mgP2 G rd x q) 3 v 1 (by decide),bdP_ne (mgP2 G rd x q) 3 v 2 (by decide),bdP_ne (mgP2 G rd x q) 3 v 4 (by decide),bdP_ne (mgP2 G rd x q) 3 v 5 (by decide),bdP_ne (mgP2 G rd x q) 3 v 6 (by decide),bdP_ne (mgP2 G rd x q) 3 v 7 (by decide),bdP_ne (mgP2 G rd x q) 3 v 8 (by decide),bdP_ne (mgP2 G rd x q) 3 v 9 (by decide),bdP_ne (mgP2 G rd x q) 3 v 10 (by decide),bdP_ne (mgP2 G rd x q) 3 v 11 (by decide),bdP_same (mgP2 G rd x q) 3 v,vm_sn,hb,hh,Bool.false_or,Bool.true_and]
          (repeat' (first | exact trivial | exact rfl | assumption | apply And.intro))
        · rw [hP,bdP_ne (mgP2 G rd x q) 3 v 1 (by decide),bdP_ne (mgP2 G rd x q) 3 v 2 (by decide),bdP_ne (mgP2 G rd x q) 3 v 4 (by decide),bdP_ne (mgP2 G rd x q) 3 v 5 (by decide),bdP_ne (mgP2 G rd x q) 3 v 6 (by decide),bdP_ne (mgP2 G rd x q) 3 v 7 (by decide),bdP_ne (mgP2 G rd x q) 3 v 8 (by decide),bdP_ne (mgP2 G rd x q) 3 v 9 (by decide),bdP_ne (mgP2 G rd x q) 3 v 10 (by decide),bdP_ne (mgP2 G rd x q) 3 v 11 (by decide),bdP_same (mgP2 G rd x q) 3 v,vm_sn,hb,hh,Bool.false_or,Bool.false_and]
          (repeat' (first | exact trivial | exact rfl | assumption | apply And.intro))
      · intro hm
        have hP := mgP2_snoc (G := G) (i := x) m2.flo hm.fk hm.fe
        refine csplit (fun hb => cd1 hlen (cdI (by omega) ⟨q + 1,hm2,hms,?_⟩)) (fun hb => csplit (fun hh => cd1 hlen (cdI (by omega) ⟨q + 1,hm2,hms,?_⟩)) (fun hh => cd1 hlen (cdI (by omega) ⟨q + 1,hm2,hms,?_⟩)))
        · rw [hP,bdP_ne (mgP2 G rd x q) 4 v 1 (by decide),bdP_ne (mgP2 G rd x q) 4 v 2 (by decide),bdP_ne (mgP2 G rd x q) 4 v 3 (by decide),bdP_ne (mgP2 G rd x q) 4 v 5 (by decide),bdP_ne (mgP2 G rd x q) 4 v 6 (by decide),bdP_ne (mgP2 G rd x q) 4 v 7 (by decide),bdP_ne (mgP2 G rd x q) 4 v 8 (by decide),bdP_ne (mgP2 G rd x q) 4 v 9 (by decide),bdP_ne (mgP2 G rd x q) 4 v 10 (by decide),bdP_ne (mgP2 G rd x q) 4 v 11 (by decide),bdP_same (mgP2 G rd x q) 4 v,vm_sn,hb,Bool.true_or]
          (repeat' (first | exact trivial | exact rfl | assumption | apply And.intro))
        · rw [hP,bdP_ne (mgP2 G rd x q) 4 v 1 (by decide),bdP_ne (mgP2 G rd x q) 4 v 2 (by decide),bdP_ne (mgP2 G rd x q) 4 v 3 (by decide),bdP_ne (mgP2 G rd x q) 4 v 5 (by decide),bdP_ne (mgP2 G rd x q) 4 v 6 (by decide),bdP_ne (mgP2 G rd x q) 4 v 7 (by decide),bdP_ne (mgP2 G rd x q) 4 v 8 (by decide),bdP_ne (mgP2 G rd x q) 4 v 9 (by decide),bdP_ne (mgP2 G rd x q) 4 v 10 (by decide),bdP_ne (mgP2 G rd x q) 4 v 11 (by decide),bdP_same (mgP2 G rd x q) 4 v,vm_sn,hb,hh,Bool.false_or,Bool.true_and]
          (repeat' (first | exact trivial | exact rfl | assumption | apply And.intro))
        · rw [hP,bdP_ne (mgP2 G rd x q) 4 v 1 (by decide),bdP_ne (mgP2 G rd x q) 4 v 2 (by decide),bdP_ne (mgP2 G rd x q) 4 v 3 (by decide),bdP_ne (mgP2 G rd x q) 4 v 5 (by decide),bdP_ne (mgP2 G rd x q) 4 v 6 (by decide),bdP_ne (mgP2 G rd x q) 4 v 7 (by decide),bdP_ne (mgP2 G rd x q) 4 v 8 (by decide),bdP_ne (mgP2 G rd x q) 4 v 9 (by decide),bdP_ne (mgP2 G rd x q) 4 v 10 (by decide),bdP_ne (mgP2 G rd x q) 4 v 11 (by decide),bdP_same (mgP2 G rd x q) 4 v,vm_sn,hb,hh,Bool.false_or,Bool.false_and]
          (repeat' (first | exact trivial | exact rfl | assumption | apply And.intro))
      · intro hm
        have hP := mgP2_snoc (G := G) (i := x) m2.flo hm.fk hm.fe
        refine csplit (fun hb => cd1 hlen (cdI (by omega) ⟨q + 1,hm2,hms,?_⟩)) (fun hb => csplit (fun hh => cd1 hlen (cdI (by omega) ⟨q + 1,hm2,hms,?_⟩)) (fun hh => cd1 hlen (cdI (by omega) ⟨q + 1,hm2,hms,?_⟩)))
        · rw [hP,bdP_ne (mgP2 G rd x q) 5 v 1 (by decide),bdP_ne (mgP2 G rd x q) 5 v 2 (by decide),bdP_ne (mgP2 G rd x q) 5 v 3 (by decide),bdP_ne (mgP2 G rd x q) 5 v 4 (by decide),bdP_ne (mgP2 G rd x q) 5 v 6 (by decide),bdP_ne (mgP2 G rd x q) 5 v 7 (by decide),bdP_ne (mgP2 G rd x q) 5 v 8 (by decide),bdP_ne (mgP2 G rd x q) 5 v 9 (by decide),bdP_ne (mgP2 G rd x q) 5 v 10 (by decide),bdP_ne (mgP2 G rd x q) 5 v 11 (by decide),bdP_same (mgP2 G rd x q) 5 v,vm_sn,hb,Bool.true_or]
          (repeat' (first | exact trivial | exact rfl | assumption | apply And.intro))
        · rw [hP,bdP_ne (mgP2 G rd x q) 5 v 1 (by decide),bdP_ne (mgP2 G rd x q) 5 v 2 (by decide),bdP_ne (mgP2 G rd x q) 5 v 3 (by decide),bdP_ne (mgP2 G rd x q) 5 v 4 (by decide),bdP_ne (mgP2 G rd x q) 5 v 6 (by decide),bdP_ne (mgP2 G rd x q) 5 v 7 (by decide),bdP_ne (mgP2 G rd x q) 5 v 8 (by decide),bdP_ne (mgP2 G rd x q) 5 v 9 (by decide),bdP_ne (mgP2 G rd x q) 5 v 10 (by decide),bdP_ne (mgP2 G rd x q) 5 v 11 (by decide),bdP_same (mgP2 G rd x q) 5 v,vm_sn,hb,hh,Bool.false_or,Bool.true_and]
          (repeat' (first | exact trivial | exact rfl | assumption | apply And.intro))
        · rw [hP,bdP_ne (mgP2 G rd x q) 5 v 1 (by decide),bdP_ne (mgP2 G rd x q) 5 v 2 (by decide),bdP_ne (mgP2 G rd x q) 5 v 3 (by decide),bdP_ne (mgP2 G rd x q) 5 v 4 (by decide),bdP_ne (mgP2 G rd x q) 5 v 6 (by decide),bdP_ne (mgP2 G rd x q) 5 v 7 (by decide),bdP_ne (mgP2 G rd x q) 5 v 8 (by decide),bdP_ne (mgP2 G rd x q) 5 v 9 (by decide),bdP_ne (mgP2 G rd x q) 5 v 10 (by decide),bdP_ne (mgP2 G rd x q) 5 v 11 (by decide),bdP_same (mgP2 G rd x q) 5 v,vm_sn,hb,hh,Bool.false_or,Bool.false_and]
          (repeat' (first | exact trivial | exact rfl | assumption | apply And.intro))
      · intro hm
        have hP := mgP2_snoc (G := G) (i := x) m2.flo hm.fk hm.fe
        refine csplit (fun hb => cd1 hlen (cdI (by omega) ⟨q + 1,hm2,hms,?_⟩)) (fun hb => csplit (fun hh => cd1 hlen (cdI (by omega) ⟨q + 1,hm2,hms,?_⟩)) (fun hh => cd1 hlen (cdI (by omega) ⟨q + 1,hm2,hms,?_⟩)))
        · rw [hP,bdP_ne (mgP2 G rd x q) 6 v 1 (by decide),bdP_ne (mgP2 G rd x q) 6 v 2 (by decide),bdP_ne (mgP2 G rd x q) 6 v 3 (by decide),bdP_ne (mgP2 G rd x q) 6 v 4 (by decide),bdP_ne (mgP2 G rd x q) 6 v 5 (by decide),bdP_ne (mgP2 G rd x q) 6 v 7 (by decide),bdP_ne (mgP2 G rd x q) 6 v 8 (by decide),bdP_ne (mgP2 G rd x q) 6 v 9 (by decide),bdP_ne (mgP2 G rd x q) 6 v 10 (by decide),bdP_ne (mgP2 G rd x q) 6 v 11 (by decide),bdP_same (mgP2 G rd x q) 6 v,vm_sn,hb,Bool.true_or]
          (repeat' (first | exact trivial | exact rfl | assumption | apply And.intro))
        · rw [hP,bdP_ne (mgP2 G rd x q) 6 v 1 (by decide),bdP_ne (mgP2 G rd x q) 6 v 2 (by decide),bdP_ne (mgP2 G rd x q) 6 v 3 (by decide),bdP_ne (mgP2 G rd x q) 6 v 4 (by decide),bdP_ne (mgP2 G rd x q) 6 v 5 (by decide),bdP_ne (mgP2 G rd x q) 6 v 7 (by decide),bdP_ne (mgP2 G rd x q) 6 v 8 (by decide),bdP_ne (mgP2 G rd x q) 6 v 9 (by decide),bdP_ne (mgP2 G rd x q) 6 v 10 (by decide),bdP_ne (mgP2 G rd x q) 6 v 11 (by decide),bdP_same (mgP2 G rd x q) 6 v,vm_sn,hb,hh,Bool.false_or,Bool.true_and]
          (repeat' (first | exact trivial | exact rfl | assumption | apply And.intro))
        · rw [hP,bdP_ne (mgP2 G rd x q) 6 v 1 (by decide),bdP_ne (mgP2 G rd x q) 6 v 2 (by decide),bdP_ne (mgP2 G rd x q) 6 v 3 (by decide),bdP_ne (mgP2 G rd x q) 6 v 4 (by decide),bdP_ne (mgP2 G rd x q) 6 v 5 (by decide),bdP_ne (mgP2 G rd x q) 6 v 7 (by decide),bdP_ne (mgP2 G rd x q) 6 v 8 (by decide),bdP_ne (mgP2 G rd x q) 6 v 9 (by decide),bdP_ne (mgP2 G rd x q) 6 v 10 (by decide),bdP_ne (mgP2 G rd x q) 6 v 11 (by decide),bdP_same (mgP2 G rd x q) 6 v,vm_sn,hb,hh,Bool.false_or,Bool.false_and]
          (repeat' (first | exact trivial | exact rfl | assumption | apply And.intro))
      · intro hm
        have hP := mgP2_snoc (G := G) (i := x) m2.flo hm.fk hm.fe
        refine csplit (fun hb => cd1 hlen (cdI (by omega) ⟨q + 1,hm2,hms,?_⟩)) (fun hb => csplit (fun hh => cd1 hlen (cdI (by omega) ⟨q + 1,hm2,hms,?_⟩)) (fun hh => cd1 hlen (cdI (by omega) ⟨q + 1,hm2,hms,?_⟩)))
        · rw [hP,bdP_ne (mgP2 G rd x q) 7 v 1 (by decide),bdP_ne (mgP2 G rd x q) 7 v 2 (by decide),bdP_ne (mgP2 G rd x q) 7 v 3 (by decide),bdP_ne (mgP2 G rd x q) 7 v 4 (by decide),bdP_ne (mgP2 G rd x q) 7 v 5 (by decide),bdP_ne (mgP2 G rd x q) 7 v 6 (by decide),bdP_ne (mgP2 G rd x q) 7 v 8 (by decide),bdP_ne (mgP2 G rd x q) 7 v 9 (by decide),bdP_ne (mgP2 G rd x q) 7 v 10 (by decide),bdP_ne (mgP2 G rd x q) 7 v 11 (by decide),bdP_same (mgP2 G rd x q) 7 v,vm_sn,hb,Bool.true_or]
          (repeat' (first | exact trivial | exact rfl | assumption | apply And.intro))
        · rw [hP,bdP_ne (mgP2 G rd x q) 7 v 1 (by decide),bdP_ne (mgP2 G rd x q) 7 v 2 (by decide),bdP_ne (mgP2 G rd x q) 7 v 3 (by decide),bdP_ne (mgP2 G rd x q) 7 v 4 (by decide),bdP_ne (mgP2 G rd x q) 7 v 5 (by decide),bdP_ne (mgP2 G rd x q) 7 v 6 (by decide),bdP_ne (mgP2 G rd x q) 7 v 8 (by decide),bdP_ne (mgP2 G rd x q) 7 v 9 (by decide),bdP_ne (mgP2 G rd x q) 7 v 10 (by decide),bdP_ne (mgP2 G rd x q) 7 v 11 (by decide),bdP_same (mgP2 G rd x q) 7 v,vm_sn,hb,hh,Bool.false_or,Bool.true_and]
          (repeat' (first | exact trivial | exact rfl | assumption | apply And.intro))
        · rw [hP,bdP_ne (mgP2 G rd x q) 7 v 1 (by decide),bdP_ne (mgP2 G rd x q) 7 v 2 (by decide),bdP_ne (mgP2 G rd x q) 7 v 3 (by decide),bdP_ne (mgP2 G rd x q) 7 v 4 (by decide),bdP_ne (mgP2 G rd x q) 7 v 5 (by decide),bdP_ne (mgP2 G rd x q) 7 v 6 (by decide),bdP_ne (mgP2 G rd x q) 7 v 8 (by decide),bdP_ne (mgP2 G rd x q) 7 v 9 (by decide),bdP_ne (mgP2 G rd x q) 7 v 10 (by decide),bdP_ne (mgP2 G rd x q) 7 v 11 (by decide),bdP_same (mgP2 G rd x q) 7 v,vm_sn,hb,hh,Bool.false_or,Bool.false_and]
          (repeat' (first | exact trivial | exact rfl | assumption | apply And.intro))
      · intro hm
        have hP := mgP2_snoc (G := G) (i := x) m2.flo hm.fk hm.fe
        refine csplit (fun hb => cd1 hlen (cdI (by omega) ⟨q + 1,hm2,hms,?_⟩)) (fun hb => csplit (fun hh => cd1 hlen (cdI (by omega) ⟨q + 1,hm2,hms,?_⟩)) (fun hh => cd1 hlen (cdI (by omega) ⟨q + 1,hm2,hms,?_⟩)))
        · rw [hP,bdP_ne (mgP2 G rd x q) 8 v 1 (by decide),bdP_ne (mgP2 G rd x q) 8 v 2 (by decide),bdP_ne (mgP2 G rd x q) 8 v 3 (by decide),bdP_ne (mgP2 G rd x q) 8 v 4 (by decide),bdP_ne (mgP2 G rd x q) 8 v 5 (by decide),bdP_ne (mgP2 G rd x q) 8 v 6 (by decide),bdP_ne (mgP2 G rd x q) 8 v 7 (by decide),bdP_ne (mgP2 G rd x q) 8 v 9 (by decide),bdP_ne (mgP2 G rd x q) 8 v 10 (by decide),bdP_ne (mgP2 G rd x q) 8 v 11 (by decide),bdP_same (mgP2 G rd x q) 8 v,vm_sn,hb,Bool.true_or]
          (repeat' (first | exact trivial | exact rfl | assumption | apply And.intro))
        · rw [hP,bdP_ne (mgP2 G rd x q) 8 v 1 (by decide),bdP_ne (mgP2 G rd x q) 8 v 2 (by decide),bdP_ne (mgP2 G rd x q) 8 v 3 (by decide),bdP_ne (mgP2 G rd x q) 8 v 4 (by decide),bdP_ne (mgP2 G rd x q) 8 v 5 (by decide),bdP_ne (mgP2 G rd x q) 8 v 6 (by decide),bdP_ne (mgP2 G rd x q) 8 v 7 (by decide),bdP_ne (mgP2 G rd x q) 8 v 9 (by decide),bdP_ne (mgP2 G rd x q) 8 v 10 (by decide),bdP_ne (mgP2 G rd x q) 8 v 11 (by decide),bdP_same (mgP2 G rd x q) 8 v,vm_sn,hb,hh,Bool.false_or,Bool.true_and]
          (repeat' (first | exact trivial | exact rfl | assumption | apply And.intro))
        · rw [hP,bdP_ne (mgP2 G rd x q) 8 v 1 (by decide),bdP_ne (mgP2 G rd x q) 8 v 2 (by decide),bdP_ne (mgP2 G rd x q) 8 v 3 (by decide),bdP_ne (mgP2 G rd x q) 8 v 4 (by decide),bdP_ne (mgP2 G rd x q) 8 v 5 (by decide),bdP_ne (mgP2 G rd x q) 8 v 6 (by decide),bdP_ne (mgP2 G rd x q) 8 v 7 (by decide),bdP_ne (mgP2 G rd x q) 8 v 9 (by decide),bdP_ne (mgP2 G rd x q) 8 v 10 (by decide),bdP_ne (mgP2 G rd x q) 8 v 11 (by decide),bdP_same (mgP2 G rd x q) 8 v,vm_sn,hb,hh,Bool.false_or,Bool.false_and]
          (repeat' (first | exact trivial | exact rfl | assumption | apply And.intro))
      · intro hm
        have hP := mgP2_snoc (G := G) (i := x) m2.flo hm.fk hm.fe
        refine csplit (fun hb => cd1 hlen (cdI (by omega) ⟨q + 1,hm2,hms,?_⟩)) (fun hb => csplit (fun hh => cd1 hlen (cdI (by omega) ⟨q + 1,hm2,hms,?_⟩)) (fun hh => cd1 hlen (cdI (by omega) ⟨q + 1,hm2,hms,?_⟩)))
        · rw [hP,bdP_ne (mgP2 G rd x q) 9 v 1 (by decide),bdP_ne (mgP2 G rd x q) 9 v 2 (by decide),bdP_ne (mgP2 G rd x q) 9 v 3 (by decide),bdP_ne (mgP2 G rd x q) 9 v 4 (by decide),bdP_ne (mgP2 G rd x q) 9 v 5 (by decide),bdP_ne (mgP2 G rd x q) 9 v 6 (by decide),bdP_ne (mgP2 G rd x q) 9 v 7 (by decide),bdP_ne (mgP2 G rd x q) 9 v 8 (by decide),bdP_ne (mgP2 G rd x q) 9 v 10 (by decide),bdP_ne (mgP2 G rd x q) 9 v 11 (by decide),bdP_same (mgP2 G rd x q) 9 v,vm_sn,hb,Bool.true_or]
          (repeat' (first | exact trivial | exact rfl | assumption | apply And.intro))
        · rw [hP,bdP_ne (mgP2 G rd x q) 9 v 1 (by decide),bdP_ne (mgP2 G rd x q) 9 v 2 (by decide),bdP_ne (mgP2 G rd x q) 9 v 3 (by decide),bdP_ne (mgP2 G rd x q) 9 v 4 (by decide),bdP_ne (mgP2 G rd x q) 9 v 5 (by decide),bdP_ne (mgP2 G rd x q) 9 v 6 (by decide),bdP_ne (mgP2 G rd x q) 9 v 7 (by decide),bdP_ne (mgP2 G rd x q) 9 v 8 (by decide),bdP_ne (mgP2 G rd x q) 9 v 10 (by decide),bdP_ne (mgP2 G rd x q) 9 v 11 (by decide),bdP_same (mgP2 G rd x q) 9 v,vm_sn,hb,hh,Bool.false_or,Bool.true_and]
          (repeat' (first | exact trivial | exact rfl | assumption | apply And.intro))
        · rw [hP,bdP_ne (mgP2 G rd x q) 9 v 1 (by decide),bdP_ne (mgP2 G rd x q) 9 v 2 (by decide),bdP_ne (mgP2 G rd x q) 9 v 3 (by decide),bdP_ne (mgP2 G rd x q) 9 v 4 (by decide),bdP_ne (mgP2 G rd x q) 9 v 5 (by decide),bdP_ne (mgP2 G rd x q) 9 v 6 (by decide),bdP_ne (mgP2 G rd x q) 9 v 7 (by decide),bdP_ne (mgP2 G rd x q) 9 v 8 (by decide),bdP_ne (mgP2 G rd x q) 9 v 10 (by decide),bdP_ne (mgP2 G rd x q) 9 v 11 (by decide),bdP_same (mgP2 G rd x q) 9 v,vm_sn,hb,hh,Bool.false_or,Bool.false_and]
          (repeat' (first | exact trivial | exact rfl | assumption | apply And.intro))
      · intro hm
        have hP := mgP2_snoc (G := G) (i := x) m2.flo hm.fk hm.fe
        refine csplit (fun hb => cd1 hlen (cdI (by omega) ⟨q + 1,hm2,hms,?_⟩)) (fun hb => csplit (fun hh => cd1 hlen (cdI (by omega) ⟨q + 1,hm2,hms,?_⟩)) (fun hh => cd1 hlen (cdI (by omega) ⟨q + 1,hm2,hms,?_⟩)))
        · rw [hP,bdP_ne (mgP2 G rd x q) 10 v 1 (by decide),bdP_ne (mgP2 G rd x q) 10 v 2 (by decide),bdP_ne (mgP2 G rd x q) 10 v 3 (by decide),bdP_ne (mgP2 G rd x q) 10 v 4 (by decide),bdP_ne (mgP2 G rd x q) 10 v 5 (by decide),bdP_ne (mgP2 G rd x q) 10 v 6 (by decide),bdP_ne (mgP2 G rd x q) 10 v 7 (by decide),bdP_ne (mgP2 G rd x q) 10 v 8 (by decide),bdP_ne (mgP2 G rd x q) 10 v 9 (by decide),bdP_ne (mgP2 G rd x q) 10 v 11 (by decide),bdP_same (mgP2 G rd x q) 10 v,vm_sn,hb,Bool.true_or]
          (repeat' (first | exact trivial | exact rfl | assumption | apply And.intro))
        · rw [hP,bdP_ne (mgP2 G rd x q) 10 v 1 (by decide),bdP_ne (mgP2 G rd x q) 10 v 2 (by decide),bdP_ne (mgP2 G rd x q) 10 v 3 (by decide),bdP_ne (mgP2 G rd x q) 10 v 4 (by decide),bdP_ne (mgP2 G rd x q) 10 v 5 (by decide),bdP_ne (mgP2 G rd x q) 10 v 6 (by decide),bdP_ne (mgP2 G rd x q) 10 v 7 (by decide),bdP_ne (mgP2 G rd x q) 10 v 8 (by decide),bdP_ne (mgP2 G rd x q) 10 v 9 (by decide),bdP_ne (mgP2 G rd x q) 10 v 11 (by decide),bdP_same (mgP2 G rd x q) 10 v,vm_sn,hb,hh,Bool.false_or,Bool.true_and]
          (repeat' (first | exact trivial | exact rfl | assumption | apply And.intro))
        · rw [hP,bdP_ne (mgP2 G rd x q) 10 v 1 (by decide),bdP_ne (mgP2 G rd x q) 10 v 2 (by decide),bdP_ne (mgP2 G rd x q) 10 v 3 (by decide),bdP_ne (mgP2 G rd x q) 10 v 4 (by decide),bdP_ne (mgP2 G rd x q) 10 v 5 (by decide),bdP_ne (mgP2 G rd x q) 10 v 6 (by decide),bdP_ne (mgP2 G rd x q) 10 v 7 (by decide),bdP_ne (mgP2 G rd x q) 10 v 8 (by decide),bdP_ne (mgP2 G rd x q) 10 v 9 (by decide),bdP_ne (mgP2 G rd x q) 10 v 11 (by decide),bdP_same (mgP2 G rd x q) 10 v,vm_sn,hb,hh,Bool.false_or,Bool.false_and]
          (repeat' (first | exact trivial | exact rfl | assumption | apply And.intro))
      · intro hm
        have hP := mgP2_snoc (G := G) (i := x) m2.flo hm.fk hm.fe
        refine csplit (fun hb => cd1 hlen (cdI (by omega) ⟨q + 1,hm2,hms,?_⟩)) (fun hb => csplit (fun hh => cd1 hlen (cdI (by omega) ⟨q + 1,hm2,hms,?_⟩)) (fun hh => cd1 hlen (cdI (by omega) ⟨q + 1,hm2,hms,?_⟩)))
        · rw [hP,bdP_ne (mgP2 G rd x q) 11 v 1 (by decide),bdP_ne (mgP2 G rd x q) 11 v 2 (by decide),bdP_ne (mgP2 G rd x q) 11 v 3 (by decide),bdP_ne (mgP2 G rd x q) 11 v 4 (by decide),bdP_ne (mgP2 G rd x q) 11 v 5 (by decide),bdP_ne (mgP2 G rd x q) 11 v 6 (by decide),bdP_ne (mgP2 G rd x q) 11 v 7 (by decide),bdP_ne (mgP2 G rd x q) 11 v 8 (by decide),bdP_ne (mgP2 G rd x q) 11 v 9 (by decide),bdP_ne (mgP2 G rd x q) 11 v 10 (by decide),bdP_same (mgP2 G rd x q) 11 v,vm_sn,hb,Bool.true_or]
          (repeat' (first | exact trivial | exact rfl | assumption | apply And.intro))
        · rw [hP,bdP_ne (mgP2 G rd x q) 11 v 1 (by decide),bdP_ne (mgP2 G rd x q) 11 v 2 (by decide),bdP_ne (mgP2 G rd x q) 11 v 3 (by decide),bdP_ne (mgP2 G rd x q) 11 v 4 (by decide),bdP_ne (mgP2 G rd x q) 11 v 5 (by decide),bdP_ne (mgP2 G rd x q) 11 v 6 (by decide),bdP_ne (mgP2 G rd x q) 11 v 7 (by decide),bdP_ne (mgP2 G rd x q) 11 v 8 (by decide),bdP_ne (mgP2 G rd x q) 11 v 9 (by decide),bdP_ne (mgP2 G rd x q) 11 v 10 (by decide),bdP_same (mgP2 G rd x q) 11 v,vm_sn,hb,hh,Bool.false_or,Bool.true_and]
          (repeat' (first | exact trivial | exact rfl | assumption | apply And.intro))
        · rw [hP,bdP_ne (mgP2 G rd x q) 11 v 1 (by decide),bdP_ne (mgP2 G rd x q) 11 v 2 (by decide),bdP_ne (mgP2 G rd x q) 11 v 3 (by decide),bdP_ne (mgP2 G rd x q) 11 v 4 (by decide),bdP_ne (mgP2 G rd x q) 11 v 5 (by decide),bdP_ne (mgP2 G rd x q) 11 v 6 (by decide),bdP_ne (mgP2 G rd x q) 11 v 7 (by decide),bdP_ne (mgP2 G rd x q) 11 v 8 (by decide),bdP_ne (mgP2 G rd x q) 11 v 9 (by decide),bdP_ne (mgP2 G rd x q) 11 v 10 (by decide),bdP_same (mgP2 G rd x q) 11 v,vm_sn,hb,hh,Bool.false_or,Bool.false_and]
          (repeat' (first | exact trivial | exact rfl | assumption | apply And.intro))
    · have z1 : mgP2 G rd x q=rdsF (G.take (x.toNat + 1)) := by
        unfold mgP2
        rw [htk,rdsF_snoc,← hrdE,List.take_of_length_le (l := rd) (by omega)]
      rw [z1,show (x + 1).toNat=x.toNat + 1 by omega]
      (repeat' (first | exact trivial | exact rfl | assumption | apply And.intro))
  · have hG : G.take x.toNat=G := List.take_of_length_le (by omega)
    rw [hG]
    refine ⟨csplit (fun hp => ⟨(),⟨trivial⟩,?_⟩) (fun hp => ⟨(),⟨trivial⟩,?_⟩),?_⟩
    · have : ∀ n : Int,0=mgI (plF G [f0,a,b,c]) n := fun n => by unfold mgI; rw [if_pos hp]
      rw [← this,← this,← this,← this]
      (repeat' (first | exact trivial | exact rfl | assumption | apply And.intro))
    · have : ∀ n : Int,n=mgI (plF G [f0,a,b,c]) n := fun n => by unfold mgI; rw [if_neg (by rw [hp]; simp)]
      rw [← this,← this,← this,← this]
      (repeat' (first | exact trivial | exact rfl | assumption | apply And.intro))
    rintro _ _
    refine ⟨⟨0,⟨by decide,by decide⟩,by (repeat' (first | exact trivial | exact rfl | assumption | apply And.intro))⟩,?_⟩
    rintro x ⟨x0,x1⟩
    refine ⟨csx (fun hx => ⟨x,⟨rfl,x0,hx⟩,by (repeat' (first | exact trivial | exact rfl | assumption | apply And.intro))⟩) (fun hx => cd1 rfl (cd1 rfl ?_)),fun n hm => ?_,?_,?_,?_,?_,?_,?_,?_,?_,?_,?_,?_,?_,trivial⟩
    · have e12 : x.toNat=12 := by omega
      rw [e12]
      unfold gK gN gT gQ gR gC
      rw [hh0]
      (repeat' (first | exact trivial | exact rfl | assumption | apply And.intro))
    · have := hm.flo; have := hm.fhi; omega
    · intro hm
      have en := hm.fe
      have lc := ctN_len G 0
      have lr := rdN_len G 0
      refine csplit (fun hb => ⟨1,⟨by decide,by decide⟩,by simp only [mg20]; omega,?_⟩) (fun hb => csplit (fun hh => ⟨1,⟨by decide,by decide⟩,by simp only [mg20]; omega,?_⟩) (fun hh => ⟨1,⟨by decide,by decide⟩,by simp only [mg20]; omega,?_⟩))
      · obtain ⟨c1,c2⟩ := ct_t (G := G) (n := 0) (by unfold badC; rw [if_pos rfl,hhd]; exact hb)
        rw [show Int.toNat (1 : Int)=1 from rfl,c1,c2]
        (repeat' (first | exact trivial | exact rfl | assumption | apply And.intro))
      · obtain ⟨c1,c2⟩ := ct_h (G := G) (n := 0) (by unfold badC; rw [if_pos rfl,hhd]; exact hb) hh
        rw [show Int.toNat (1 : Int)=1 from rfl,c1,c2]
        (repeat' (first | exact trivial | exact rfl | assumption | apply And.intro))
      · obtain ⟨c1,c2⟩ := ct_f (G := G) (n := 0) (by unfold badC; rw [if_pos rfl,hhd]; exact hb) hh
        rw [show Int.toNat (1 : Int)=1 from rfl,c1,c2]
        (repeat' (first | exact trivial | exact rfl | assumption | apply And.intro))
    · intro hm
      have en := hm.fe
      have lc := ctN_len G 1
      have lr := rdN_len G 1
      refine csplit (fun hb => cd1 ⟨rfl,by omega,by omega⟩ ⟨2,⟨by decide,by decide⟩,by simp only [mg20]; omega,?_⟩) (fun hb => csplit (fun hh => cd1 ⟨rfl,by simp only [List.length_cons,List.length_nil]; omega,by simp only [List.length_cons,List.length_nil]; omega⟩ ⟨2,⟨by decide,by decide⟩,by simp only [mg20]; omega,?_⟩) (fun hh => ⟨2,⟨by decide,by decide⟩,by simp only [mg20]; omega,?_⟩))
      · obtain ⟨c1,c2⟩ := ct_t (G := G) (n := 1) (by unfold badC; rw [if_neg (by decide)]; exact hb)
        rw [show Int.toNat (2 : Int)=2 from rfl,c1,c2]
        simp only [List.length_append,List.length_singleton]
        (repeat' (first | exact trivial | exact rfl | assumption | apply And.intro))
      · obtain ⟨c1,c2⟩ := ct_h (G := G) (n := 1) (by unfold badC; rw [if_neg (by decide)]; exact hb) hh
        rw [show Int.toNat (2 : Int)=2 from rfl,c1,c2]
        simp only [List.length_append,List.length_singleton]
        (repeat' (first | exact trivial | exact rfl | assumption | apply And.intro))
      · obtain ⟨c1,c2⟩ := ct_f (G := G) (n := 1) (by unfold badC; rw [if_neg (by decide)]; exact hb) hh
        rw [show Int.toNat (2 : Int)=2 from rfl,c1,c2]
        (repeat' (first | exact trivial | exact rfl | assumption | apply And.intro))
    · intro hm
      have en := hm.fe
      have lc := ctN_len G 2
      have lr := rdN_len G 2
      refine csplit (fun hb => cd1 ⟨rfl,by omega,by omega⟩ ⟨3,⟨by decide,by decide⟩,by simp only [mg20]; omega,?_⟩) (fun hb => csplit (fun hh => cd1 ⟨rfl,by simp only [List.length_cons,List.length_nil]; omega,by simp only [List.length_cons,List.length_nil]; omega⟩ ⟨3,⟨by decide,by decide⟩,by simp only [mg20]; omega,?_⟩) (fun hh => ⟨3,⟨by decide,by decide⟩,by simp only [mg20]; omega,?_⟩))
      · obtain ⟨c1,c2⟩ := ct_t (G := G) (n := 2) (by unfold badC; rw [if_neg (by decide)]; exact hb)
        rw [show Int.toNat (3 : Int)=3 from rfl,c1,c2]
        simp only [List.length_append,List.length_singleton]
        (repeat' (first | exact trivial | exact rfl | assumption | apply And.intro))
      · obtain ⟨c1,c2⟩ := ct_h (G := G) (n := 2) (by unfold badC; rw [if_neg (by decide)]; exact hb) hh
        rw [show Int.toNat (3 : Int)=3 from rfl,c1,c2]
        simp only [List.length_append,List.length_singleton]
        (repeat' (first | exact trivial | exact rfl | assumption | apply And.intro))
      · obtain ⟨c1,c2⟩ := ct_f (G := G) (n := 2) (by unfold badC; rw [if_neg (by decide)]; exact hb) hh
        rw [show Int.toNat (3 : Int)=3 from rfl,c1,c2]
        (repeat' (first | exact trivial | exact rfl | assumption | apply And.intro))
    · intro hm
      have en := hm.fe
      have lc := ctN_len G 3
      have lr := rdN_len G 3
      refine csplit (fun hb => cd1 ⟨rfl,by omega,by omega⟩ ⟨4,⟨by decide,by decide⟩,by simp only [mg20]; omega,?_⟩) (fun hb => csplit (fun hh => cd1 ⟨rfl,by simp only [List.length_cons,List.length_nil]; omega,by simp only [List.length_cons,List.length_nil]; omega⟩ ⟨4,⟨by decide,by decide⟩,by simp only [mg20]; omega,?_⟩) (fun hh => ⟨4,⟨by decide,by decide⟩,by simp only [mg20]; omega,?_⟩))
      · obtain ⟨c1,c2⟩ := ct_t (G := G) (n := 3) (by unfold badC; rw [if_neg (by decide)]; exact hb)
        rw [show Int.toNat (4 : Int)=4 from rfl,c1,c2]
        simp only [List.length_append,List.length_singleton]
        (repeat' (first | exact trivial | exact rfl | assumption | apply And.intro))
      · obtain ⟨c1,c2⟩ := ct_h (G := G) (n := 3) (by unfold badC; rw [if_neg (by decide)]; exact hb) hh
        rw [show Int.toNat (4 : Int)=4 from rfl,c1,c2]
        simp only [List.length_append,List.length_singleton]
        (repeat' (first | exact trivial | exact rfl | assumption | apply And.intro))
      · obtain ⟨c1,c2⟩ := ct_f (G := G) (n := 3) (by unfold badC; rw [if_neg (by decide)]; exact hb) hh
        rw [show Int.toNat (4 : Int)=4 from rfl,c1,c2]
        (repeat' (first | exact trivial | exact rfl | assumption | apply And.intro))
    · intro hm
      have en := hm.fe
      have lc := ctN_len G 4
      have lr := rdN_len G 4
      refine csplit (fun hb => cd1 ⟨rfl,by omega,by omega⟩ ⟨5,⟨by decide,by decide⟩,by simp only [mg20]; omega,?_⟩) (fun hb => csplit (fun hh => cd1 ⟨rfl,by simp only [List.length_cons,List.length_nil]; omega,by simp only [List.length_cons,List.length_nil]; omega⟩ ⟨5,⟨by decide,by decide⟩,by simp only [mg20]; omega,?_⟩) (fun hh => ⟨5,⟨by decide,by decide⟩,by simp only [mg20]; omega,?_⟩))
      · obtain ⟨c1,c2⟩ := ct_t (G := G) (n := 4) (by unfold badC; rw [if_neg (by decide)]; exact hb)
        rw [show Int.toNat (5 : Int)=5 from rfl,c1,c2]
        simp only [List.length_append,List.length_singleton]
        (repeat' (first | exact trivial | exact rfl | assumption | apply And.intro))
      · obtain ⟨c1,c2⟩ := ct_h (G := G) (n := 4) (by unfold badC; rw [if_neg (by decide)]; exact hb) hh
        rw [show Int.toNat (5 : Int)=5 from rfl,c1,c2]
        simp only [List.length_append,List.length_singleton]
        (repeat' (first | exact trivial | exact rfl | assumption | apply And.intro))
      · obtain ⟨c1,c2⟩ := ct_f (G := G) (n := 4) (by unfold badC; rw [if_neg (by decide)]; exact hb) hh
        rw [show Int.toNat (5 : Int)=5 from rfl,c1,c2]
        (repeat' (first | exact trivial | exact rfl | assumption | apply And.intro))
    · intro hm
      have en := hm.fe
      have lc := ctN_len G 5
      have lr := rdN_len G 5
      refine csplit (fun hb => cd1 ⟨rfl,by omega,by omega⟩ ⟨6,⟨by decide,by decide⟩,by simp only [mg20]; omega,?_⟩) (fun hb => csplit (fun hh => cd1 ⟨rfl,by simp only [List.length_cons,List.length_nil]; omega,by simp only [List.length_cons,List.length_nil]; omega⟩ ⟨6,⟨by decide,by decide⟩,by simp only [mg20]; omega,?_⟩) (fun hh => ⟨6,⟨by decide,by decide⟩,by simp only [mg20]; omega,?_⟩))
      · obtain ⟨c1,c2⟩ := ct_t (G := G) (n := 5) (by unfold badC; rw [if_neg (by decide)]; exact hb)
        rw [show Int.toNat (6 : Int)=6 from rfl,c1,c2]
        simp only [List.length_append,List.length_singleton]
        (repeat' (first | exact trivial | exact rfl | assumption | apply And.intro))
      · obtain ⟨c1,c2⟩ := ct_h (G := G) (n := 5) (by unfold badC; rw [if_neg (by decide)]; exact hb) hh
        rw [show Int.toNat (6 : Int)=6 from rfl,c1,c2]
        simp only [List.length_append,List.length_singleton]
        (repeat' (first | exact trivial | exact rfl | assumption | apply And.intro))
      · obtain ⟨c1,c2⟩ := ct_f (G := G) (n := 5) (by unfold badC; rw [if_neg (by decide)]; exact hb) hh
        rw [show Int.toNat (6 : Int)=6 from rfl,c1,c2]
        (repeat' (first | exact trivial | exact rfl | assumption | apply And.intro))
    · intro hm
      have en := hm.fe
      have lc := ctN_len G 6
      have lr := rdN_len G 6
      refine csplit (fun hb => cd1 ⟨rfl,by omega,by omega⟩ ⟨7,⟨by decide,by decide⟩,by simp only [mg20]; omega,?_⟩) (fun hb => csplit (fun hh => cd1 ⟨rfl,by simp only [List.length_cons,List.length_nil]; omega,by simp only [List.length_cons,List.length_nil]; omega⟩ ⟨7,⟨by decide,by decide⟩,by simp only [mg20]; omega,?_⟩) (fun hh => ⟨7,⟨by decide,by decide⟩,by simp only [mg20]; omega,?_⟩))
      · obtain ⟨c1,c2⟩ := ct_t (G := G) (n := 6) (by unfold badC; rw [if_neg (by decide)]; exact hb)
        rw [show Int.toNat (7 : Int)=7 from rfl,c1,c2]
        simp only [List.length_append,List.length_singleton]
        (repeat' (first | exact trivial | exact rfl | assumption | apply And.intro))
      · obtain ⟨c1,c2⟩ := ct_h (G := G) (n := 6) (by unfold badC; rw [if_neg (by decide)]; exact hb) hh
        rw [show Int.toNat (7 : Int)=7 from rfl,c1,c2]
        simp only [List.length_append,List.length_singleton]
        (repeat' (first | exact trivial | exact rfl | assumption | apply And.intro))
      · obtain ⟨c1,c2⟩ := ct_f (G := G) (n := 6) (by unfold badC; rw [if_neg (by decide)]; exact hb) hh
        rw [show Int.toNat (7 : Int)=7 from rfl,c1,c2]
        (repeat' (first | exact trivial | exact rfl | assumption | apply And.intro))
    · intro hm
      have en := hm.fe
      have lc := ctN_len G 7
      have lr := rdN_len G 7
      refine csplit (fun hb => cd1 ⟨rfl,by omega,by omega⟩ ⟨8,⟨by decide,by decide⟩,by simp only [mg20]; omega,?_⟩) (fun hb => csplit (fun hh => cd1 ⟨rfl,by simp only [List.length_cons,List.length_nil]; omega,by simp only [List.length_cons,List.length_nil]; omega⟩ ⟨8,⟨by decide,by decide⟩,by simp only [mg20]; omega,?_⟩) (fun hh => ⟨8,⟨by decide,by decide⟩,by simp only [mg20]; omega,?_⟩))
      · obtain ⟨c1,c2⟩ := ct_t (G := G) (n := 7) (by unfold badC; rw [if_neg (by decide)]; exact hb)
        rw [show Int.toNat (8 : Int)=8 from rfl,c1,c2]
        simp only [List.length_append,List.length_singleton]
        (repeat' (first | exact trivial | exact rfl | assumption | apply And.intro))
      · obtain ⟨c1,c2⟩ := ct_h (G := G) (n := 7) (by unfold badC; rw [if_neg (by decide)]; exact hb) hh
        rw [show Int.toNat (8 : Int)=8 from rfl,c1,c2]
        simp only [List.length_append,List.length_singleton]
        (repeat' (first | exact trivial | exact rfl | assumption | apply And.intro))
      · obtain ⟨c1,c2⟩ := ct_f (G := G) (n := 7) (by unfold badC; rw [if_neg (by decide)]; exact hb) hh
        rw [show Int.toNat (8 : Int)=8 from rfl,c1,c2]
        (repeat' (first | exact trivial | exact rfl | assumption | apply And.intro))
    · intro hm
      have en := hm.fe
      have lc := ctN_len G 8
      have lr := rdN_len G 8
      refine csplit (fun hb => cd1 ⟨rfl,by omega,by omega⟩ ⟨9,⟨by decide,by decide⟩,by simp only [mg20]; omega,?_⟩) (fun hb => csplit (fun hh => cd1 ⟨rfl,by simp only [List.length_cons,List.length_nil]; omega,by simp only [List.length_cons,List.length_nil]; omega⟩ ⟨9,⟨by decide,by decide⟩,by simp only [mg20]; omega,?_⟩) (fun hh => ⟨9,⟨by decide,by decide⟩,by simp only [mg20]; omega,?_⟩))
      · obtain ⟨c1,c2⟩ := ct_t (G := G) (n := 8) (by unfold badC; rw [if_neg (by decide)]; exact hb)
        rw [show Int.toNat (9 : Int)=9 from rfl,c1,c2]
        simp only [List.length_append,List.length_singleton]
        (repeat' (first | exact trivial | exact rfl | assumption | apply And.intro))
      · obtain ⟨c1,c2⟩ := ct_h (G := G) (n := 8) (by unfold badC; rw [if_neg (by decide)]; exact hb) hh
        rw [show Int.toNat (9 : Int)=9 from rfl,c1,c2]
        simp only [List.length_append,List.length_singleton]
        (repeat' (first | exact trivial | exact rfl | assumption | apply And.intro))
      · obtain ⟨c1,c2⟩ := ct_f (G := G) (n := 8) (by unfold badC; rw [if_neg (by decide)]; exact hb) hh
        rw [show Int.toNat (9 : Int)=9 from rfl,c1,c2]
        (repeat' (first | exact trivial | exact rfl | assumption | apply And.intro))
    · intro hm
      have en := hm.fe
      have lc := ctN_len G 9
      have lr := rdN_len G 9
      refine csplit (fun hb => cd1 ⟨rfl,by omega,by omega⟩ ⟨10,⟨by decide,by decide⟩,by simp only [mg20]; omega,?_⟩) (fun hb => csplit (fun hh => cd1 ⟨rfl,by simp only [List.length_cons,List.length_nil]; omega,by simp only [List.length_cons,List.length_nil]; omega⟩ ⟨10,⟨by decide,by decide⟩,by simp only [mg20]; omega,?_⟩) (fun hh => ⟨10,⟨by decide,by decide⟩,by simp only [mg20]; omega,?_⟩))
      · obtain ⟨c1,c2⟩ := ct_t (G := G) (n := 9) (by unfold badC; rw [if_neg (by decide)]; exact hb)
        rw [show Int.toNat (10 : Int)=10 from rfl,c1,c2]
        simp only [List.length_append,List.length_singleton]
        (repeat' (first | exact trivial | exact rfl | assumption | apply And.intro))
      · obtain ⟨c1,c2⟩ := ct_h (G := G) (n := 9) (by unfold badC; rw [if_neg (by decide)]; exact hb) hh
        rw [show Int.toNat (10 : Int)=10 from rfl,c1,c2]
        simp only [List.length_append,List.length_singleton]
        (repeat' (first | exact trivial | exact rfl | assumption | apply And.intro))
      · obtain ⟨c1,c2⟩ := ct_f (G := G) (n := 9) (by unfold badC; rw [if_neg (by decide)]; exact hb) hh
        rw [show Int.toNat (10 : Int)=10 from rfl,c1,c2]
        (repeat' (first | exact trivial | exact rfl | assumption | apply And.intro))
    · intro hm
      have en := hm.fe
      have lc := ctN_len G 10
      have lr := rdN_len G 10
      refine csplit (fun hb => cd1 ⟨rfl,by omega,by omega⟩ ⟨11,⟨by decide,by decide⟩,by simp only [mg20]; omega,?_⟩) (fun hb => csplit (fun hh => cd1 ⟨rfl,by simp only [List.length_cons,List.length_nil]; omega,by simp only [List.length_cons,List.length_nil]; omega⟩ ⟨11,⟨by decide,by decide⟩,by simp only [mg20]; omega,?_⟩) (fun hh => ⟨11,⟨by decide,by decide⟩,by simp only [mg20]; omega,?_⟩))
      · obtain ⟨c1,c2⟩ := ct_t (G := G) (n := 10) (by unfold badC; rw [if_neg (by decide)]; exact hb)
        rw [show Int.toNat (11 : Int)=11 from rfl,c1,c2]
        simp only [List.length_append,List.length_singleton]
        (repeat' (first | exact trivial | exact rfl | assumption | apply And.intro))
      · obtain ⟨c1,c2⟩ := ct_h (G := G) (n := 10) (by unfold badC; rw [if_neg (by decide)]; exact hb) hh
        rw [show Int.toNat (11 : Int)=11 from rfl,c1,c2]
        simp only [List.length_append,List.length_singleton]
        (repeat' (first | exact trivial | exact rfl | assumption | apply And.intro))
      · obtain ⟨c1,c2⟩ := ct_f (G := G) (n := 10) (by unfold badC; rw [if_neg (by decide)]; exact hb) hh
        rw [show Int.toNat (11 : Int)=11 from rfl,c1,c2]
        (repeat' (first | exact trivial | exact rfl | assumption | apply And.intro))
    · intro hm
      have en := hm.fe
      have lc := ctN_len G 11
      have lr := rdN_len G 11
      refine csplit (fun hb => cd1 ⟨rfl,by omega,by omega⟩ ⟨12,⟨by decide,by decide⟩,by simp only [mg20]; omega,?_⟩) (fun hb => csplit (fun hh => cd1 ⟨rfl,by simp only [List.length_cons,List.length_nil]; omega,by simp only [List.length_cons,List.length_nil]; omega⟩ ⟨12,⟨by decide,by decide⟩,by simp only [mg20]; omega,?_⟩) (fun hh => ⟨12,⟨by decide,by decide⟩,by simp only [mg20]; omega,?_⟩))
      · obtain ⟨c1,c2⟩ := ct_t (G := G) (n := 11) (by unfold badC; rw [if_neg (by decide)]; exact hb)
        rw [show Int.toNat (12 : Int)=12 from rfl,c1,c2]
        simp only [List.length_append,List.length_singleton]
        (repeat' (first | exact trivial | exact rfl | assumption | apply And.intro))
      · obtain ⟨c1,c2⟩ := ct_h (G := G) (n := 11) (by unfold badC; rw [if_neg (by decide)]; exact hb) hh
        rw [show Int.toNat (12 : Int)=12 from rfl,c1,c2]
        simp only [List.length_append,List.length_singleton]
        (repeat' (first | exact trivial | exact rfl | assumption | apply And.intro))
      · obtain ⟨c1,c2⟩ := ct_f (G := G) (n := 11) (by unfold badC; rw [if_neg (by decide)]; exact hb) hh
        rw [show Int.toNat (12 : Int)=12 from rfl,c1,c2]
        (repeat' (first | exact trivial | exact rfl | assumption | apply And.intro))
def mgd_S (gK : LLA→Int) (gN : LLA→ByteArray) (gT : LLA→Int) (gQ : LLA→Nat→Int) (gR : LLA→LLA) (gC : LLA→LLA) : Prop := ∀ (gl : Glob) (G : List (List AV)) (f : Bool),MgP G→fnK Tryd.prog { glob := gl,spec := lk [],specH := lk [],shape := [20,39,58],slz := [(20,[2]),(39,[2])],nowf := true } { nt := 127,drop := drp [(1,1966080),(2,8587837440),(3,8589934592),(7,824633720832),(8,2250700302057472),(9,6755399441055744),(11,432345564227567616),(12,73210515542534782976),(13,4835629491482221860618240),(14,149906801632214017663565824),(15,154742504910672534362390528),(16,309485009821345068724781056),(17,618970019642690137449562112),(18,17331160549995323848587739136),(21,475368975085586025561263702016),(22,39930993907189226147146150969344),(23,81129638414606681695789005144064),(24,10222334440240441893669414648152064),(25,20769187434139310514121985316880384),(26,42493757490249029311893581958337265664),(27,42535295865117307932921825928971026432),(28,85070591730234615865843651857942052864)],tys := [32],emp := fun id => cond (Nat.beq id 19) [(1000407,501,64,2),(1000409,502,3,1)] [] } (mgJ G f) 20 Tryd.f45 [.sl 10 f G] (.agg [.int .i64 (gK G),.str (gN G),.int .i64 (gT G),.int .i64 (gQ G 0),.int .i64 (gQ G 1),.int .i64 (gQ G 2),.int .i64 (gQ G 3),.sl 2 false (gR G),.int .i64 G.length,.sl 1 false (gC G)])
set_option maxRecDepth 100000 in
theorem mgd_e (gK : LLA→Int) (gN : LLA→ByteArray) (gT : LLA→Int) (gQ : LLA→Nat→Int) (gR : LLA→LLA) (gC : LLA→LLA) : mgd_T gK gN gT gQ gR gC=mgd_S gK gN gT gQ gR gC := by kernel_rfl
theorem mgd_v : mgd_S gK gN gT gQ gR gC := @Eq.mp (mgd_T gK gN gT gQ gR gC) (mgd_S gK gN gT gQ gR gC) (mgd_e gK gN gT gQ gR gC) (mgd_P)
theorem mgd_ok (gl : Glob) : SOK Tryd.prog gl 45 (mgd_s gK gN gT gQ gR gC) := by
  refine ⟨fok Tryd.func45 (by kernel_rfl) (by kernel_rfl),?_⟩
  intro xs pre r h hp
  unfold mgd_s at h
  split at h
  · simp only [Option.some.injEq,Prod.mk.injEq] at h
    obtain ⟨h1,h2⟩ := h
    subst h1 h2
    exact fnK_sound (tyOf (by kernel_rfl)) (by exact specOK rfl rfl trivial trivial) (by kernel_rfl) Tryd.func45 rfl (mgd_v gl _ _ hp)
  · cases h
end Go.Proofs.YtgnnafneglannaaDoor
