import Derived.Test.YtldiagnbagpliaaGreatDoorRRd
import Derived.Lib.OthersKept
import Derived.Laws.RangeAny
import Derived.Deep.LoopGhost
import Derived.Lib.TrimU
import Derived.Shelf.Abstract
import Derived.Deep.DeepFit
set_option maxRecDepth 100000
namespace Go.Proofs.YtldiagnbagpliaaGreatDoor
open Go
set_option linter.unusedVariables false
set_option linter.unusedSimpArgs false
theorem csx {p:Prop} [Decidable p] {A B:Prop} (h:p→A) (k:¬ p→B):cond (decide p) A B:=csplit (fun q=>h (of_decide_eq_true q)) (fun q=>k (of_decide_eq_false q))
theorem cmp_an (a b:Int):cmpI b a=- cmpI a b:=by
 unfold cmpI
 split <;> (try split) <;> (try split) <;> omega
def lexI:List Int→List Int→Int
 | [],[]=>0
 | [],_::_=>-1
 | _::_,[]=>1
 | a::x,b::y=>orI (cmpI a b) (lexI x y)
theorem lexI_rfl:∀ x:List Int,lexI x x=0
 | []=>rfl
 | a::x=>by simp only [lexI,orI]; rw [cmp_eq rfl,if_pos rfl]; exact lexI_rfl x
theorem lexI_zero:∀ {x y:List Int},lexI x y=0→x=y
 | [],[],_=>rfl
 | [],_::_,h=>by simp [lexI] at h
 | _::_,[],h=>by simp [lexI] at h
 | a::x,b::y,h=>by
  simp only [lexI,orI] at h
  split at h
  ·next e=>rw [(cmp_zero a b).1 e,lexI_zero h]
  ·next e=>exact absurd h e
theorem lexI_an:∀ x y:List Int,lexI y x=- lexI x y
 | [],[]=>rfl
 | [],_::_=>rfl
 | _::_,[]=>rfl
 | a::x,b::y=>by
  simp only [lexI,orI]
  rw [cmp_an a b,lexI_an x y]
  by_cases h:cmpI a b=0
  ·rw [if_pos (by omega),if_pos h]
  ·rw [if_neg (by omega),if_neg h]
theorem lexI_tr:∀ {x y z:List Int},lexI x y < 0→lexI y z < 0→lexI x z < 0
 | [],[],_,h,_=>by simp [lexI] at h
 | [],_::_,[],_,k=>by simp [lexI] at k
 | [],_::_,_::_,_,_=>by simp [lexI]
 | _::_,[],_,h,_=>by simp [lexI] at h
 | _::_,_::_,[],_,k=>by simp [lexI] at k
 | a::x,b::y,c::z,h,k=>by
  simp only [lexI,orI] at h k ⊢
  have A:=cmp_neg a b
  have B:=cmp_neg b c
  have C:=cmp_neg a c
  have A0:=cmp_zero a b
  have B0:=cmp_zero b c
  have C0:=cmp_zero a c
  by_cases e1:cmpI a b=0
  ·rw [if_pos e1] at h
   by_cases e2:cmpI b c=0
   ·rw [if_pos e2] at k
    rw [if_pos (C0.2 (by rw [A0.1 e1,B0.1 e2]))]
    exact lexI_tr h k
   ·rw [if_neg e2] at k
    have:=A0.1 e1
    rw [if_neg (by rw [this]; exact e2),this]
    exact k
  ·rw [if_neg e1] at h
   have h1:=A.1 h
   by_cases e2:cmpI b c=0
   ·have:=B0.1 e2
    rw [if_neg (by rw [← this]; exact e1),← this]
    exact h
   ·rw [if_neg e2] at k
    have h2:=B.1 k
    have h3:cmpI a c < 0:=C.2 (by omega)
    rw [if_neg (by omega)]
    exact h3
def nmK:List UInt8→List Int
 | []=>[0]
 | b::l=>((b.toNat:Int)+1)::nmK l
def cmpS (a b:ByteArray):Int:=if Op.bytesLess a.toList b.toList then -1 else if Op.bytesLess b.toList a.toList then 1 else 0
theorem lex_nm {x y:List Int}:∀ s t:List UInt8,lexI (nmK s++x) (nmK t++y)=orI (if Op.bytesLess s t then -1 else if Op.bytesLess t s then 1 else 0) (lexI x y)
 | [],[]=>by simp [nmK,lexI,orI,Op.bytesLess,cmpI]
 | [],b::t=>by
  have:cmpI 0 ((b.toNat:Int)+1)=-1:=cmp_lt (by omega)
  simp [nmK,lexI,orI,Op.bytesLess,this]
 | a::s,[]=>by
  have:cmpI ((a.toNat:Int)+1) 0=1:=cmp_gt (by omega)
  simp [nmK,lexI,orI,Op.bytesLess,this]
 | a::s,b::t=>by
  have ih:=lex_nm (x:=x) (y:=y) s t
  simp only [nmK,List.cons_append,lexI,Op.bytesLess]
  rcases Nat.lt_trichotomy a.toNat b.toNat with h | h | h
  ·have h1:a < b:=UInt8.lt_iff_toNat_lt.2 h
   rw [cmp_lt (by omega)]
   simp [h1,orI]
  ·have h1:a=b:=UInt8.toNat_inj.1 h
   subst h1
   have h2:¬ a < a:=UInt8.lt_irrefl a
   rw [cmp_eq rfl,ih]
   simp [h2,orI]
  ·have h1:b < a:=UInt8.lt_iff_toNat_lt.2 h
   have h2:¬ a < b:=fun q=>by have:=UInt8.lt_iff_toNat_lt.1 q; omega
   have h3:¬ a=b:=fun q=>by rw [q] at h; omega
   have h4:¬ b=a:=fun q=>h3 q.symm
   rw [cmp_gt (by omega)]
   simp [h1,h2,h3,h4,orI]
def rdK:List (List AV)→List Int
 | []=>[]
 | r::l=>rE r::rV r::rdK l
end Go.Proofs.YtldiagnbagpliaaGreatDoor
namespace Go.Proofs.YtldiagnbagpliaaGreatDoor
open Go
set_option linter.unusedVariables false
set_option linter.unusedSimpArgs false
abbrev LLA:=List (List AV)
def itA (k:Int) (nm:ByteArray) (t f a b c:Int) (rd:LLA) (co ar:Int):List AV:=[.int .i64 k,.str nm,.int .i64 t,.int .i64 f,.int .i64 a,.int .i64 b,.int .i64 c,.sl 2 false rd,.int .i64 co,.int .i64 ar]
structure ItS (r:List AV):Prop where
 fr:∃ k nm t f a b c rd co ar,r=itA k nm t f a b c rd co ar
def itKy (r:List AV):List Int:=match r with
 | .int _ k::.str n::.int _ t::_=>k::(nmK n.toList++[t])
 | _=>[]
def itRd (r:List AV):LLA:=match r with
 | _::_::_::_::_::_::_::.sl _ _ rd::_=>rd
 | _=>[]
def itCo (r:List AV):Int:=match r with
 | [_,_,_,_,_,_,_,_,.int _ c,_]=>c
 | _=>0
theorem orI_z (a:Int):orI a 0=a:=by unfold orI; split <;> omega
def RdS (rd:LLA):Prop:=∀ r ∈ rd,∃ e v:Int,r=[.int .i64 e,.int .i64 v]
theorem nmK_inj {x y:List Int}:∀ {s t:List UInt8},nmK s++x=nmK t++y→s=t∧x=y
 | [],[],h=>by simpa [nmK] using h
 | [],b::t,h=>by simp only [nmK,List.cons_append,List.cons.injEq] at h; omega
 | a::s,[],h=>by simp only [nmK,List.cons_append,List.cons.injEq] at h; omega
 | a::s,b::t,h=>by
  simp only [nmK,List.cons_append,List.cons.injEq] at h
  obtain ⟨h1,h2⟩:=h
  obtain ⟨h3,h4⟩:=nmK_inj h2
  have:a=b:=UInt8.toNat_inj.1 (by omega)
  exact ⟨by rw [this,h3],h4⟩
theorem str_inj {a b:ByteArray} (h:a.toList=b.toList):a=b:=by
 rw [ByteArray.toList_eq,ByteArray.toList_eq] at h
 obtain ⟨⟨l⟩⟩:=a
 obtain ⟨⟨m⟩⟩:=b
 simp at h
 subst h; rfl
def ltK (p q:List Int):Prop:=lexI p q < 0
def bsF (F:LLA) (q:List Int):Int:=F.foldl (fun m y=>if itKy y=q then max m (itCo y) else m) (-1)
def vsF (F:LLA) (q:List Int):LLA:=F.filter fun y=>decide (itKy y=q)&&decide (itCo y=bsF F q)
def hdK (g:LLA):List Int:=match g with
 | []=>[]
 | y::_=>itKy y
structure GrP (F:LLA) (gs:List LLA):Prop where
 fg:∀ g ∈ gs,g≠[]∧g=vsF F (hdK g)
 fs:(gs.map hdK).Pairwise ltK
 fm:∀ x ∈ F,itKy x ∈ gs.map hdK
end Go.Proofs.YtldiagnbagpliaaGreatDoor
namespace Go.Proofs.YtldiagnbagpliaaGreatDoor
open Go
set_option linter.unusedVariables false
set_option linter.unusedSimpArgs false
structure ItR (r:List AV):Prop where
 fs:ItS r
 fr:RdS (itRd r)
end Go.Proofs.YtldiagnbagpliaaGreatDoor
namespace Go.Proofs.YtldiagnbagpliaaGreatDoor
open Go
open Go.RowKit (Below)
set_option linter.unusedVariables false
set_option linter.unusedSimpArgs false
def badR (r:Nat):Bool:=(decide (r < 65)||decide (90 < r))&&(decide (r < 48)||decide (57 < r))
def nmG (s:ByteArray):Nat→Nat→Bool
 | 0,_=>false
 | f+1,pos=>if pos < s.size then (if badR (Utf8.decode s pos).1 then true else nmG s f (pos+(Utf8.decode s pos).2)) else false
theorem nmG_end (s:ByteArray) (f pos:Nat) (h:¬ pos < s.size):nmG s f pos=false:=by cases f <;> simp [nmG,h]
def okB (b:UInt8):Bool:=!(badR b.toNat)
theorem nmG_eq (s:ByteArray):∀ (f pos:Nat),s.size≤pos+f→nmG s f pos=!((s.data.toList.drop pos).all okB)
 | 0,pos,h=>by
  have hl:s.data.toList.length≤pos:=by simpa using h
  rw [List.drop_eq_nil_of_le hl]; rfl
 | f+1,pos,h=>by
  by_cases hp:pos < s.size
  ·have hl:pos < s.data.toList.length:=by simpa using hp
   have hd:s.data.toList.drop pos=s[pos]'hp::s.data.toList.drop (pos+1):=by
    rw [List.drop_eq_getElem_cons hl]; rfl
   simp only [nmG,hp,if_true]
   rw [hd,List.all_cons]
   by_cases ha:(s[pos]'hp).toNat < 128
   ·rw [decode_ascii s pos hp ha]
    show (if badR (s[pos]'hp).toNat then true else nmG s f (pos+1))=_
    rw [nmG_eq s f (pos+1) (by omega)]
    unfold okB
    cases badR (s[pos]'hp).toNat <;> simp
   ·have h1:=(decode_high s pos hp (by omega)).1
    have b1:badR (Utf8.decode s pos).1=true:=by
     unfold badR
     rw [Bool.and_eq_true,Bool.or_eq_true,Bool.or_eq_true]
     exact ⟨.inr (decide_eq_true (by omega)),.inr (decide_eq_true (by omega))⟩
    have b2:badR (s[pos]'hp).toNat=true:=by
     unfold badR
     rw [Bool.and_eq_true,Bool.or_eq_true,Bool.or_eq_true]
     exact ⟨.inr (decide_eq_true (by omega)),.inr (decide_eq_true (by omega))⟩
    rw [b1]
    unfold okB
    rw [b2]; simp
  ·rw [nmG_end s _ pos hp]
   have hl:s.data.toList.length≤pos:=by simp; omega
   rw [List.drop_eq_nil_of_le hl]; rfl
def nmOk (s:ByteArray):Bool:=decide (s.size=5)&&s.data.toList.all okB
end Go.Proofs.YtldiagnbagpliaaGreatDoor
namespace Go.Proofs.YtldiagnbagpliaaGreatDoor
open Go
set_option linter.unusedVariables false
set_option linter.unusedSimpArgs false
def badZ (r:Int):Bool:=(decide (r < 65)||decide (90 < r))&&(decide (r < 48)||decide (57 < r))
def nmc_s (badZ:Int→Bool):Sp
 | [.int .i32 r]=>some (True,.bool (badZ r))
 | _=>none
def nmc_T (badZ:Int→Bool):Prop :=
 ∀ (gl:Glob) (r:Int),(-2147483648:Int)≤r∧r≤(2147483647:Int)→bif decide (r < (65:Int)) then bif decide (r < (48:Int)) then true=badZ r else decide (57 < r)=badZ r else bif decide (90 < r) then bif decide (r < (48:Int)) then true=badZ r else decide (57 < r)=badZ r else false=badZ r
theorem nmc_P:nmc_T badZ:=by
 unfold nmc_T
 intro gl r _
 unfold badZ
 refine csx (fun h=>csx (fun k=>?_) (fun k=>?_)) (fun h=>csx (fun h2=>csx (fun k=>?_) (fun k=>?_)) (fun h2=>?_)) <;> simp [*]
def nmc_S (badZ:Int→Bool):Prop:=∀ (gl:Glob) (r:Int),fnK Tryz.prog { glob:=gl,spec:=lk [],specH:=lk [],nowf:=true } { nt:=17,drop:=drp [(1,131064)] } (fun _ _=>none) 6 Tryz.f95 [.int .i32 r] (.bool (badZ r))
theorem nmc_e (badZ:Int→Bool):nmc_T badZ=nmc_S badZ:=by kernel_rfl
theorem nmc_v:nmc_S badZ:=Eq.mp (nmc_e ..) (nmc_P)
theorem nmc_ok (gl:Glob):SOK Tryz.prog gl 95 (nmc_s badZ):=by
 refine ⟨fok Tryz.func95 (by kernel_rfl) (by kernel_rfl),?_⟩
 intro xs pre r h hp
 unfold nmc_s at h
 split at h
 ·simp only [Option.some.injEq,Prod.mk.injEq] at h
  obtain ⟨h1,h2⟩:=h
  subst h1 h2
  exact fnK_sound tyNil (by exact specOK rfl rfl trivial trivial) (by kernel_rfl) Tryz.func95 rfl (nmc_v gl _)
 ·cases h
end Go.Proofs.YtldiagnbagpliaaGreatDoor
namespace Go.Proofs.YtldiagnbagpliaaGreatDoor
open Go Go.Lib
open Go.RowKit (Below)
set_option linter.unusedVariables false
set_option linter.unusedSimpArgs false
theorem badZ_nat (r:Nat):badZ (r:Int)=badR r:=by
 unfold badZ badR
 congr 1 <;> congr 1 <;> exact decide_eq_decide.2 (by omega)
def nmI (s:ByteArray):Nat→Nat→Int
 | 0,_=>-1
 | f+1,pos=>if pos < s.size then (if badR (Utf8.decode s pos).1 then (pos:Int) else nmI s f (pos+(Utf8.decode s pos).2)) else -1
theorem nmI_end (s:ByteArray) (f pos:Nat) (h:¬ pos < s.size):nmI s f pos=-1:=by cases f <;> simp [nmI,h]
def nmX (s:ByteArray):Int:=nmI s s.size 0
theorem nmI_ge (s:ByteArray):∀ (f pos:Nat),0≤nmI s f pos↔nmG s f pos=true
 | 0,pos=>by simp [nmI,nmG]
 | f+1,pos=>by
  have e1:nmI s (f+1) pos=if pos < s.size then (if badR (Utf8.decode s pos).1 then (pos:Int) else nmI s f (pos+(Utf8.decode s pos).2)) else -1:=rfl
  have e2:nmG s (f+1) pos=if pos < s.size then (if badR (Utf8.decode s pos).1 then true else nmG s f (pos+(Utf8.decode s pos).2)) else false:=rfl
  rw [e1,e2]
  by_cases hp:pos < s.size
  ·rw [if_pos hp,if_pos hp]
   cases hb:badR (Utf8.decode s pos).1 with
   | true=>simp
   | false=>simpa using nmI_ge s f _
  ·rw [if_neg hp,if_neg hp]; simp
theorem nmX_ge (s:ByteArray):decide (0≤nmX s)=!(s.data.toList.all okB):=by
 rw [Bool.eq_iff_iff,decide_eq_true_iff]
 unfold nmX
 rw [nmI_ge,nmG_eq s _ _ (by omega)]; rfl
theorem nmI_bd (s:ByteArray):∀ (f pos:Nat),-1≤nmI s f pos∧nmI s f pos < s.size+1
 | 0,pos=>by simp only [nmI]; omega
 | f+1,pos=>by
  simp only [nmI]
  split
  ·split
   ·omega
   ·exact nmI_bd s f _
  ·omega
theorem agree_none (w:World):Agree (fun _ _=>none) w:=fun _ _ _ h=>by cases h
theorem nmc_calls (R:Nat) (w:World) (hR:R≤1114111):Calls Tryz.prog 95 #[.int .i32 (R:Int)] w fun e w'=>e=.returned (.bool (badR R))∧Below w.heap.size w w':=by
 have h:=(nmc_ok (fun _=>none)).2 [.int .i32 (R:Int)] _ _ rfl trivial w (fun _ _=>none) #[.int .i32 (R:Int)] (fun g cs h=>by cases h) (agree_none w) (by
  simp only [CVl,CV]
  exact ⟨_,_,rfl,⟨rfl,by show _∧_; omega⟩,rfl⟩)
 refine h.mono ?_
 rintro e w' ⟨u,S',rfl,hb,_,_,_,hu⟩
 simp only [CV] at hu
 rw [hu,badZ_nat]; exact ⟨rfl,hb⟩
set_option maxHeartbeats 2000000 in
set_option maxRecDepth 1000000 in
theorem indexFunc_calls (s:ByteArray) (w:World) :
  Calls Tryz.prog 127 #[.string s,.func (.func 95) #[] #[],.bool true] w fun e w'=>e=.returned (.int .i64 (nmX s))∧Below w.heap.size w w':=by
 have ent:∀ args w,(callFunc 95 args).run Tryz.prog w=.ok (.enter 95 args) w:=enters_of Tryz.func95 (by kernel_rfl) rfl
 go_enter Tryz.func127,Tryz.ntmps127
 go_wp2
 go_loopg [] s.size (fun g wx=>∃ pos:Nat,wx.heap[w.heap.size]?=some (.stringIter s pos)∧Below w.heap.size w wx∧nmI s g pos=nmX s∧s.size≤pos+g)
 case atStart=>exact ⟨0,World.iter_heap w s 0,(Below.refl _ w).alloc (Nat.le_refl _) _,rfl,by omega⟩
 case round =>
  obtain ⟨pos,hit,hbw,hleft,hfu⟩:=hrel
  have hsz:w.heap.size < wr.heap.size:=(Array.getElem?_eq_some_iff.1 hit).1
  by_cases hp:pos < s.size
  ·obtain ⟨g,rfl⟩:∃ g,gk=g+1:=⟨gk - 1,by omega⟩
   have hnx:∀ ty,(Instr.next (.pointer (some ⟨w.heap.size,0,none⟩)) true ty).run Tryz.prog wr=_:=fun ty=>Lib.run_next_any_at wr w.heap.size s pos ty hit hp
   have hwd:=Lib.width_pos s pos
   have hr1:=Lib.rune_le s pos
   obtain ⟨R,hR⟩:∃ R,(Utf8.decode s pos).1=R:=⟨_,rfl⟩
   obtain ⟨K,hK⟩:∃ K,(Utf8.decode s pos).2=K:=⟨_,rfl⟩
   simp only [nmI,hp,if_true,hR,hK] at hleft
   rw [hR,hK] at hnx
   rw [hR] at hr1
   rw [hK] at hwd
   have hit2:=Lib.iterAt_heap wr w.heap.size s pos (pos+K) hit
   have hbw2:=Lib.below_iterAt hbw (k:=w.heap.size) (Nat.le_refl _) s (pos+K)
   obtain ⟨W,hWd⟩:∃ W,wr.iterAt w.heap.size s (pos+K)=W:=⟨_,rfl⟩
   rw [hWd] at hnx hit2 hbw2
   have cS:=nmc_calls R W hr1
   have hWs:w.heap.size < W.heap.size:=(Array.getElem?_eq_some_iff.1 hit2).1
   cases hsp:badR R with
   | true =>
    rw [hsp] at cS
    simp only [hsp,if_true] at hleft
    go_wp2_with (go_at_fn 95; go_fit cS; rintro e W' ⟨rfl,hb⟩)
    go_ret
    exact ⟨by rw [← hleft] <;> rfl,hbw2.trans (hb.mono (by omega))⟩
   | false =>
    rw [hsp] at cS
    simp only [hsp,Bool.false_eq_true,if_false] at hleft
    go_wp2_with (go_at_fn 95; go_fit cS; rintro e W' ⟨rfl,hb⟩)
    go_roundg g
    case measure=>omega
    case rel=>exact ⟨pos+K,(hb.block w.heap.size hWs).trans hit2,hbw2.trans (hb.mono (by omega)),hleft,by omega⟩
  ·have hnx:∀ ty,(Instr.next (.pointer (some ⟨w.heap.size,0,none⟩)) true ty).run Tryz.prog wr=_:=fun ty=>Lib.run_next_end_at wr w.heap.size s pos ty hit hp
   rw [nmI_end s gk pos hp] at hleft
   go_wp2
   go_ret
   exact ⟨by rw [← hleft] <;> rfl,hbw⟩
theorem agree_below {S:Pin} {w w':World} (hA:Agree S w) (hb:Below w.heap.size w w'):Agree S w':=fun b o v h=>by
 obtain ⟨h1,h2⟩:=hA b o v h
 refine ⟨?_,h2⟩
 have hl:=World.block_lt_of_cell? w _ h1
 rw [hb.cell hl]; exact h1
def nix_s:Sp
 | [.str s,.fn 95 [],.bool true]=>some (True,.int .i64 (nmX s))
 | _=>none
theorem nix_ok (gl:Glob):SOK Tryz.prog gl 127 nix_s:=by
 refine ⟨fok Tryz.func127 (by kernel_rfl) (by kernel_rfl),?_⟩
 intro xs pre r h hp
 unfold nix_s at h
 split at h
 ·rename_i s
  simp only [Option.some.injEq,Prod.mk.injEq] at h
  obtain ⟨_,rfl⟩:=h
  intro w S vs hG hA hv
  simp only [CVl,CV] at hv
  obtain ⟨u1,us1,e1,⟨rfl,hs⟩,u2,us2,e2,⟨us,rfl,hus⟩,u3,us3,e3,rfl,e4⟩:=hv
  subst e4 e3 e2
  have hus:us=#[]:=by apply Array.ext'; simpa using hus
  subst hus
  have hvs:vs=#[.string s,.func (.func 95) #[] #[],.bool true]:=by apply Array.ext'; simpa using e1
  subst hvs
  refine (indexFunc_calls s w).mono ?_
  rintro e w' ⟨rfl,hb⟩
  refine ⟨_,S,rfl,hb,.refl _,fun _ _ _=>rfl,agree_below hA hb,?_⟩
  simp only [CV]
  have:=nmI_bd s s.size 0
  exact ⟨trivial,by unfold nmX; show _∧_; unfold maxLen at hs; omega⟩
 ·cases h
end Go.Proofs.YtldiagnbagpliaaGreatDoor
namespace Go.Proofs.YtldiagnbagpliaaGreatDoor
open Go
set_option linter.unusedVariables false
set_option linter.unusedSimpArgs false
def nif_s (nmX:ByteArray→Int):Sp
 | [.str s,.fn 95 []]=>some (True,.int .i64 (nmX s))
 | _=>none
def nif_T (nmX:ByteArray→Int):Prop :=
 ∀ (gl:Glob) (s:ByteArray),s.size.le (9223372036854775807:Nat)→True→True∧YtldiagnbagpliaaGreatDoor.nmX s=nmX s
theorem nif_P:nif_T nmX:=by
 unfold nif_T
 intro gl s _ _
 exact ⟨trivial,rfl⟩
def nif_S (nmX:ByteArray→Int):Prop:=∀ (gl:Glob) (s:ByteArray),fnK Tryz.prog { glob:=gl,spec:=lk [(127,nix_s)],specH:=lk [],nowf:=true } { nt:=8,drop:=drp [(1,224)] } (fun _ _=>none) 6 Tryz.f118 [.str s,.fn 95 []] (.int .i64 (nmX s))
theorem nif_e (nmX:ByteArray→Int):nif_T nmX=nif_S nmX:=by kernel_rfl
theorem nif_v:nif_S nmX:=Eq.mp (nif_e ..) (nif_P)
theorem nif_ok (gl:Glob):SOK Tryz.prog gl 118 (nif_s nmX):=by
 refine ⟨fok Tryz.func118 (by kernel_rfl) (by kernel_rfl),?_⟩
 intro xs pre r h hp
 unfold nif_s at h
 split at h
 ·simp only [Option.some.injEq,Prod.mk.injEq] at h
  obtain ⟨h1,h2⟩:=h
  subst h1 h2
  exact fnK_sound tyNil (by exact specOK rfl rfl ⟨(nix_ok gl),trivial⟩ trivial) (by kernel_rfl) Tryz.func118 rfl (nif_v gl _)
 ·cases h
theorem byte_at (s:ByteArray) {i:Nat} (h:i < s.size):byteI s i=((s.data.toList.getD i 0).toNat:Int):=by
 unfold byteI
 have hl:i < s.data.toList.length:=by simp; exact h
 rw [getElem?_pos s i h,List.getD_eq_getElem?_getD,List.getElem?_eq_getElem hl]
 rfl
def bdB (s:ByteArray):Bool:=!(s.data.toList.all okB)
def ncf_s:Sp
 | [.str s,.fn 95 []]=>some (True,.bool (bdB s))
 | _=>none
def ncf_T:Prop :=
 ∀ (gl:Glob) (s:ByteArray),s.size.le (9223372036854775807:Nat)→True→True∧decide (0≤nmX s)=bdB s
theorem ncf_P:ncf_T:=by
 unfold ncf_T
 intro gl s _ _
 exact ⟨trivial,nmX_ge s⟩
def ncf_S:Prop:=∀ (gl:Glob) (s:ByteArray),fnK Tryz.prog { glob:=gl,spec:=lk [(118,(nif_s Go.Proofs.YtldiagnbagpliaaGreatDoor.nmX))],specH:=lk [],nowf:=true } { nt:=9,drop:=drp [(1,480)] } (fun _ _=>none) 6 Tryz.f94 [.str s,.fn 95 []] (.bool (bdB s))
theorem ncf_e:ncf_T=ncf_S:=by kernel_rfl
theorem ncf_v:ncf_S:=Eq.mp (ncf_e ..) (ncf_P)
theorem ncf_ok (gl:Glob):SOK Tryz.prog gl 94 ncf_s:=by
 refine ⟨fok Tryz.func94 (by kernel_rfl) (by kernel_rfl),?_⟩
 intro xs pre r h hp
 unfold ncf_s at h
 split at h
 ·simp only [Option.some.injEq,Prod.mk.injEq] at h
  obtain ⟨h1,h2⟩:=h
  subst h1 h2
  exact fnK_sound tyNil (by exact specOK rfl rfl ⟨(nif_ok gl),trivial⟩ trivial) (by kernel_rfl) Tryz.func94 rfl (ncf_v gl _)
 ·cases h
def gname_s (nmOk:ByteArray→Bool):Sp
 | [.str s]=>some (True,.bool (nmOk s))
 | _=>none
def gname_T (nmOk:ByteArray→Bool):Prop :=
 ∀ (gl:Glob) (s:ByteArray),s.size.le (9223372036854775807:Nat)→bif decide ((↑s.size:Int)=(5:Int)) then True∧(!bdB s)=nmOk s else false=nmOk s
theorem gname_P:gname_T nmOk:=by
 unfold gname_T
 intro gl s _
 unfold nmOk bdB
 refine csx (fun h=>⟨trivial,?_⟩) (fun h=>?_)
 ·rw [decide_eq_true (show s.size=5 by omega)]
  cases s.data.toList.all okB <;> rfl
 ·rw [decide_eq_false (show ¬ s.size=5 by omega)]; rfl
def gname_S (nmOk:ByteArray→Bool):Prop:=∀ (gl:Glob) (s:ByteArray),fnK Tryz.prog { glob:=gl,spec:=lk [(94,ncf_s)],specH:=lk [],nowf:=true } { nt:=11,drop:=drp [(1,2040)] } (fun _ _=>none) 6 Tryz.f56 [.str s] (.bool (nmOk s))
theorem gname_e (nmOk:ByteArray→Bool):gname_T nmOk=gname_S nmOk:=by kernel_rfl
theorem gname_v:gname_S nmOk:=Eq.mp (gname_e ..) (gname_P)
theorem gname_ok (gl:Glob):SOK Tryz.prog gl 56 (gname_s nmOk):=by
 refine ⟨fok Tryz.func56 (by kernel_rfl) (by kernel_rfl),?_⟩
 intro xs pre r h hp
 unfold gname_s at h
 split at h
 ·simp only [Option.some.injEq,Prod.mk.injEq] at h
  obtain ⟨h1,h2⟩:=h
  subst h1 h2
  exact fnK_sound tyNil (by exact specOK rfl rfl ⟨(ncf_ok gl),trivial⟩ trivial) (by kernel_rfl) Tryz.func56 rfl (gname_v gl _)
 ·cases h
def rkind_s:Sp
 | [.int .i64 k]=>some (True,.bool (decide (1≤k∧k≤3)))
 | _=>none
def rkind_T:Prop :=
 ∀ (gl:Glob) (k:Int),IR9 k→bif decide (1≤k) then decide (k≤(3:Int))=decide (1≤k∧k≤(3:Int)) else false=decide (1≤k∧k≤(3:Int))
theorem rkind_P:rkind_T:=by
 unfold rkind_T
 intro gl k _
 exact csx (fun h=>by simp [h]) (fun h=>by simp [h])
def rkind_S:Prop:=∀ (gl:Glob) (k:Int),fnK Tryz.prog { glob:=gl,spec:=lk [],specH:=lk [],nowf:=true } { nt:=9,drop:=drp [(1,504)] } (fun _ _=>none) 6 Tryz.f51 [.int .i64 k] (.bool (decide (1≤k∧k≤3)))
theorem rkind_e:rkind_T=rkind_S:=by kernel_rfl
theorem rkind_v:rkind_S:=Eq.mp (rkind_e ..) (rkind_P)
theorem rkind_ok (gl:Glob):SOK Tryz.prog gl 51 rkind_s:=by
 refine ⟨fok Tryz.func51 (by kernel_rfl) (by kernel_rfl),?_⟩
 intro xs pre r h hp
 unfold rkind_s at h
 split at h
 ·simp only [Option.some.injEq,Prod.mk.injEq] at h
  obtain ⟨h1,h2⟩:=h
  subst h1 h2
  exact fnK_sound tyNil (by exact specOK rfl rfl trivial trivial) (by kernel_rfl) Tryz.func51 rfl (rkind_v gl _)
 ·cases h
structure NmP (s:ByteArray) (i:Int):Prop where
 flo:0≤i
 fhi:i≤s.size
 fb:∀ j:Nat,(j:Int) < i→okB (s.data.toList.getD j 0)=true
def nmL (s:ByteArray):LInv:=⟨Int,fun i=>⟨[(0,.str s),(2,.bool false),(3,.int .i64 i)],[]⟩,NmP s,fun i=>(s.size - i).toNat,none⟩
def rname_s (nmOk:ByteArray→Bool):Sp
 | [.str s]=>some (True,.bool (nmOk s))
 | _=>none
def rname_T (nmOk:ByteArray→Bool):Prop :=
  ∀ (gl:Glob) (s:ByteArray),s.size.le (9223372036854775807:Nat)→(∃ x,NmP s x∧(s=s∧false=false∧(0:Int)=x∧True)∧True)∧∀ (x:Int),NmP s x→bif decide (x < (↑s.size:Int)) then bif decide (0≤x∧x < (↑s.size:Int)) then bif decide (65≤byteI s x.toNat) then bif decide (0≤x∧x < (↑s.size:Int)) then bif decide (byteI s x.toNat≤(90:Int)) then bif decide (rng .i64 (x+(1:Int))) then ∃
 y,NmP s y∧(nmL s).m y < (nmL s).m x∧(s=s∧false=false∧x+(1:Int)=y∧True)∧True else False else bif decide (0≤x∧x < (↑s.size:Int)) then bif decide (48≤byteI s x.toNat) then bif decide (0≤x∧x < (↑s.size:Int)) then bif !decide (byteI s x.toNat≤(57:Int)) then false=nmOk s else bif decide (rng .i64 (x+(1:Int))) then ∃ y,NmP s y∧(nmL s).m y < (nmL s).m x∧(s=s∧false=false∧x +
 (1:Int)=y∧True)∧True else False else False else false=nmOk s else False else False else bif decide (0≤x∧x < (↑s.size:Int)) then bif decide (48≤byteI s x.toNat) then bif decide (0≤x∧x < (↑s.size:Int)) then bif !decide (byteI s x.toNat≤(57:Int)) then false=nmOk s else bif decide (rng .i64 (x+(1:Int))) then ∃ y,NmP s y∧(nmL s).m y < (nmL s).m x∧(s=s∧false=false∧x +
 (1:Int)=y∧True)∧True else False else False else false=nmOk s else False else False else decide ((↑s.size:Int)=(5:Int))=nmOk s
theorem rname_P:rname_T nmOk:=by
 unfold rname_T
 intro gl s hs
 have hsz:s.size≤9223372036854775807:=hs
 refine ⟨⟨0,⟨by decide,by omega,fun j hj=>by omega⟩,by (repeat' (first | exact trivial | exact rfl | assumption | apply And.intro))⟩,?_⟩
 rintro i ⟨i0,i1,ib⟩
 have hb:i < s.size→okB (s.data.toList.getD i.toNat 0)=!((decide (byteI s i.toNat < 65)||decide (90 < byteI s i.toNat))&&(decide (byteI s i.toNat < 48)||decide (57 < byteI s i.toNat))):=fun hi=>by
  rw [byte_at s (by omega)]
  unfold okB badR
  congr 1
  congr 1 <;> congr 1 <;> exact decide_eq_decide.2 (by omega)
 have good:i < s.size→okB (s.data.toList.getD i.toNat 0)=true→cond (decide (rng .i64 (i+1))) (∃ y,NmP s y∧(nmL s).m y < (nmL s).m i∧(s=s∧false=false∧i+1=y∧True)∧True) False:=fun hi ho =>
  cdI (by omega) ⟨i+1,⟨by omega,by omega,fun j hj=>by
   rcases Int.lt_or_le (j:Int) i with q | q
   ·exact ib j q
   ·rw [show j=i.toNat by omega]; exact ho⟩,by simp only [nmL]; omega,by (repeat' (first | exact trivial | exact rfl | assumption | apply And.intro))⟩
 have bad:i < s.size→okB (s.data.toList.getD i.toNat 0)=false→false=nmOk s:=fun hi ho=>by
  have:s.data.toList.all okB=false:=by
   rw [List.all_eq_false]
   have hl:i.toNat < s.data.toList.length:=by simp; show i.toNat < s.size; omega
   refine ⟨s.data.toList[i.toNat],List.getElem_mem hl,?_⟩
   rw [List.getD_eq_getElem?_getD,List.getElem?_eq_getElem hl] at ho
   simpa using ho
  unfold nmOk
  rw [this]; simp
 have fin:¬ i < s.size→decide ((s.size:Int)=5)=nmOk s:=fun hi=>by
  have:s.data.toList.all okB=true:=by
   rw [List.all_eq_true]
   intro x hx
   obtain ⟨j,hj,rfl⟩:=List.mem_iff_getElem.1 hx
   have hj':j < s.size:=by simpa using hj
   have:=ib j (by omega)
   rw [List.getD_eq_getElem?_getD,List.getElem?_eq_getElem hj] at this
   exact this
  unfold nmOk
  rw [this,Bool.and_true]
  exact decide_eq_decide.2 (by omega)
 have second:i < s.size→¬ (65≤byteI s i.toNat∧byteI s i.toNat≤90)→cond (decide (0≤i∧i < (s.size:Int))) (cond (decide (48≤byteI s i.toNat)) (cond (decide (0≤i∧i < (s.size:Int))) (cond (!decide (byteI s i.toNat≤57)) (false=nmOk s) (cond (decide (rng .i64 (i+1))) (∃ y,NmP s y∧(nmL s).m y < (nmL s).m i∧(s=s∧false=false∧i+1=y∧True)∧True) False)) False) (false=nmOk s)) False:=fun hi hn =>
  cd1 (by omega) (csx (fun h1=>cd1 (by omega) (csplit (fun h2=>bad hi (by rw [hb hi]; simp at h2; simp; omega)) (fun h2=>good hi (by rw [hb hi]; simp at h2; simp; omega)))) (fun h1=>bad hi (by rw [hb hi]; simp; omega)))
 exact csx (fun hi=>cd1 (by omega) (csx (fun h1=>cd1 (by omega) (csx (fun h2=>good hi (by rw [hb hi]; simp; omega)) (fun h2=>second hi (by omega)))) (fun h1=>second hi (by omega)))) fin
def rname_S (nmOk:ByteArray→Bool):Prop:=∀ (gl:Glob) (s:ByteArray),fnK Tryz.prog { glob:=gl,spec:=lk [],specH:=lk [],nowf:=true } { nt:=36,drop:=drp [(2,112),(3,768),(4,4294966272),(6,60129542144)] } (invs [(2,nmL s)]) 6 Tryz.f75 [.str s] (.bool (nmOk s))
theorem rname_e (nmOk:ByteArray→Bool):rname_T nmOk=rname_S nmOk:=by kernel_rfl
theorem rname_v:rname_S nmOk:=Eq.mp (rname_e ..) (rname_P)
theorem rname_ok (gl:Glob):SOK Tryz.prog gl 75 (rname_s nmOk):=by
 refine ⟨fok Tryz.func75 (by kernel_rfl) (by kernel_rfl),?_⟩
 intro xs pre r h hp
 unfold rname_s at h
 split at h
 ·simp only [Option.some.injEq,Prod.mk.injEq] at h
  obtain ⟨h1,h2⟩:=h
  subst h1 h2
  exact fnK_sound tyNil (by exact specOK rfl rfl trivial trivial) (by kernel_rfl) Tryz.func75 rfl (rname_v gl _)
 ·cases h
end Go.Proofs.YtldiagnbagpliaaGreatDoor
namespace Go.Proofs.YtldiagnbagpliaaGreatDoor
open Go
set_option linter.unusedVariables false
set_option linter.unusedSimpArgs false
abbrev LLR:=List (List AV)
def pdA (fr:Int) (cl:Bool) (f a b c:Int) (bs:LLR):List AV:=[.int .i64 fr,.bool cl,.int .i64 f,.int .i64 a,.int .i64 b,.int .i64 c,.sl 2 false bs]
def stA (k:Int) (nm:ByteArray) (ps:LLR):List AV:=[.int .i64 k,.str nm,.sl 7 false ps]
structure PdsP (ps:LLR):Prop where
 fr:∀ i,i < ps.length→∃ (fr:Int) (cl:Bool) (f a b c:Int) (bs:LLR),ps.getD i []=pdA fr cl f a b c bs∧RdsP bs∧bs.length≤1000
 fs:ps.length≤1000000
structure StsP (l:LLR):Prop where
 fr:∀ i,i < l.length→∃ (k:Int) (nm:ByteArray) (ps:LLR),l.getD i []=stA k nm ps∧PdsP ps
 fs:l.length≤1000000
def exK (k:Int):Bool:=decide (1≤k∧k≤3)
def nonP (f a b c:Int):Bool:=decide (f=0∧a=0∧b=0∧c=0)
def bsX (bs:LLR) (i:Nat):Bool:=!(okC (rE (bs.getD i [])))||(decide (1000 < rV (bs.getD i []))||(decide (rV (bs.getD i []) < -1000)||(decide (0 < i)&&decide (rE (bs.getD i [])≤rE (bs.getD (i - 1) [])))))
def bsOk (bs:LLR):Bool:=decide (∀ i,i < bs.length→bsX bs i=false)
def pdV (k fr:Int) (cl:Bool) (f a b c:Int) (bs:LLR):Bool :=
 if fr < 0∨52595999 < fr then false else if cl=true then nonP f a b c&&decide (bs.length=0) else if bsOk bs then (if k=1 then isN f a b c else nonP f a b c) else false
def sNm (r:List AV):ByteArray:=match r with
 | [_,.str s,_]=>s
 | _=>⟨#[]⟩
def sPs (r:List AV):LLR:=match r with
 | [_,_,.sl _ _ ps]=>ps
 | _=>[]
def pdR (k:Int) (r:List AV):Bool:=match r with
 | [.int _ fr,.bool cl,.int _ f,.int _ a,.int _ b,.int _ c,.sl _ _ bs]=>pdV k fr cl f a b c bs
 | _=>false
def s1B (ps:LLR):Bool:=decide (ps.length=0)||decide (8 < (ps.length:Int))
def bdP (k:Int) (r:List AV):Bool:=!(pdR k r)
def p1R (r:List AV):Bool:=s1B (sPs r)
def p2R (r:List AV):Bool:=!(exK (rE r))
def p3R (r:List AV):Bool:=!(nmOk (sNm r))
def p4R (r:List AV):Bool:=(sPs r).any (bdP (rE r))
def p5R (r:List AV):Bool:=!(ascB (sPs r))
structure StsW (l:LLR) (q m:Nat):Prop where
 fr:∀ i,i < l.length→∃ (k:Int) (nm:ByteArray) (ps:LLR),l.getD i []=stA k nm ps∧PdsP ps∧ps.length≤q
 fl:l.length≤m
structure PrdQ (bs:LLR) (j:Int):Prop where
 fr:RdsP bs
 fl:bs.length≤11
 fj:0≤j
structure PrdP (x:Int × Int × Int × Int × Int × Int × Int × LLR):Prop where
 fc:1≤x.2.2.2.2.2.1∧x.2.2.2.2.2.1≤12
 fj:0≤x.2.2.2.2.2.2.1
 fr:RdsP x.2.2.2.2.2.2.2
 fl:(x.2.2.2.2.2.2.2.length:Int) < x.2.2.2.2.2.1
theorem rdsP_nil:RdsP []:=⟨fun i h=>by simp at h,by simp⟩
theorem rds_add {bs:LLR} {e v:Int} (h:RdsP bs) (he:rng .i64 e) (hv:rng .i64 v) (hl:bs.length≤1000):RdsP (bs++[[.int .i64 e,.int .i64 v]]):=by
 refine ⟨fun i hi=>?_,by simp; omega⟩
 rw [List.length_append,List.length_singleton] at hi
 rw [gD_app]
 by_cases q:i < bs.length
 ·rw [if_pos q]; exact h.row i q
 ·rw [if_neg q,show i - bs.length=0 by omega]
  exact ⟨e,v,rfl,he,hv⟩
structure KndQ (k j:Int):Prop where
 fk:1≤k∧k≤3
def qkinds_s:Sp
 | [.str s]=>some (s ∈ nam6,.int .i64 (byteI s 0 % 3+1))
 | _=>none
def qkinds_T:Prop :=
 ∀ (gl:Glob) (s:ByteArray),List.Mem s nam6→s.size.le (9223372036854775807:Nat)→bif decide ((0:Int)≤(0:Int)∧(0:Int) < (↑s.size:Int)) then bif decide (rng .i64 ((1:Int)+(byteI s (0:Nat)).tmod (3:Int))) then (1:Int)+(byteI s (0:Nat)).tmod (3:Int)=byteI s (0:Nat) % (3:Int)+(1:Int) else False else False
theorem qkinds_P:qkinds_T:=by
 unfold qkinds_T
 intro gl s hm _
 have hm:s ∈ nam6:=hm
 unfold nam6 at hm
 simp only [List.mem_cons,List.not_mem_nil,or_false] at hm
 rcases hm with rfl | rfl | rfl | rfl | rfl | rfl <;> exact cd1 (by decide) (cdI (by decide) (by decide))
def qkinds_S:Prop:=∀ (gl:Glob) (s:ByteArray),s ∈ nam6→fnK Tryz.prog { glob:=gl,spec:=lk [],specH:=lk [] } { nt:=8,drop:=drp [(1,248)] } (fun _ _=>none) 6 Tryz.f41 [.str s] (.int .i64 (byteI s 0 % 3+1))
theorem qkinds_e:qkinds_T=qkinds_S:=by kernel_rfl
theorem qkinds_v:qkinds_S:=Eq.mp (qkinds_e ..) (qkinds_P)
theorem qkinds_ok (gl:Glob):SOK Tryz.prog gl 41 qkinds_s:=by
 refine ⟨fok Tryz.func41 (by kernel_rfl) (by kernel_rfl),?_⟩
 intro xs pre r h hp
 unfold qkinds_s at h
 split at h
 ·simp only [Option.some.injEq,Prod.mk.injEq] at h
  obtain ⟨h1,h2⟩:=h
  subst h1 h2
  exact fnK_sound tyNil (by exact specOK rfl rfl trivial trivial) (by kernel_rfl) Tryz.func41 rfl (qkinds_v gl _ hp)
 ·cases h
structure FdP (l:LLR) (i:Int):Prop where
 flo:0≤i
 fhi:i≤l.length
structure FdQ (ps:LLR):Prop where
 fr:PdsP ps
 fl:ps.length≤8
theorem pds_nil:PdsP []:=⟨fun i h=>by simp at h,by simp⟩
structure BsR (bs:LLR) (i:Int):Prop where
 flo:0≤i
 fhi:i≤bs.length
 fno:∀ j:Nat,(j:Int) < i→bsX bs j=false
def rb2 (bs:LLR) (g:Bool):LInv:=⟨Int,fun i=>⟨[(0,.sl 2 g bs),(3,.int .i64 i)],[]⟩,BsR bs,fun i=>(bs.length - i).toNat,none⟩
def rbias_s (iL:Int→ByteArray) (inLo:Int→Int) (inHi:Int→Int) (inD:Int→Int) (inE:Int→Int) (bsOk:LLR→Bool):Sp
 | [.sl 2 g bs]=>some (RdsP bs,.bool (bsOk bs))
 | _=>none
def rbias_T (iL:Int→ByteArray) (inLo:Int→Int) (inHi:Int→Int) (inD:Int→Int) (inE:Int→Int) (bsOk:LLR→Bool):Prop :=
  ∀ (gl:Glob) (g:Bool) (bs:List (List AV)),RdsP bs→True→(∃ x,BsR bs x∧(((bif g then g=true else True)∧bs=bs)∧(0:Int)=x∧True)∧True)∧∀ (x:Int),BsR bs x→bif decide (x < (↑bs.length:Int)) then bif decide (0≤x∧x < (↑bs.length:Int)) then ∃ n,List.take [AV.int .i64 n].length (List.drop (0:Nat) (bs.getD x.toNat []))=[AV.int .i64 n]∧True∧bif decide ¬inE n=(0:Int) then false=bsOk bs else bif
 decide (0≤x∧x < (↑bs.length:Int)) then ∃ n,List.take [AV.int .i64 n].length (List.drop (1:Nat) (bs.getD x.toNat []))=[AV.int .i64 n]∧bif decide (n < (-1000:Int)) then false=bsOk bs else bif decide (0≤x∧x < (↑bs.length:Int)) then ∃ n,List.take [AV.int .i64 n].length (List.drop (1:Nat) (bs.getD x.toNat []))=[AV.int .i64 n]∧bif decide (1000 < n) then false=bsOk bs else bif decide
 (0 < x) then bif decide (rng .i64 (x - (1:Int))) then bif decide (0≤x - (1:Int)∧x - (1:Int) < (↑bs.length:Int)) then ∃ n,List.take [AV.int .i64 n].length (List.drop (0:Nat) (bs.getD (x - (1:Int)).toNat []))=[AV.int .i64 n]∧bif decide (0≤x∧x < (↑bs.length:Int)) then ∃ n_1,List.take [AV.int .i64 n_1].length (List.drop (0:Nat) (bs.getD x.toNat []))=[AV.int .i64 n_1]∧bif decide
 (n_1≤n) then false=bsOk bs else bif decide (rng .i64 (x+(1:Int))) then ∃ y,BsR bs y∧(rb2 bs g).m y < (rb2 bs g).m x∧(((bif g then g=true else True)∧bs=bs)∧x+(1:Int)=y∧True)∧True else False else False else False else False else bif decide (rng .i64 (x+(1:Int))) then ∃ y,BsR bs y∧(rb2 bs g).m y < (rb2 bs g).m x∧(((bif g then g=true else True)∧bs=bs)∧x+(1:Int)=y∧True)∧True else False else
 False else False else False else true=bsOk bs
theorem rbias_P:rbias_T iL inLo inHi inD inE bsOk:=by
 unfold rbias_T
 intro gl g bs hp _
 have hs:=hp.sm
 have bg:cond g (g=true) True:=by cases g <;> trivial
 refine ⟨⟨0,⟨by decide,by omega,fun j h=>by omega⟩,by (repeat' (first | exact trivial | exact rfl | assumption | apply And.intro))⟩,?_⟩
 rintro i ⟨h0,h1,hn⟩
 have bad:i < bs.length→bsX bs i.toNat=true→false=bsOk bs:=fun hi hx=>(decide_eq_false fun h=>by rw [h i.toNat (by omega)] at hx; cases hx).symm
 have good:i < bs.length→bsX bs i.toNat=false→BsR bs (i+1):=fun hi hx=>⟨by omega,by omega,fun j hj=>by
  rcases Nat.lt_or_ge j i.toNat with k | k
  ·exact hn j (by omega)
  ·rw [show j=i.toNat by omega]; exact hx⟩
 refine csx (fun hi=>cd1 (by omega) ?_) (fun hi=>(decide_eq_true fun j hj=>hn j (by omega)).symm)
 obtain ⟨e,v,he,_,_⟩:=hp.row i.toNat (by omega)
 have X:bsX bs i.toNat=(!(okC e)||(decide (1000 < v)||(decide (v < -1000)||(decide (0 < i.toNat)&&decide (e≤rE (bs.getD (i.toNat - 1) [])))))):=by unfold bsX; rw [he]; rfl
 have hE:inE e=0↔okC e=true:=by unfold inE; cases okC e <;> simp
 refine ⟨e,by rw [he]; rfl,trivial,csx (fun q=>bad hi ?_) (fun q=>cd1 (by omega) ⟨v,by rw [he]; rfl,csx (fun q2=>bad hi ?_) (fun q2=>cd1 (by omega) ⟨v,by rw [he]; rfl,csx (fun q3=>bad hi ?_) (fun q3=>csx (fun q4=>cdI (by omega) (cd1 (by omega) ?_)) (fun q4=>cdI (by omega) ⟨i+1,good hi ?_,by simp only [rb2]; omega,by (repeat' (first | exact trivial | exact rfl | assumption | apply And.intro))⟩))⟩)⟩)⟩
 ·have:okC e=false:=by
   cases h:okC e with
   | false=>rfl
   | true=>exact absurd (hE.2 h) q
  rw [X,this]; rfl
 ·rw [X,decide_eq_true q2]; simp
 ·rw [X,decide_eq_true q3]; simp
 ·obtain ⟨e',v',he',_,_⟩:=hp.row (i - 1).toNat (by omega)
  have P:rE (bs.getD (i.toNat - 1) [])=e':=by rw [show i.toNat - 1=(i - 1).toNat by omega,he']; rfl
  refine ⟨e',by rw [he']; rfl,cd1 (by omega) ⟨e,by rw [he]; rfl,csx (fun q5=>bad hi ?_) (fun q5=>cdI (by omega) ⟨i+1,good hi ?_,by simp only [rb2]; omega,by (repeat' (first | exact trivial | exact rfl | assumption | apply And.intro))⟩)⟩⟩
  ·rw [X,P,decide_eq_true q5,decide_eq_true (show 0 < i.toNat by omega)]; simp
  ·rw [X,P,decide_eq_false q5,decide_eq_false q3,decide_eq_false q2,hE.1 (Decidable.not_not.1 q)]; simp
 ·rw [X,decide_eq_false (show ¬ 0 < i.toNat by omega),decide_eq_false q3,decide_eq_false q2,hE.1 (Decidable.not_not.1 q)]; simp
def rbias_S (iL:Int→ByteArray) (inLo:Int→Int) (inHi:Int→Int) (inD:Int→Int) (inE:Int→Int) (bsOk:LLR→Bool):Prop:=∀ (gl:Glob) (g:Bool) (bs:List (List AV)),RdsP bs→fnK Tryz.prog { glob:=gl,spec:=lk [(53,(rdesc_s iL inLo inHi inD inE))],specH:=lk [],shape:=[17,28,36,48,53],nowf:=true } { nt:=57,drop:=drp [(2,448),(3,3072),(4,2093072),(5,72057594035830784)] } (invs [(2,rb2 bs g)]) 6 Tryz.f109 [.sl 2 g bs] (.bool (bsOk bs))
theorem rbias_e (iL:Int→ByteArray) (inLo:Int→Int) (inHi:Int→Int) (inD:Int→Int) (inE:Int→Int) (bsOk:LLR→Bool):rbias_T iL inLo inHi inD inE bsOk=rbias_S iL inLo inHi inD inE bsOk:=by kernel_rfl
theorem rbias_v:rbias_S iL inLo inHi inD inE bsOk:=Eq.mp (rbias_e ..) (rbias_P)
theorem rbias_ok (gl:Glob):SOK Tryz.prog gl 109 (rbias_s iL inLo inHi inD inE bsOk):=by
 refine ⟨fok Tryz.func109 (by kernel_rfl) (by kernel_rfl),?_⟩
 intro xs pre r h hp
 unfold rbias_s at h
 split at h
 ·simp only [Option.some.injEq,Prod.mk.injEq] at h
  obtain ⟨h1,h2⟩:=h
  subst h1 h2
  exact fnK_sound tyNil (by exact specOK rfl rfl ⟨(rdesc_ok gl),trivial⟩ trivial) (by kernel_rfl) Tryz.func109 rfl (rbias_v gl _ _ hp)
 ·cases h
def rperiod_s (nrm:Int→Int→Int→Int→Int × Int × Int × Int) (vld:Int→Int→Int→Int→Bool) (isN:Int→Int→Int→Int→Bool) (pdV:Int→Int→Bool→Int→Int→Int→Int→LLR→Bool) (inB:Int→Bool) (bsOk:LLR→Bool):Sp
 | [.int .i64 k,.agg [.int .i64 fr,.bool cl,.int .i64 f,.int .i64 a,.int .i64 b,.int .i64 c,.sl 2 g bs]]=>some (RdsP bs,.bool (pdV k fr cl f a b c bs))
 | _=>none
def rperiod_T (nrm:Int→Int→Int→Int→Int × Int × Int × Int) (vld:Int→Int→Int→Int→Bool) (isN:Int→Int→Int→Int→Bool) (pdV:Int→Int→Bool→Int→Int→Int→Int→LLR→Bool) (inB:Int→Bool) (bsOk:LLR→Bool) (iL:Int→ByteArray) (inLo:Int→Int) (inHi:Int→Int) (inD:Int→Int) (inE:Int→Int):Prop :=
  ∀ (gl:Glob) (k fr f a b c:Int) (cl g:Bool) (bs:List (List AV)),RdsP bs→IR9 k→(IR9 fr)∧True∧(IR9 f)∧(IR9 a)∧((-9223372036854775808:Int)≤b∧b ≤
 (9223372036854775807:Int))∧(IR9 c)∧True∧True→True∧bif !inB fr then false=pdV k fr cl f a b c bs else bif cl then bif decide (f=(0:Int))&&(decide (a=(0:Int))&&(decide (b=(0:Int))&&(decide (c=(0:Int))&&true))) then decide ((↑bs.length:Int)=(0:Int))=pdV k fr cl f a b c bs else false=pdV k fr cl f a b c bs else bif decide (k=(1:Int)) then
 True∧bif isN f a b c then RdsP bs∧bsOk bs=pdV k fr cl f a b c bs else false=pdV k fr cl f a b c bs else bif decide (f=(0:Int))&&(decide (a=(0:Int))&&(decide (b=(0:Int))&&(decide (c=(0:Int))&&true))) then RdsP bs∧bsOk bs=pdV k fr cl f a b c bs else false=pdV k fr cl f a b c bs
theorem rperiod_P:rperiod_T nrm vld isN pdV inB bsOk iL inLo inHi inD inE:=by
 unfold rperiod_T
 intro gl k fr f a b c cl g bs hp _ _
 have nb:(decide (f=0)&&(decide (a=0)&&(decide (b=0)&&(decide (c=0)&&true))))=nonP f a b c:=by
  unfold nonP
  rw [Bool.eq_iff_iff]; simp
 rw [nb]
 unfold pdV
 refine ⟨trivial,csplit (fun q=>?_) (fun q=>?_)⟩
 ·rw [if_pos (by simp [inB] at q; omega)]
 ·rw [if_neg (by simp [inB] at q; omega)]
  refine csplit (fun q2=>?_) (fun q2=>?_)
  ·rw [if_pos q2]
   have el:decide ((bs.length:Int)=0)=decide (bs.length=0):=decide_eq_decide.2 (by omega)
   rw [el]
   refine csplit (fun q3=>?_) (fun q3=>?_)
   ·rw [q3]; rfl
   ·rw [q3]; rfl
  ·rw [if_neg (by rw [q2]; decide)]
   refine csx (fun q3=>⟨trivial,csplit (fun q4=>⟨hp,?_⟩) (fun q4=>?_)⟩) (fun q3=>csplit (fun q4=>⟨hp,?_⟩) (fun q4=>?_))
   ·rw [if_pos q3,q4]; cases bsOk bs <;> rfl
   ·rw [if_pos q3,q4]; cases bsOk bs <;> rfl
   ·rw [if_neg q3,q4]; cases bsOk bs <;> rfl
   ·rw [if_neg q3,q4]; cases bsOk bs <;> rfl
def rperiod_S (nrm:Int→Int→Int→Int→Int × Int × Int × Int) (vld:Int→Int→Int→Int→Bool) (isN:Int→Int→Int→Int→Bool) (pdV:Int→Int→Bool→Int→Int→Int→Int→LLR→Bool) (inB:Int→Bool) (bsOk:LLR→Bool) (iL:Int→ByteArray) (inLo:Int→Int) (inHi:Int→Int) (inD:Int→Int) (inE:Int→Int):Prop:=∀ (gl:Glob) (k fr f a b c:Int) (cl g:Bool) (bs:List (List AV)),RdsP bs→fnK Tryz.prog { glob:=gl,spec:=lk [(108,(rIn_s inB)),(52,(rIsN_s nrm vld isN)),(109,(rbias_s iL inLo inHi inD inE bsOk))],specH:=lk [],nowf:=true } { nt:=40,drop:=drp [(1,224),(3,512),(4,2095104),(5,2097152),(6,2139095040),(7,1097364144128)],tys:=[26] } (fun _ _=>none) 6 Tryz.f76 [.int .i64 k,.agg [.int .i64 fr,.bool cl,.int .i64 f,.int .i64 a,.int .i64 b,.int .i64 c,.sl 2 g bs]] (.bool (pdV k fr cl f a b c bs))
theorem rperiod_e (nrm:Int→Int→Int→Int→Int × Int × Int × Int) (vld:Int→Int→Int→Int→Bool) (isN:Int→Int→Int→Int→Bool) (pdV:Int→Int→Bool→Int→Int→Int→Int→LLR→Bool) (inB:Int→Bool) (bsOk:LLR→Bool) (iL:Int→ByteArray) (inLo:Int→Int) (inHi:Int→Int) (inD:Int→Int) (inE:Int→Int):rperiod_T nrm vld isN pdV inB bsOk iL inLo inHi inD inE=rperiod_S nrm vld isN pdV inB bsOk iL inLo inHi inD inE:=by kernel_rfl
theorem rperiod_v:rperiod_S nrm vld isN pdV inB bsOk iL inLo inHi inD inE:=Eq.mp (rperiod_e ..) (rperiod_P)
theorem rperiod_ok (gl:Glob):SOK Tryz.prog gl 76 (rperiod_s nrm vld isN pdV inB bsOk):=by
 refine ⟨fok Tryz.func76 (by kernel_rfl) (by kernel_rfl),?_⟩
 intro xs pre r h hp
 unfold rperiod_s at h
 split at h
 ·simp only [Option.some.injEq,Prod.mk.injEq] at h
  obtain ⟨h1,h2⟩:=h
  subst h1 h2
  exact fnK_sound (tyOf (by kernel_rfl)) (by exact specOK rfl rfl ⟨(rIn_ok gl),(rIsN_ok gl),(rbias_ok gl),trivial⟩ trivial) (by kernel_rfl) Tryz.func76 rfl (rperiod_v gl _ _ _ _ _ _ _ _ _ hp)
 ·cases h
structure AnyI (e:Int):Prop where
 ft:True
structure VaI (l:LLR) (x:Int × Bool):Prop where
 flo:0≤x.1
 fhi:x.1≤l.length
structure VaJ (l:LLR) (x:Int × Bool × Bool × Bool × Bool × Bool):Prop where
 flo:0≤x.1
 fhi:x.1≤l.length
structure VaK (ps:LLR) (x:Int × Bool × Bool × Bool × Bool × Bool):Prop where
 flo:0≤x.1
 fhi:x.1≤ps.length
structure Any5 (x:Bool × Bool × Bool × Bool × Bool):Prop where
 ft:True
structure WthQ (ps l:LLR):Prop where
 fq:∀ q,8≤q→ps.length≤q→StsW l q 61
structure WthI (l ps:LLR) (x:Int × Bool × LLR):Prop where
 flo:0≤x.1
 fhi:x.1≤l.length
 fl:(x.2.2.length:Int)≤x.1+cond x.2.1 1 0
 fr:∀ q,8≤q→ps.length≤q→StsW x.2.2 q 61
structure PlsQ (ps:LLR):Prop where
 fr:PdsP ps
 fl:ps.length≤9
structure SetI (ps0:LLR) (x:Int × Bool × LLR):Prop where
 flo:0≤x.1
 fhi:x.1≤ps0.length
 fl:(x.2.2.length:Int)≤x.1+cond x.2.1 1 0
 fr:PdsP x.2.2
structure SetQ (l:LLR):Prop where
 fr:StsW l 8 60
structure RegI (x:Int × Int × LLR):Prop where
 fn:x.1≤12
 fj:0≤x.2.1
 fr:StsW x.2.2 8 60
structure RegQ (l:LLR) (j:Int):Prop where
 fr:StsW l 8 60
 fj:0≤j
end Go.Proofs.YtldiagnbagpliaaGreatDoor
namespace Go.Proofs.YtldiagnbagpliaaGreatDoor
open Go
set_option linter.unusedVariables false
set_option linter.unusedSimpArgs false
def rxL (k s:Nat) (p:List AV→Bool) (f:Bool) (xs:List (List AV)) (caps:List AV) (hp:List (Nat × Blk)):LInv:=⟨Int,fun i=>⟨[(0,.sl s f xs),(1,.fn k caps),(7,.int .i64 xs.length),(8,.int .i64 i)],hp⟩,IdxI p xs,fun i=>(xs.length - i).toNat,none⟩
def gexists_s (exK:Int→Bool):Sp
 | [.int .i64 k]=>some (True,.bool (exK k))
 | _=>none
def gexists_T (exK:Int→Bool):Prop :=
 ∀ (gl:Glob) (k:Int),IR9 k→bif decide (1≤k) then decide (k≤(3:Int))=exK k else false=exK k
theorem gexists_P:gexists_T exK:=by
 unfold gexists_T
 intro gl k _
 unfold exK
 exact csx (fun h=>by simp [h]) (fun h=>by simp [h])
def gexists_S (exK:Int→Bool):Prop:=∀ (gl:Glob) (k:Int),fnK Tryz.prog { glob:=gl,spec:=lk [],specH:=lk [],nowf:=true } { nt:=9,drop:=drp [(1,504)] } (fun _ _=>none) 6 Tryz.f45 [.int .i64 k] (.bool (exK k))
theorem gexists_e (exK:Int→Bool):gexists_T exK=gexists_S exK:=by kernel_rfl
theorem gexists_v:gexists_S exK:=Eq.mp (gexists_e ..) (gexists_P)
theorem gexists_ok (gl:Glob):SOK Tryz.prog gl 45 (gexists_s exK):=by
 refine ⟨fok Tryz.func45 (by kernel_rfl) (by kernel_rfl),?_⟩
 intro xs pre r h hp
 unfold gexists_s at h
 split at h
 ·simp only [Option.some.injEq,Prod.mk.injEq] at h
  obtain ⟨h1,h2⟩:=h
  subst h1 h2
  exact fnK_sound tyNil (by exact specOK rfl rfl trivial trivial) (by kernel_rfl) Tryz.func45 rfl (gexists_v gl _)
 ·cases h
def gnormalP_s (nrm:Int→Int→Int→Int→Int × Int × Int × Int) (vld:Int→Int→Int→Int→Bool) (isN:Int→Int→Int→Int→Bool):Sp
 | [.agg [.int .i64 f,.int .i64 a,.int .i64 b,.int .i64 c]]=>some (True,.bool (isN f a b c))
 | _=>none
def gnormalP_T (nrm:Int→Int→Int→Int→Int × Int × Int × Int) (vld:Int→Int→Int→Int→Bool) (isN:Int→Int→Int→Int→Bool):Prop :=
  ∀ (f a b c:Int),(IR9 f)∧(IR9 a)∧(IR9 b)∧(IR9 c)∧True→True∧bif decide (err (vld f a b c)=(0:Int)) then (decide (f=(nrm f a b c).fst)&&(decide (a=(nrm f a b c).snd.fst)&&(decide
 (b=(nrm f a b c).snd.snd.fst)&&(decide (c=(nrm f a b c).snd.snd.snd)&&true))))=isN f a b c else false=isN f a b c
theorem gnormalP_P:gnormalP_T nrm vld isN:=by
 unfold gnormalP_T
 intro f a b c _
 refine ⟨trivial,?_⟩
 unfold isN
 cases vld f a b c with
 | false=>exact rfl
 | true=>exact rfl
def gnormalP_S (nrm:Int→Int→Int→Int→Int × Int × Int × Int) (vld:Int→Int→Int→Int→Bool) (isN:Int→Int→Int→Int→Bool):Prop:=∀ (f a b c:Int),fnK Tryz.prog { glob:=glb,spec:=lk [(91,(normal_s vld nrm))],specH:=lk [],nowf:=true } { nt:=17,drop:=drp [(1,992),(2,130048)],tys:=[26] } (fun _ _=>none) 6 Tryz.f49 [.agg [.int .i64 f,.int .i64 a,.int .i64 b,.int .i64 c]] (.bool (isN f a b c))
theorem gnormalP_e (nrm:Int→Int→Int→Int→Int × Int × Int × Int) (vld:Int→Int→Int→Int→Bool) (isN:Int→Int→Int→Int→Bool):gnormalP_T nrm vld isN=gnormalP_S nrm vld isN:=by kernel_rfl
theorem gnormalP_v:gnormalP_S nrm vld isN:=Eq.mp (gnormalP_e ..) (gnormalP_P)
theorem gnormalP_ok:SOK Tryz.prog glb 49 (gnormalP_s nrm vld isN):=by
 refine ⟨fok Tryz.func49 (by kernel_rfl) (by kernel_rfl),?_⟩
 intro xs pre r h hp
 unfold gnormalP_s at h
 split at h
 ·simp only [Option.some.injEq,Prod.mk.injEq] at h
  obtain ⟨h1,h2⟩:=h
  subst h1 h2
  exact fnK_sound (tyOf (by kernel_rfl)) (by exact specOK rfl rfl ⟨(normal_ok),trivial⟩ trivial) (by kernel_rfl) Tryz.func49 rfl (gnormalP_v  _ _ _ _)
 ·cases h
structure BsV (bs:LLR) (i:Int):Prop where
 flo:0≤i
 fhi:i≤bs.length
 fno:∀ j:Nat,(j:Int) < i→bsX bs j=false
def bv7 (k fr:Int) (cl:Bool) (f a b c:Int) (bs:LLR) (g:Bool):LInv:=⟨Int,fun i=>⟨[(0,.int .i64 k),(3,.ptr 3 0),(5,.bool (nonP f a b c)),(32,.sl 2 g bs),(33,.int .i64 bs.length),(34,.int .i64 i)],[(3,.cells [.int .i64 fr,.bool cl,.int .i64 f,.int .i64 a,.int .i64 b,.int .i64 c,.sl 2 g bs])]⟩,BsV bs,fun i=>(bs.length - i).toNat,none⟩
def gvalidP_s (nrm:Int→Int→Int→Int→Int × Int × Int × Int) (vld:Int→Int→Int→Int→Bool) (isN:Int→Int→Int→Int→Bool) (pdV:Int→Int→Bool→Int→Int→Int→Int→LLR→Bool) (nonP:Int→Int→Int→Int→Bool) (iL:Int→ByteArray) (inLo:Int→Int) (inHi:Int→Int) (inD:Int→Int) (inE:Int→Int):Sp
 | [.int .i64 k,.agg [.int .i64 fr,.bool cl,.int .i64 f,.int .i64 a,.int .i64 b,.int .i64 c,.sl 2 g bs]]=>some (RdsP bs,.bool (pdV k fr cl f a b c bs))
 | _=>none
def gvalidP_T (nrm:Int→Int→Int→Int→Int × Int × Int × Int) (vld:Int→Int→Int→Int→Bool) (isN:Int→Int→Int→Int→Bool) (pdV:Int→Int→Bool→Int→Int→Int→Int→LLR→Bool) (nonP:Int→Int→Int→Int→Bool) (iL:Int→ByteArray) (inLo:Int→Int) (inHi:Int→Int) (inD:Int→Int) (inE:Int→Int):Prop :=
  ∀ (k fr f a b c:Int) (cl g:Bool) (bs:List (List AV)),RdsP bs→IR9 k→(IR9 fr)∧True∧(IR9 f)∧(IR9 a)∧((-9223372036854775808:Int)≤b∧b ≤
 (9223372036854775807:Int))∧(IR9 c)∧True∧True→bif decide (fr < (0:Int)) then false=pdV k fr cl f a b c bs else bif decide (52595999 < fr) then false=pdV k fr cl f a b c bs else bif cl then bif decide (f=(0:Int))&&(decide (a=(0:Int))&&(decide (b=(0:Int))&&(decide (c=(0:Int))&&true))) then decide ((↑bs.length:Int)=(0:Int))=pdV k fr
 cl f a b c bs else false=pdV k fr cl f a b c bs else (∃ x,BsV bs x∧(k=k∧(0:Nat)=0∧(decide (f=(0:Int))&&(decide (a=(0:Int))&&(decide (b=(0:Int))&&(decide (c=(0:Int))&&true))))=YtldiagnbagpliaaGreatDoor.nonP f a b c∧((bif g then g=true else True)∧bs=bs)∧(↑bs.length:Int)=(↑bs.length:Int)∧(0:Int)=x∧True)∧(fr=fr∧cl=cl∧f=f∧a=a∧b=b∧c=c∧((bif g then g=true else True)∧bs=bs)∧True)∧True)∧∀
 (x:Int),BsV bs x→bif decide (x < (↑bs.length:Int)) then bif decide (0≤x∧x < (↑bs.length:Int)) then ∃ n n_1,List.take [AV.int .i64 n,.int .i64 n_1].length (bs.getD x.toNat [])=[AV.int .i64 n,.int .i64 n_1]∧True∧bif decide ¬inE n=(0:Int) then false=pdV k fr cl f a b c bs else bif decide (1000 < n_1) then false=pdV k fr cl f a b c bs else bif decide (n_1 < (-1000:Int)) then false=pdV k
 fr cl f a b c bs else bif decide (0 < x) then bif decide (rng .i64 (x - (1:Int))) then bif decide (0≤x - (1:Int)∧x - (1:Int) < (↑bs.length:Int)) then ∃ n_2,List.take [AV.int .i64 n_2].length (List.drop (0:Nat) (bs.getD (x - (1:Int)).toNat []))=[AV.int .i64 n_2]∧bif decide (n≤n_2) then false=pdV k fr cl f a b c bs else bif decide (rng .i64 (x+(1:Int))) then ∃ y,BsV bs y∧(bv7 k fr
 cl f a b c bs g).m y < (bv7 k fr cl f a b c bs g).m x∧(k=k∧(0:Nat)=0∧YtldiagnbagpliaaGreatDoor.nonP f a b c=YtldiagnbagpliaaGreatDoor.nonP f a b c∧((bif g then g=true else True)∧bs=bs)∧(↑bs.length:Int)=(↑bs.length:Int)∧x+(1:Int)=y∧True)∧(fr=fr∧cl=cl∧f=f∧a=a∧b=b∧c=c∧((bif g then g=true else True)∧bs=bs)∧True)∧True else False else False else False else bif decide (rng .i64 (x+(1:Int))) then ∃
 y,BsV bs y∧(bv7 k fr cl f a b c bs g).m y < (bv7 k fr cl f a b c bs g).m x∧(k=k∧(0:Nat)=0∧YtldiagnbagpliaaGreatDoor.nonP f a b c=YtldiagnbagpliaaGreatDoor.nonP f a b c∧((bif g then g=true else True)∧bs=bs)∧(↑bs.length:Int)=(↑bs.length:Int)∧x+(1:Int)=y∧True)∧(fr=fr∧cl=cl∧f=f∧a=a∧b=b∧c=c∧((bif g then g=true else True)∧bs=bs)∧True)∧True else False else False else bif decide (k=(1:Int)) then True∧bif
 isN f a b c then true=pdV k fr cl f a b c bs else bif decide ¬k=(1:Int) then YtldiagnbagpliaaGreatDoor.nonP f a b c=pdV k fr cl f a b c bs else false=pdV k fr cl f a b c bs else bif decide ¬k=(1:Int) then YtldiagnbagpliaaGreatDoor.nonP f a b c=pdV k fr cl f a b c bs else false=pdV k fr cl f a b c bs
theorem gvalidP_P:gvalidP_T nrm vld isN pdV nonP iL inLo inHi inD inE:=by
 unfold gvalidP_T
 intro k fr f a b c cl g bs hp _ _
 have hs:=hp.sm
 have bg:cond g (g=true) True:=by cases g <;> trivial
 have nb:(decide (f=0)&&(decide (a=0)&&(decide (b=0)&&(decide (c=0)&&true))))=nonP f a b c:=by
  unfold nonP
  rw [Bool.eq_iff_iff]; simp
 rw [nb]
 refine csx (fun q=>by unfold pdV; rw [if_pos (.inl q)]) (fun q=>csx (fun q2=>by unfold pdV; rw [if_pos (.inr q2)]) (fun q2=>?_))
 have hv:pdV k fr cl f a b c bs=if cl=true then nonP f a b c&&decide (bs.length=0) else if bsOk bs then (if k=1 then isN f a b c else nonP f a b c) else false:=by unfold pdV; rw [if_neg (by omega)]
 rw [hv]
 refine csplit (fun q3=>?_) (fun q3=>?_)
 ·rw [if_pos q3]
  have el:decide ((bs.length:Int)=0)=decide (bs.length=0):=decide_eq_decide.2 (by omega)
  rw [el]
  refine csplit (fun q4=>?_) (fun q4=>?_)
  ·rw [q4]; rfl
  ·rw [q4]; rfl
 rw [if_neg (by rw [q3]; decide)]
 refine ⟨⟨0,⟨by decide,by omega,fun j h=>by omega⟩,by (repeat' (first | exact trivial | exact rfl | assumption | apply And.intro))⟩,?_⟩
 rintro i ⟨h0,h1,hn⟩
 have bad:i < bs.length→bsX bs i.toNat=true→false=if bsOk bs=true then (if k=1 then isN f a b c else nonP f a b c) else false:=fun hi hx=>by
  rw [if_neg]
  intro h
  have:=of_decide_eq_true h i.toNat (by omega)
  rw [this] at hx; cases hx
 have good:i < bs.length→bsX bs i.toNat=false→BsV bs (i+1):=fun hi hx=>⟨by omega,by omega,fun j hj=>by
  rcases Nat.lt_or_ge j i.toNat with k | k
  ·exact hn j (by omega)
  ·rw [show j=i.toNat by omega]; exact hx⟩
 refine csx (fun hi=>cd1 (by omega) ?_) (fun hi=>?_)
 ·obtain ⟨e,v,he,_,_⟩:=hp.row i.toNat (by omega)
  have X:bsX bs i.toNat=(!(okC e)||(decide (1000 < v)||(decide (v < -1000)||(decide (0 < i.toNat)&&decide (e≤rE (bs.getD (i.toNat - 1) [])))))):=by unfold bsX; rw [he]; rfl
  have hE:inE e=0↔okC e=true:=by unfold inE; cases okC e <;> simp
  refine ⟨e,v,by rw [he]; rfl,trivial,csx (fun q=>bad hi ?_) (fun q=>csx (fun q2=>bad hi ?_) (fun q2=>csx (fun q3=>bad hi ?_) (fun q3=>csx (fun q4=>cdI (by omega) (cd1 (by omega) ?_)) (fun q4=>cdI (by omega) ⟨i+1,good hi ?_,by simp only [bv7]; omega,by (repeat' (first | exact trivial | exact rfl | assumption | apply And.intro))⟩))))⟩
  ·have:okC e=false:=by
    cases h:okC e with
    | false=>rfl
    | true=>exact absurd (hE.2 h) q
   rw [X,this]; rfl
  ·rw [X,decide_eq_true q2]; simp
  ·rw [X,decide_eq_true q3]; simp
  ·obtain ⟨e',v',he',_,_⟩:=hp.row (i - 1).toNat (by omega)
   have P:rE (bs.getD (i.toNat - 1) [])=e':=by rw [show i.toNat - 1=(i - 1).toNat by omega,he']; rfl
   refine ⟨e',by rw [he']; rfl,csx (fun q5=>bad hi ?_) (fun q5=>cdI (by omega) ⟨i+1,good hi ?_,by simp only [bv7]; omega,by (repeat' (first | exact trivial | exact rfl | assumption | apply And.intro))⟩)⟩
   ·rw [X,P,decide_eq_true q5,decide_eq_true (show 0 < i.toNat by omega)]; simp
   ·rw [X,P,decide_eq_false q5,decide_eq_false q3,decide_eq_false q2,hE.1 (Decidable.not_not.1 q)]; simp
  ·rw [X,decide_eq_false (show ¬ 0 < i.toNat by omega),decide_eq_false q3,decide_eq_false q2,hE.1 (Decidable.not_not.1 q)]; simp
 ·have ok:bsOk bs=true:=decide_eq_true fun j hj=>hn j (by omega)
  rw [if_pos ok]
  refine csx (fun q4=>⟨trivial,csplit (fun q5=>?_) (fun q5=>csx (fun q6=>absurd q4 q6) (fun q6=>?_))⟩) (fun q4=>csx (fun q6=>?_) (fun q6=>absurd q4 q6))
  ·rw [if_pos q4,q5]
  ·rw [if_pos q4,q5]
  ·rw [if_neg q4]
def gvalidP_S (nrm:Int→Int→Int→Int→Int × Int × Int × Int) (vld:Int→Int→Int→Int→Bool) (isN:Int→Int→Int→Int→Bool) (pdV:Int→Int→Bool→Int→Int→Int→Int→LLR→Bool) (nonP:Int→Int→Int→Int→Bool) (iL:Int→ByteArray) (inLo:Int→Int) (inHi:Int→Int) (inD:Int→Int) (inE:Int→Int):Prop:=∀ (k fr f a b c:Int) (cl g:Bool) (bs:List (List AV)),RdsP bs→fnK Tryz.prog { glob:=glb,spec:=lk [(49,(gnormalP_s nrm vld isN)),(96,(edesc_s iL inLo inHi inD inE))],specH:=lk [],shape:=[38,67],nowf:=true } { nt:=88,drop:=drp [(1,130048),(3,3932160),(4,4194304),(5,2130706432),(6,2147483648),(8,481036337152),(9,34634616275200),(10,4722366447685273124864),(12,9444732965739290427392),(13,309466120355413590143926272)],tys:=[26] } (invs [(7,bv7 k fr cl f a b c bs g)]) 6 Tryz.f57 [.int .i64 k,.agg [.int .i64 fr,.bool cl,.int .i64 f,.int .i64 a,.int .i64 b,.int .i64 c,.sl 2 g bs]] (.bool (pdV k fr cl f a b c bs))
theorem gvalidP_e (nrm:Int→Int→Int→Int→Int × Int × Int × Int) (vld:Int→Int→Int→Int→Bool) (isN:Int→Int→Int→Int→Bool) (pdV:Int→Int→Bool→Int→Int→Int→Int→LLR→Bool) (nonP:Int→Int→Int→Int→Bool) (iL:Int→ByteArray) (inLo:Int→Int) (inHi:Int→Int) (inD:Int→Int) (inE:Int→Int):gvalidP_T nrm vld isN pdV nonP iL inLo inHi inD inE=gvalidP_S nrm vld isN pdV nonP iL inLo inHi inD inE:=by kernel_rfl
theorem gvalidP_v:gvalidP_S nrm vld isN pdV nonP iL inLo inHi inD inE:=Eq.mp (gvalidP_e ..) (gvalidP_P)
theorem gvalidP_ok:SOK Tryz.prog glb 57 (gvalidP_s nrm vld isN pdV nonP iL inLo inHi inD inE):=by
 refine ⟨fok Tryz.func57 (by kernel_rfl) (by kernel_rfl),?_⟩
 intro xs pre r h hp
 unfold gvalidP_s at h
 split at h
 ·simp only [Option.some.injEq,Prod.mk.injEq] at h
  obtain ⟨h1,h2⟩:=h
  subst h1 h2
  exact fnK_sound (tyOf (by kernel_rfl)) (by exact specOK rfl rfl ⟨(gnormalP_ok),(edesc_ok),trivial⟩ trivial) (by kernel_rfl) Tryz.func57 rfl (gvalidP_v  _ _ _ _ _ _ _ _ _ hp)
 ·cases h
def rg1_s (s1B:LLR→Bool):Sp
 | [.agg [.int .i64 k,.str nm,.sl 7 false ps]]=>some (PdsP ps,.bool (s1B ps))
 | _=>none
def rg1_T (s1B:LLR→Bool):Prop :=
 ∀ (gl:Glob) (k:Int) (nm:ByteArray) (ps:List (List AV)),PdsP ps→(IR9 k)∧nm.size.le (9223372036854775807:Nat)∧True∧True→bif decide ((↑ps.length:Int)=(0:Int)) then true=s1B ps else decide ((8:Int) < (↑ps.length:Int))=s1B ps
theorem rg1_P:rg1_T s1B:=by
 unfold rg1_T
 intro gl k nm ps hp _
 unfold s1B
 exact csx (fun q=>by rw [decide_eq_true (show ps.length=0 by omega)]; rfl) (fun q=>by rw [decide_eq_false (show ¬ ps.length=0 by omega),Bool.false_or])
def rg1_S (s1B:LLR→Bool):Prop:=∀ (gl:Glob) (k:Int) (nm:ByteArray) (ps:List (List AV)),PdsP ps→fnK Tryz.prog { glob:=gl,spec:=lk [],specH:=lk [],nowf:=true } { nt:=13,drop:=drp [(1,8184)] } (fun _ _=>none) 6 Tryz.f65 [.agg [.int .i64 k,.str nm,.sl 7 false ps]] (.bool (s1B ps))
theorem rg1_e (s1B:LLR→Bool):rg1_T s1B=rg1_S s1B:=by kernel_rfl
theorem rg1_v:rg1_S s1B:=Eq.mp (rg1_e ..) (rg1_P)
theorem rg1_ok (gl:Glob):SOK Tryz.prog gl 65 (rg1_s s1B):=by
 refine ⟨fok Tryz.func65 (by kernel_rfl) (by kernel_rfl),?_⟩
 intro xs pre r h hp
 unfold rg1_s at h
 split at h
 ·simp only [Option.some.injEq,Prod.mk.injEq] at h
  obtain ⟨h1,h2⟩:=h
  subst h1 h2
  exact fnK_sound tyNil (by exact specOK rfl rfl trivial trivial) (by kernel_rfl) Tryz.func65 rfl (rg1_v gl _ _ _ hp)
 ·cases h
def rg2_s (exK:Int→Bool):Sp
 | [.agg [.int .i64 k,.str nm,.sl 7 false ps]]=>some (True,.bool (!(exK k)))
 | _=>none
def rg2_T (exK:Int→Bool):Prop :=
 ∀ (gl:Glob) (k:Int) (nm:ByteArray) (ps:List (List AV)),(IR9 k)∧nm.size.le (9223372036854775807:Nat)∧True∧True→True∧(!exK k)=!exK k
theorem rg2_P:rg2_T exK:=by
 unfold rg2_T
 intro gl k nm ps _
 exact ⟨trivial,rfl⟩
def rg2_S (exK:Int→Bool):Prop:=∀ (gl:Glob) (k:Int) (nm:ByteArray) (ps:List (List AV)),fnK Tryz.prog { glob:=gl,spec:=lk [(45,(gexists_s exK))],specH:=lk [],nowf:=true } { nt:=7,drop:=drp [(1,120)] } (fun _ _=>none) 6 Tryz.f66 [.agg [.int .i64 k,.str nm,.sl 7 false ps]] (.bool (!(exK k)))
theorem rg2_e (exK:Int→Bool):rg2_T exK=rg2_S exK:=by kernel_rfl
theorem rg2_v:rg2_S exK:=Eq.mp (rg2_e ..) (rg2_P)
theorem rg2_ok (gl:Glob):SOK Tryz.prog gl 66 (rg2_s exK):=by
 refine ⟨fok Tryz.func66 (by kernel_rfl) (by kernel_rfl),?_⟩
 intro xs pre r h hp
 unfold rg2_s at h
 split at h
 ·simp only [Option.some.injEq,Prod.mk.injEq] at h
  obtain ⟨h1,h2⟩:=h
  subst h1 h2
  exact fnK_sound tyNil (by exact specOK rfl rfl ⟨(gexists_ok gl),trivial⟩ trivial) (by kernel_rfl) Tryz.func66 rfl (rg2_v gl _ _ _)
 ·cases h
def rg3_s (nmOk:ByteArray→Bool):Sp
 | [.agg [.int .i64 k,.str nm,.sl 7 false ps]]=>some (True,.bool (!(nmOk nm)))
 | _=>none
def rg3_T (nmOk:ByteArray→Bool):Prop :=
 ∀ (gl:Glob) (k:Int) (nm:ByteArray) (ps:List (List AV)),(IR9 k)∧nm.size.le (9223372036854775807:Nat)∧True∧True→True∧(!nmOk nm)=!nmOk nm
theorem rg3_P:rg3_T nmOk:=by
 unfold rg3_T
 intro gl k nm ps _
 exact ⟨trivial,rfl⟩
def rg3_S (nmOk:ByteArray→Bool):Prop:=∀ (gl:Glob) (k:Int) (nm:ByteArray) (ps:List (List AV)),fnK Tryz.prog { glob:=gl,spec:=lk [(56,(gname_s nmOk))],specH:=lk [],nowf:=true } { nt:=7,drop:=drp [(1,120)] } (fun _ _=>none) 6 Tryz.f67 [.agg [.int .i64 k,.str nm,.sl 7 false ps]] (.bool (!(nmOk nm)))
theorem rg3_e (nmOk:ByteArray→Bool):rg3_T nmOk=rg3_S nmOk:=by kernel_rfl
theorem rg3_v:rg3_S nmOk:=Eq.mp (rg3_e ..) (rg3_P)
theorem rg3_ok (gl:Glob):SOK Tryz.prog gl 67 (rg3_s nmOk):=by
 refine ⟨fok Tryz.func67 (by kernel_rfl) (by kernel_rfl),?_⟩
 intro xs pre r h hp
 unfold rg3_s at h
 split at h
 ·simp only [Option.some.injEq,Prod.mk.injEq] at h
  obtain ⟨h1,h2⟩:=h
  subst h1 h2
  exact fnK_sound tyNil (by exact specOK rfl rfl ⟨(gname_ok gl),trivial⟩ trivial) (by kernel_rfl) Tryz.func67 rfl (rg3_v gl _ _ _)
 ·cases h
def rg41_s (pdV:Int→Int→Bool→Int→Int→Int→Int→LLR→Bool):SpH
 | [.agg [.int .i64 fr,.bool cl,.int .i64 fa,.int .i64 a,.int .i64 b,.int .i64 c,.sl 2 false bs],.ptr 0 0],[.cells [.int .i64 k,.str nm,.sl 7 g ps]]=>some (RdsP bs,.bool (!(pdV k fr cl fa a b c bs)),[.cells [.int .i64 k,.str nm,.sl 7 g ps]])
 | _,_=>none
def rg41_T (pdV:Int→Int→Bool→Int→Int→Int→Int→LLR→Bool) (nrm:Int→Int→Int→Int→Int × Int × Int × Int) (vld:Int→Int→Int→Int→Bool) (isN:Int→Int→Int→Int→Bool) (nonP:Int→Int→Int→Int→Bool) (iL:Int→ByteArray) (inLo:Int→Int) (inHi:Int→Int) (inD:Int→Int) (inE:Int→Int):Prop :=
  ∀ (k fr fa a b c:Int) (cl g:Bool) (nm:ByteArray) (bs ps:List (List AV)),RdsP bs→(IR9 fr)∧True∧(IR9 fa)∧(IR9 a)∧(IR9 b)∧((-9223372036854775808:Int)≤c∧c ≤
 (9223372036854775807:Int))∧True∧True→True→IR9 k→nm.size.le (9223372036854775807:Nat)→True→RdsP bs∧(!pdV k fr cl fa a b c bs)=!pdV k fr cl fa a b c bs∧(k=k∧nm=nm∧((bif g then g=true else True)∧ps=ps)∧True)∧True
theorem rg41_P:rg41_T pdV nrm vld isN nonP iL inLo inHi inD inE:=by
 unfold rg41_T
 intro k fr fa a b c cl g nm bs ps hp
 intros
 have bg:cond g (g=true) True:=by cases g <;> trivial
 exact ⟨hp,rfl,by (repeat' (first | exact trivial | exact rfl | assumption | apply And.intro))⟩
def rg41_S (pdV:Int→Int→Bool→Int→Int→Int→Int→LLR→Bool) (nrm:Int→Int→Int→Int→Int × Int × Int × Int) (vld:Int→Int→Int→Int→Bool) (isN:Int→Int→Int→Int→Bool) (nonP:Int→Int→Int→Int→Bool) (iL:Int→ByteArray) (inLo:Int→Int) (inHi:Int→Int) (inD:Int→Int) (inE:Int→Int):Prop:=∀ (k fr fa a b c:Int) (cl g:Bool) (nm:ByteArray) (bs ps:List (List AV)),RdsP bs→fnH Tryz.prog { glob:=glb,spec:=lk [(57,(gvalidP_s nrm vld isN pdV nonP iL inLo inHi inD inE))],specH:=lk [],nowf:=true } { nt:=9,drop:=drp [(1,496)],fr:=1000,kp:=[0] } (fun _ _=>none) 6 Tryz.f70 [.agg [.int .i64 fr,.bool cl,.int .i64 fa,.int .i64 a,.int .i64 b,.int .i64 c,.sl 2 false bs],.ptr 0 0] [.cells [.int .i64 k,.str nm,.sl 7 g ps]] (.bool (!(pdV k fr cl fa a b c bs))) [.cells [.int .i64 k,.str nm,.sl 7 g ps]]
theorem rg41_e (pdV:Int→Int→Bool→Int→Int→Int→Int→LLR→Bool) (nrm:Int→Int→Int→Int→Int × Int × Int × Int) (vld:Int→Int→Int→Int→Bool) (isN:Int→Int→Int→Int→Bool) (nonP:Int→Int→Int→Int→Bool) (iL:Int→ByteArray) (inLo:Int→Int) (inHi:Int→Int) (inD:Int→Int) (inE:Int→Int):rg41_T pdV nrm vld isN nonP iL inLo inHi inD inE=rg41_S pdV nrm vld isN nonP iL inLo inHi inD inE:=by kernel_rfl
theorem rg41_v:rg41_S pdV nrm vld isN nonP iL inLo inHi inD inE:=Eq.mp (rg41_e ..) (rg41_P)
theorem rg41_ok:HOK Tryz.prog glb 70 (rg41_s pdV):=by
 refine ⟨fok Tryz.func70 (by kernel_rfl) (by kernel_rfl),?_⟩
 intro xs bs pre r bs2 h hp
 unfold rg41_s at h
 split at h
 ·simp only [Option.some.injEq,Prod.mk.injEq] at h
  obtain ⟨h1,h2,h3⟩:=h
  subst h1 h2 h3
  exact fnH_sound tyNil (by exact specOK rfl rfl ⟨(gvalidP_ok),trivial⟩ trivial) (by kernel_rfl) Tryz.func70 (rg41_v  _ _ _ _ _ _ _ _ _ _ _ hp)
 ·cases h
def rc4X_s:SpH
 | [.sl 7 f xs,.fn 70 [.ptr 0 0]],[.cells [.int .i64 k,.str nm,.sl 7 g ps]]=>some (PdsP xs,.int .i64 (idxP (bdP k) xs),[.cells [.int .i64 k,.str nm,.sl 7 g ps]])
 | _,_=>none
def rc4X_T (pdV:Int→Int→Bool→Int→Int→Int→Int→LLR→Bool):Prop :=
  ∀ (f:Bool) (xs:List (List AV)) (k:Int) (nm:ByteArray) (ps:List (List AV)) (g:Bool),PdsP xs→True→True→IR9 k→nm.size.le (9223372036854775807:Nat)→True→(∃ x,IdxI (bdP k) xs x∧(((bif f then f=true else True)∧xs=xs)∧((0:Nat)=0∧True)∧(↑xs.length:Int)=(↑xs.length:Int)∧(0:Int)=x∧True)∧(k=k∧nm=nm∧((bif g then g=true else
 True)∧ps=ps)∧True)∧True)∧∀ (x:Int),IdxI (bdP k) xs x→bif decide (x < (↑xs.length:Int)) then bif decide (0≤x∧x < (↑xs.length:Int)) then ∃ n b n_1 n_2 n_3 n_4 xs_1,List.take [AV.int .i64 n,.bool b,.int .i64 n_1,.int .i64 n_2,.int .i64 n_3,.int .i64 n_4,.sl (2:Nat) false xs_1].length (xs.getD x.toNat [])=[AV.int .i64 n,.bool b,.int .i64 n_1,.int .i64 n_2,.int .i64 n_3,.int .i64 n_4,.sl (2:Nat)
 false xs_1]∧RdsP xs_1∧bif !pdV k n b n_1 n_2 n_3 n_4 xs_1 then x=idxP (bdP k) xs∧(k=k∧nm=nm∧((bif g then g=true else True)∧ps=ps)∧True)∧True else bif decide (rng .i64 (x+(1:Int))) then ∃ y,IdxI (bdP k) xs y∧(rxL (70:Nat) (7:Nat) (bdP k) f xs [AV.ptr (0:Nat) (0:Nat)] [((0:Nat),Blk.cells [AV.int .i64 k,.str nm,.sl (7:Nat) g ps])]).m y < (rxL (70:Nat) (7:Nat) (bdP k) f xs [AV.ptr (0:Nat) (0:Nat)]
 [((0:Nat),Blk.cells [AV.int .i64 k,.str nm,.sl (7:Nat) g ps])]).m x∧(((bif f then f=true else True)∧xs=xs)∧((0:Nat)=0∧True)∧(↑xs.length:Int)=(↑xs.length:Int)∧x+(1:Int)=y∧True)∧(k=k∧nm=nm∧((bif g then g=true else True)∧ps=ps)∧True)∧True else False else False else (-1:Int)=idxP (bdP k) xs∧(k=k∧nm=nm∧((bif g then g=true else True)∧ps=ps)∧True)∧True
theorem rc4X_P:rc4X_T pdV:=by
 unfold rc4X_T
 intro f xs k nm ps g hp
 intros
 have bf:cond f (f=true) True:=by cases f <;> trivial
 have bg:cond g (g=true) True:=by cases g <;> trivial
 have hs:=hp.fs
 refine ⟨⟨0,⟨by decide,by omega,fun j h=>by omega⟩,by (repeat' (first | exact trivial | exact rfl | assumption | apply And.intro))⟩,?_⟩
 rintro i ⟨h0,h1,hn⟩
 have ei:((i.toNat:Nat):Int)=i:=by omega
 refine cs (fun hl=>?_) (fun hl=>?_)
 ·obtain ⟨fr,cl,fa,a,b,c,bs,he,hq⟩:=hp.fr i.toNat (by omega)
  refine cd1 ⟨h0,hl⟩ ⟨fr,cl,fa,a,b,c,bs,by rw [he]; rfl,hq.1,csplit (fun q=>?_) (fun q=>?_)⟩
  ·have:=idx_some (p:=(bdP k)) (xs:=xs) (i:=i.toNat) (by omega) (by rw [he]; exact q) (fun j hj=>hn j (by omega))
   exact ⟨ei.symm.trans this,by (repeat' (first | exact trivial | exact rfl | assumption | apply And.intro))⟩
  ·refine cdI (by omega) ⟨i+1,⟨by omega,by omega,fun j hj=>?_⟩,by simp only [rxL]; omega,by (repeat' (first | exact trivial | exact rfl | assumption | apply And.intro))⟩
   rcases Nat.lt_or_ge j i.toNat with k | k
   ·exact hn j (by omega)
   ·rw [show j=i.toNat by omega,he]; exact q
 ·exact ⟨idx_none fun j hj=>hn j (by omega),by (repeat' (first | exact trivial | exact rfl | assumption | apply And.intro))⟩
def rc4X_S (pdV:Int→Int→Bool→Int→Int→Int→Int→LLR→Bool):Prop:=∀ (f:Bool) (xs:List (List AV)) (k:Int) (nm:ByteArray) (ps:List (List AV)) (g:Bool),PdsP xs→fnH Tryz.prog { glob:=glb,spec:=lk [],specH:=lk [(70,(rg41_s pdV))],shape:=[15],slz:=[(15,[2])],nowf:=true } { nt:=19,drop:=drp [(1,64),(3,1024),(4,63488),(5,131072),(6,262144)],fr:=1000,kp:=[0] } (invs [(2,rxL 70 7 (bdP k) f xs [.ptr 0 0] [(0,.cells [.int .i64 k,.str nm,.sl 7 g ps])])]) 6 Tryz.f107 [.sl 7 f xs,.fn 70 [.ptr 0 0]] [.cells [.int .i64 k,.str nm,.sl 7 g ps]] (.int .i64 (idxP (bdP k) xs)) [.cells [.int .i64 k,.str nm,.sl 7 g ps]]
theorem rc4X_e (pdV:Int→Int→Bool→Int→Int→Int→Int→LLR→Bool):rc4X_T pdV=rc4X_S pdV:=by kernel_rfl
theorem rc4X_v:rc4X_S pdV:=Eq.mp (rc4X_e ..) (rc4X_P)
theorem rc4X_ok:HOK Tryz.prog glb 107 rc4X_s:=by
 refine ⟨fok Tryz.func107 (by kernel_rfl) (by kernel_rfl),?_⟩
 intro xs bs pre r bs2 h hp
 unfold rc4X_s at h
 split at h
 ·simp only [Option.some.injEq,Prod.mk.injEq] at h
  obtain ⟨h1,h2,h3⟩:=h
  subst h1 h2 h3
  exact fnH_sound tyNil (by exact specOK rfl rfl trivial ⟨(rg41_ok),trivial⟩) (by kernel_rfl) Tryz.func107 (rc4X_v  _ _ _ _ _ _ hp)
 ·cases h
def rc4_s:SpH
 | [.sl 7 f xs,.fn 70 [.ptr 0 0]],[.cells [.int .i64 k,.str nm,.sl 7 g ps]]=>some (PdsP xs,.bool (xs.any (bdP k)),[.cells [.int .i64 k,.str nm,.sl 7 g ps]])
 | _,_=>none
def rc4_T:Prop :=
 ∀ (f:Bool) (xs:List (List AV)) (k:Int) (nm:ByteArray) (ps:List (List AV)) (g:Bool),PdsP xs→True→True→IR9 k→nm.size.le (9223372036854775807:Nat)→True→PdsP xs∧decide (0≤idxP (bdP k) xs)=xs.any (bdP k)∧(k=k∧nm=nm∧((bif g then g=true else True)∧ps=ps)∧True)∧True
theorem rc4_P:rc4_T:=by
 unfold rc4_T
 intro f xs k nm ps g hp
 intros
 have bg:cond g (g=true) True:=by cases g <;> trivial
 exact ⟨hp,idx_ge,by (repeat' (first | exact trivial | exact rfl | assumption | apply And.intro))⟩
def rc4_S:Prop:=∀ (f:Bool) (xs:List (List AV)) (k:Int) (nm:ByteArray) (ps:List (List AV)) (g:Bool),PdsP xs→fnH Tryz.prog { glob:=glb,spec:=lk [],specH:=lk [(107,rc4X_s)],nowf:=true } { nt:=9,drop:=drp [(1,480)],fr:=1000,kp:=[0] } (fun _ _=>none) 6 Tryz.f69 [.sl 7 f xs,.fn 70 [.ptr 0 0]] [.cells [.int .i64 k,.str nm,.sl 7 g ps]] (.bool (xs.any (bdP k))) [.cells [.int .i64 k,.str nm,.sl 7 g ps]]
theorem rc4_e:rc4_T=rc4_S:=by kernel_rfl
theorem rc4_v:rc4_S:=Eq.mp (rc4_e ..) (rc4_P)
theorem rc4_ok:HOK Tryz.prog glb 69 rc4_s:=by
 refine ⟨fok Tryz.func69 (by kernel_rfl) (by kernel_rfl),?_⟩
 intro xs bs pre r bs2 h hp
 unfold rc4_s at h
 split at h
 ·simp only [Option.some.injEq,Prod.mk.injEq] at h
  obtain ⟨h1,h2,h3⟩:=h
  subst h1 h2 h3
  exact fnH_sound tyNil (by exact specOK rfl rfl trivial ⟨(rc4X_ok),trivial⟩) (by kernel_rfl) Tryz.func69 (rc4_v  _ _ _ _ _ _ hp)
 ·cases h
def rg4_s:Sp
 | [.agg [.int .i64 k,.str nm,.sl 7 false ps]]=>some (PdsP ps,.bool (ps.any (bdP k)))
 | _=>none
def rg4_T:Prop :=
 ∀ (k:Int) (nm:ByteArray) (ps:List (List AV)),PdsP ps→(IR9 k)∧nm.size.le (9223372036854775807:Nat)∧True∧True→PdsP ps∧ps.any (bdP k)=ps.any (bdP k)
theorem rg4_P:rg4_T:=by
 unfold rg4_T
 intro k nm ps hp _
 exact ⟨hp,rfl⟩
def rg4_S:Prop:=∀ (k:Int) (nm:ByteArray) (ps:List (List AV)),PdsP ps→fnK Tryz.prog { glob:=glb,spec:=lk [],specH:=lk [(69,rc4_s)],nowf:=true } { nt:=7,drop:=drp [(1,120)] } (fun _ _=>none) 6 Tryz.f68 [.agg [.int .i64 k,.str nm,.sl 7 false ps]] (.bool (ps.any (bdP k)))
theorem rg4_e:rg4_T=rg4_S:=by kernel_rfl
theorem rg4_v:rg4_S:=Eq.mp (rg4_e ..) (rg4_P)
theorem rg4_ok:SOK Tryz.prog glb 68 rg4_s:=by
 refine ⟨fok Tryz.func68 (by kernel_rfl) (by kernel_rfl),?_⟩
 intro xs pre r h hp
 unfold rg4_s at h
 split at h
 ·simp only [Option.some.injEq,Prod.mk.injEq] at h
  obtain ⟨h1,h2⟩:=h
  subst h1 h2
  exact fnK_sound tyNil (by exact specOK rfl rfl trivial ⟨(rc4_ok),trivial⟩) (by kernel_rfl) Tryz.func68 rfl (rg4_v  _ _ _ hp)
 ·cases h
def un2 (k:Int) (nm:ByteArray) (ps:LLR) (g:Bool):LInv:=⟨Int,fun i=>⟨[(1,.ptr 1 0),(3,.int .i64 i)],[(1,.cells [.int .i64 k,.str nm,.sl 7 g ps])]⟩,AscI ps,fun i=>(ps.length+1 - i).toNat,none⟩
def gunord_s (ascB:LLR→Bool):Sp
 | [.agg [.int .i64 k,.str nm,.sl 7 g ps]]=>some (PdsP ps,.bool (!(ascB ps)))
 | _=>none
def gunord_T (ascB:LLR→Bool):Prop :=
  ∀ (gl:Glob) (k:Int) (nm:ByteArray) (g:Bool) (ps:List (List AV)),PdsP ps→(IR9 k)∧nm.size.le (9223372036854775807:Nat)∧True∧True→(∃ x,AscI ps x∧((0:Nat)=0∧(1:Int)=x∧True)∧(k=k∧nm=nm∧((bif g then g=true else True)∧ps=ps)∧True)∧True)∧∀ (x:Int),AscI ps x→bif decide (x < (↑ps.length:Int)) then bif decide (rng .i64 (x - (1:Int))) then bif
 decide (0≤x - (1:Int)∧x - (1:Int) < (↑ps.length:Int)) then ∃ n,List.take [AV.int .i64 n].length (List.drop (0:Nat) (ps.getD (x - (1:Int)).toNat []))=[AV.int .i64 n]∧bif decide (0≤x∧x < (↑ps.length:Int)) then ∃ n_1,List.take [AV.int .i64 n_1].length (List.drop (0:Nat) (ps.getD x.toNat []))=[AV.int .i64 n_1]∧bif decide (n_1≤n) then true=!ascB ps else bif decide (rng .i64 (x +
 (1:Int))) then ∃ y,AscI ps y∧(un2 k nm ps g).m y < (un2 k nm ps g).m x∧((0:Nat)=0∧x+(1:Int)=y∧True)∧(k=k∧nm=nm∧((bif g then g=true else True)∧ps=ps)∧True)∧True else False else False else False else False else false=!ascB ps
theorem gunord_P:gunord_T ascB:=by
 unfold gunord_T
 intro gl k nm g ps hp _
 have hs:=hp.fs
 have bg:cond g (g=true) True:=by cases g <;> trivial
 refine ⟨⟨1,⟨by decide,.inr rfl,fun j hj _=>.inl (by omega)⟩,by (repeat' (first | exact trivial | exact rfl | assumption | apply And.intro))⟩,?_⟩
 rintro i ⟨h0,h2,hn⟩
 refine csx (fun hl=>cdI (by omega) (cd1 (by omega) ?_)) (fun hl=>?_)
 ·obtain ⟨e,_,_,_,_,_,_,he,_⟩:=hp.fr (i - 1).toNat (by omega)
  obtain ⟨e',_,_,_,_,_,_,he',_⟩:=hp.fr i.toNat (by omega)
  have hi:i.toNat - 1=(i - 1).toNat:=by omega
  have q1:rE (ps.getD (i.toNat - 1) [])=e:=by rw [hi,he]; rfl
  have q2:rE (ps.getD i.toNat [])=e':=by rw [he']; rfl
  refine ⟨e,by rw [he]; rfl,cd1 (by omega) ⟨e',by rw [he']; rfl,csx (fun q=>?_) (fun q=>cdI (by omega) ⟨i+1,⟨by omega,.inl (by omega),fun j hj hlj=>?_⟩,by simp only [un2]; omega,by (repeat' (first | exact trivial | exact rfl | assumption | apply And.intro))⟩)⟩⟩
  ·have:ascB ps=false:=by
    refine decide_eq_false fun h=>?_
    rcases h i.toNat (by omega) with k | k
    ·omega
    ·rw [q1,q2] at k; omega
   rw [this]; rfl
  ·rcases Nat.lt_or_ge j i.toNat with k | k
   ·exact hn j (by omega) hlj
   ·rw [show j=i.toNat by omega,q1,q2]; exact .inr (by omega)
 ·have:ascB ps=true:=decide_eq_true fun j hj=>hn j (by omega) hj
  rw [this]; rfl
def gunord_S (ascB:LLR→Bool):Prop:=∀ (gl:Glob) (k:Int) (nm:ByteArray) (g:Bool) (ps:List (List AV)),PdsP ps→fnK Tryz.prog { glob:=gl,spec:=lk [],specH:=lk [],shape:=[17,23],nowf:=true } { nt:=25,drop:=drp [(2,240),(3,1536),(4,16775168)] } (invs [(2,un2 k nm ps g)]) 6 Tryz.f71 [.agg [.int .i64 k,.str nm,.sl 7 g ps]] (.bool (!(ascB ps)))
theorem gunord_e (ascB:LLR→Bool):gunord_T ascB=gunord_S ascB:=by kernel_rfl
theorem gunord_v:gunord_S ascB:=Eq.mp (gunord_e ..) (gunord_P)
theorem gunord_ok (gl:Glob):SOK Tryz.prog gl 71 (gunord_s ascB):=by
 refine ⟨fok Tryz.func71 (by kernel_rfl) (by kernel_rfl),?_⟩
 intro xs pre r h hp
 unfold gunord_s at h
 split at h
 ·simp only [Option.some.injEq,Prod.mk.injEq] at h
  obtain ⟨h1,h2⟩:=h
  subst h1 h2
  exact fnK_sound tyNil (by exact specOK rfl rfl trivial trivial) (by kernel_rfl) Tryz.func71 rfl (gunord_v gl _ _ _ _ hp)
 ·cases h
def rc1X_s:Sp
 | [.sl 3 f xs,.fn 65 []]=>some (StsP xs,.int .i64 (idxP p1R xs))
 | _=>none
def rc1X_T (s1B:LLR→Bool):Prop :=
  ∀ (gl:Glob) (f:Bool) (xs:List (List AV)),StsP xs→True→True→(∃ x,IdxI p1R xs x∧(((bif f then f=true else True)∧xs=xs)∧True∧(↑xs.length:Int)=(↑xs.length:Int)∧(0:Int)=x∧True)∧True)∧∀ (x:Int),IdxI p1R xs x→bif decide (x < (↑xs.length:Int)) then bif decide (0≤x∧x < (↑xs.length:Int)) then ∃ n s xs_1,List.take [AV.int .i64 n,.str s,.sl (7:Nat) false xs_1].length (xs.getD x.toNat [])=[AV.int
 .i64 n,.str s,.sl (7:Nat) false xs_1]∧PdsP xs_1∧bif s1B xs_1 then x=idxP p1R xs else bif decide (rng .i64 (x+(1:Int))) then ∃ y,IdxI p1R xs y∧(rxL (65:Nat) (3:Nat) p1R f xs [] []).m y < (rxL (65:Nat) (3:Nat) p1R f xs [] []).m x∧(((bif f then f=true else True)∧xs=xs)∧True∧(↑xs.length:Int)=(↑xs.length:Int)∧x+(1:Int)=y∧True)∧True else False else False else (-1:Int)=idxP p1R xs
theorem rc1X_P:rc1X_T s1B:=by
 unfold rc1X_T
 intro gl f xs hp
 intros
 have bf:cond f (f=true) True:=by cases f <;> trivial
 have hs:=hp.fs
 refine ⟨⟨0,⟨by decide,by omega,fun j h=>by omega⟩,by (repeat' (first | exact trivial | exact rfl | assumption | apply And.intro))⟩,?_⟩
 rintro i ⟨h0,h1,hn⟩
 have ei:((i.toNat:Nat):Int)=i:=by omega
 refine cs (fun hl=>?_) (fun hl=>?_)
 ·obtain ⟨k,nm,ps,he,hq⟩:=hp.fr i.toNat (by omega)
  refine cd1 ⟨h0,hl⟩ ⟨k,nm,ps,by rw [he]; rfl,hq,csplit (fun q=>?_) (fun q=>?_)⟩
  ·have:=idx_some (p:=p1R) (xs:=xs) (i:=i.toNat) (by omega) (by rw [he]; exact q) (fun j hj=>hn j (by omega))
   exact ei.symm.trans this
  ·refine cdI (by omega) ⟨i+1,⟨by omega,by omega,fun j hj=>?_⟩,by simp only [rxL]; omega,by (repeat' (first | exact trivial | exact rfl | assumption | apply And.intro))⟩
   rcases Nat.lt_or_ge j i.toNat with k | k
   ·exact hn j (by omega)
   ·rw [show j=i.toNat by omega,he]; exact q
 ·exact idx_none fun j hj=>hn j (by omega)
def rc1X_S (s1B:LLR→Bool):Prop:=∀ (gl:Glob) (f:Bool) (xs:List (List AV)),StsP xs→fnK Tryz.prog { glob:=gl,spec:=lk [(65,(rg1_s s1B))],specH:=lk [],shape:=[15],slz:=[(15,[7])],nowf:=true } { nt:=19,drop:=drp [(1,64),(3,1024),(4,63488),(5,131072),(6,262144)] } (invs [(2,rxL 65 3 p1R f xs [] [])]) 6 Tryz.f122 [.sl 3 f xs,.fn 65 []] (.int .i64 (idxP p1R xs))
theorem rc1X_e (s1B:LLR→Bool):rc1X_T s1B=rc1X_S s1B:=by kernel_rfl
theorem rc1X_v:rc1X_S s1B:=Eq.mp (rc1X_e ..) (rc1X_P)
theorem rc1X_ok (gl:Glob):SOK Tryz.prog gl 122 rc1X_s:=by
 refine ⟨fok Tryz.func122 (by kernel_rfl) (by kernel_rfl),?_⟩
 intro xs pre r h hp
 unfold rc1X_s at h
 split at h
 ·simp only [Option.some.injEq,Prod.mk.injEq] at h
  obtain ⟨h1,h2⟩:=h
  subst h1 h2
  exact fnK_sound tyNil (by exact specOK rfl rfl ⟨(rg1_ok gl),trivial⟩ trivial) (by kernel_rfl) Tryz.func122 rfl (rc1X_v gl _ _ hp)
 ·cases h
def rc1_s:Sp
 | [.sl 3 f xs,.fn 65 []]=>some (StsP xs,.bool (xs.any p1R))
 | _=>none
def rc1_T:Prop :=
 ∀ (gl:Glob) (f:Bool) (xs:List (List AV)),StsP xs→True→True→StsP xs∧decide (0≤idxP p1R xs)=xs.any p1R
theorem rc1_P:rc1_T:=by
 unfold rc1_T
 intro gl f xs hp
 intros
 exact ⟨hp,idx_ge⟩
def rc1_S:Prop:=∀ (gl:Glob) (f:Bool) (xs:List (List AV)),StsP xs→fnK Tryz.prog { glob:=gl,spec:=lk [(122,rc1X_s)],specH:=lk [],nowf:=true } { nt:=9,drop:=drp [(1,480)] } (fun _ _=>none) 6 Tryz.f106 [.sl 3 f xs,.fn 65 []] (.bool (xs.any p1R))
theorem rc1_e:rc1_T=rc1_S:=by kernel_rfl
theorem rc1_v:rc1_S:=Eq.mp (rc1_e ..) (rc1_P)
theorem rc1_ok (gl:Glob):SOK Tryz.prog gl 106 rc1_s:=by
 refine ⟨fok Tryz.func106 (by kernel_rfl) (by kernel_rfl),?_⟩
 intro xs pre r h hp
 unfold rc1_s at h
 split at h
 ·simp only [Option.some.injEq,Prod.mk.injEq] at h
  obtain ⟨h1,h2⟩:=h
  subst h1 h2
  exact fnK_sound tyNil (by exact specOK rfl rfl ⟨(rc1X_ok gl),trivial⟩ trivial) (by kernel_rfl) Tryz.func106 rfl (rc1_v gl _ _ hp)
 ·cases h
def rc1s_s:Sp
 | [.agg [.sl 3 f xs],.fn 65 []]=>some (StsP xs,.bool (xs.any p1R))
 | _=>none
def rc1s_T:Prop :=
 ∀ (gl:Glob) (f:Bool) (xs:List (List AV)),StsP xs→True∧True→True→StsP xs∧xs.any p1R=xs.any p1R
theorem rc1s_P:rc1s_T:=by
 unfold rc1s_T
 intro gl f xs hp
 intros
 exact ⟨hp,rfl⟩
def rc1s_S:Prop:=∀ (gl:Glob) (f:Bool) (xs:List (List AV)),StsP xs→fnK Tryz.prog { glob:=gl,spec:=lk [(106,rc1_s)],specH:=lk [],nowf:=true } { nt:=9,drop:=drp [(1,480)] } (fun _ _=>none) 6 Tryz.f64 [.agg [.sl 3 f xs],.fn 65 []] (.bool (xs.any p1R))
theorem rc1s_e:rc1s_T=rc1s_S:=by kernel_rfl
theorem rc1s_v:rc1s_S:=Eq.mp (rc1s_e ..) (rc1s_P)
theorem rc1s_ok (gl:Glob):SOK Tryz.prog gl 64 rc1s_s:=by
 refine ⟨fok Tryz.func64 (by kernel_rfl) (by kernel_rfl),?_⟩
 intro xs pre r h hp
 unfold rc1s_s at h
 split at h
 ·simp only [Option.some.injEq,Prod.mk.injEq] at h
  obtain ⟨h1,h2⟩:=h
  subst h1 h2
  exact fnK_sound tyNil (by exact specOK rfl rfl ⟨(rc1_ok gl),trivial⟩ trivial) (by kernel_rfl) Tryz.func64 rfl (rc1s_v gl _ _ hp)
 ·cases h
def rc2X_s:Sp
 | [.sl 3 f xs,.fn 66 []]=>some (StsP xs,.int .i64 (idxP p2R xs))
 | _=>none
def rc2X_T (exK:Int→Bool):Prop :=
  ∀ (gl:Glob) (f:Bool) (xs:List (List AV)),StsP xs→True→True→(∃ x,IdxI p2R xs x∧(((bif f then f=true else True)∧xs=xs)∧True∧(↑xs.length:Int)=(↑xs.length:Int)∧(0:Int)=x∧True)∧True)∧∀ (x:Int),IdxI p2R xs x→bif decide (x < (↑xs.length:Int)) then bif decide (0≤x∧x < (↑xs.length:Int)) then ∃ n s xs_1,List.take [AV.int .i64 n,.str s,.sl (7:Nat) false xs_1].length (xs.getD x.toNat [])=[AV.int
 .i64 n,.str s,.sl (7:Nat) false xs_1]∧True∧bif !exK n then x=idxP p2R xs else bif decide (rng .i64 (x+(1:Int))) then ∃ y,IdxI p2R xs y∧(rxL (66:Nat) (3:Nat) p2R f xs [] []).m y < (rxL (66:Nat) (3:Nat) p2R f xs [] []).m x∧(((bif f then f=true else True)∧xs=xs)∧True∧(↑xs.length:Int)=(↑xs.length:Int)∧x+(1:Int)=y∧True)∧True else False else False else (-1:Int)=idxP p2R xs
theorem rc2X_P:rc2X_T exK:=by
 unfold rc2X_T
 intro gl f xs hp
 intros
 have bf:cond f (f=true) True:=by cases f <;> trivial
 have hs:=hp.fs
 refine ⟨⟨0,⟨by decide,by omega,fun j h=>by omega⟩,by (repeat' (first | exact trivial | exact rfl | assumption | apply And.intro))⟩,?_⟩
 rintro i ⟨h0,h1,hn⟩
 have ei:((i.toNat:Nat):Int)=i:=by omega
 refine cs (fun hl=>?_) (fun hl=>?_)
 ·obtain ⟨k,nm,ps,he,hq⟩:=hp.fr i.toNat (by omega)
  refine cd1 ⟨h0,hl⟩ ⟨k,nm,ps,by rw [he]; rfl,trivial,csplit (fun q=>?_) (fun q=>?_)⟩
  ·have:=idx_some (p:=p2R) (xs:=xs) (i:=i.toNat) (by omega) (by rw [he]; exact q) (fun j hj=>hn j (by omega))
   exact ei.symm.trans this
  ·refine cdI (by omega) ⟨i+1,⟨by omega,by omega,fun j hj=>?_⟩,by simp only [rxL]; omega,by (repeat' (first | exact trivial | exact rfl | assumption | apply And.intro))⟩
   rcases Nat.lt_or_ge j i.toNat with k | k
   ·exact hn j (by omega)
   ·rw [show j=i.toNat by omega,he]; exact q
 ·exact idx_none fun j hj=>hn j (by omega)
def rc2X_S (exK:Int→Bool):Prop:=∀ (gl:Glob) (f:Bool) (xs:List (List AV)),StsP xs→fnK Tryz.prog { glob:=gl,spec:=lk [(66,(rg2_s exK))],specH:=lk [],shape:=[15],slz:=[(15,[7])],nowf:=true } { nt:=19,drop:=drp [(1,64),(3,1024),(4,63488),(5,131072),(6,262144)] } (invs [(2,rxL 66 3 p2R f xs [] [])]) 6 Tryz.f122 [.sl 3 f xs,.fn 66 []] (.int .i64 (idxP p2R xs))
theorem rc2X_e (exK:Int→Bool):rc2X_T exK=rc2X_S exK:=by kernel_rfl
theorem rc2X_v:rc2X_S exK:=Eq.mp (rc2X_e ..) (rc2X_P)
theorem rc2X_ok (gl:Glob):SOK Tryz.prog gl 122 rc2X_s:=by
 refine ⟨fok Tryz.func122 (by kernel_rfl) (by kernel_rfl),?_⟩
 intro xs pre r h hp
 unfold rc2X_s at h
 split at h
 ·simp only [Option.some.injEq,Prod.mk.injEq] at h
  obtain ⟨h1,h2⟩:=h
  subst h1 h2
  exact fnK_sound tyNil (by exact specOK rfl rfl ⟨(rg2_ok gl),trivial⟩ trivial) (by kernel_rfl) Tryz.func122 rfl (rc2X_v gl _ _ hp)
 ·cases h
def rc2_s:Sp
 | [.sl 3 f xs,.fn 66 []]=>some (StsP xs,.bool (xs.any p2R))
 | _=>none
def rc2_T:Prop :=
 ∀ (gl:Glob) (f:Bool) (xs:List (List AV)),StsP xs→True→True→StsP xs∧decide (0≤idxP p2R xs)=xs.any p2R
theorem rc2_P:rc2_T:=by
 unfold rc2_T
 intro gl f xs hp
 intros
 exact ⟨hp,idx_ge⟩
def rc2_S:Prop:=∀ (gl:Glob) (f:Bool) (xs:List (List AV)),StsP xs→fnK Tryz.prog { glob:=gl,spec:=lk [(122,rc2X_s)],specH:=lk [],nowf:=true } { nt:=9,drop:=drp [(1,480)] } (fun _ _=>none) 6 Tryz.f106 [.sl 3 f xs,.fn 66 []] (.bool (xs.any p2R))
theorem rc2_e:rc2_T=rc2_S:=by kernel_rfl
theorem rc2_v:rc2_S:=Eq.mp (rc2_e ..) (rc2_P)
theorem rc2_ok (gl:Glob):SOK Tryz.prog gl 106 rc2_s:=by
 refine ⟨fok Tryz.func106 (by kernel_rfl) (by kernel_rfl),?_⟩
 intro xs pre r h hp
 unfold rc2_s at h
 split at h
 ·simp only [Option.some.injEq,Prod.mk.injEq] at h
  obtain ⟨h1,h2⟩:=h
  subst h1 h2
  exact fnK_sound tyNil (by exact specOK rfl rfl ⟨(rc2X_ok gl),trivial⟩ trivial) (by kernel_rfl) Tryz.func106 rfl (rc2_v gl _ _ hp)
 ·cases h
def rc2s_s:Sp
 | [.agg [.sl 3 f xs],.fn 66 []]=>some (StsP xs,.bool (xs.any p2R))
 | _=>none
def rc2s_T:Prop :=
 ∀ (gl:Glob) (f:Bool) (xs:List (List AV)),StsP xs→True∧True→True→StsP xs∧xs.any p2R=xs.any p2R
theorem rc2s_P:rc2s_T:=by
 unfold rc2s_T
 intro gl f xs hp
 intros
 exact ⟨hp,rfl⟩
def rc2s_S:Prop:=∀ (gl:Glob) (f:Bool) (xs:List (List AV)),StsP xs→fnK Tryz.prog { glob:=gl,spec:=lk [(106,rc2_s)],specH:=lk [],nowf:=true } { nt:=9,drop:=drp [(1,480)] } (fun _ _=>none) 6 Tryz.f64 [.agg [.sl 3 f xs],.fn 66 []] (.bool (xs.any p2R))
theorem rc2s_e:rc2s_T=rc2s_S:=by kernel_rfl
theorem rc2s_v:rc2s_S:=Eq.mp (rc2s_e ..) (rc2s_P)
theorem rc2s_ok (gl:Glob):SOK Tryz.prog gl 64 rc2s_s:=by
 refine ⟨fok Tryz.func64 (by kernel_rfl) (by kernel_rfl),?_⟩
 intro xs pre r h hp
 unfold rc2s_s at h
 split at h
 ·simp only [Option.some.injEq,Prod.mk.injEq] at h
  obtain ⟨h1,h2⟩:=h
  subst h1 h2
  exact fnK_sound tyNil (by exact specOK rfl rfl ⟨(rc2_ok gl),trivial⟩ trivial) (by kernel_rfl) Tryz.func64 rfl (rc2s_v gl _ _ hp)
 ·cases h
def rc3X_s:Sp
 | [.sl 3 f xs,.fn 67 []]=>some (StsP xs,.int .i64 (idxP p3R xs))
 | _=>none
def rc3X_T (nmOk:ByteArray→Bool):Prop :=
  ∀ (gl:Glob) (f:Bool) (xs:List (List AV)),StsP xs→True→True→(∃ x,IdxI p3R xs x∧(((bif f then f=true else True)∧xs=xs)∧True∧(↑xs.length:Int)=(↑xs.length:Int)∧(0:Int)=x∧True)∧True)∧∀ (x:Int),IdxI p3R xs x→bif decide (x < (↑xs.length:Int)) then bif decide (0≤x∧x < (↑xs.length:Int)) then ∃ n s xs_1,List.take [AV.int .i64 n,.str s,.sl (7:Nat) false xs_1].length (xs.getD x.toNat [])=[AV.int
 .i64 n,.str s,.sl (7:Nat) false xs_1]∧True∧bif !nmOk s then x=idxP p3R xs else bif decide (rng .i64 (x+(1:Int))) then ∃ y,IdxI p3R xs y∧(rxL (67:Nat) (3:Nat) p3R f xs [] []).m y < (rxL (67:Nat) (3:Nat) p3R f xs [] []).m x∧(((bif f then f=true else True)∧xs=xs)∧True∧(↑xs.length:Int)=(↑xs.length:Int)∧x+(1:Int)=y∧True)∧True else False else False else (-1:Int)=idxP p3R xs
theorem rc3X_P:rc3X_T nmOk:=by
 unfold rc3X_T
 intro gl f xs hp
 intros
 have bf:cond f (f=true) True:=by cases f <;> trivial
 have hs:=hp.fs
 refine ⟨⟨0,⟨by decide,by omega,fun j h=>by omega⟩,by (repeat' (first | exact trivial | exact rfl | assumption | apply And.intro))⟩,?_⟩
 rintro i ⟨h0,h1,hn⟩
 have ei:((i.toNat:Nat):Int)=i:=by omega
 refine cs (fun hl=>?_) (fun hl=>?_)
 ·obtain ⟨k,nm,ps,he,hq⟩:=hp.fr i.toNat (by omega)
  refine cd1 ⟨h0,hl⟩ ⟨k,nm,ps,by rw [he]; rfl,trivial,csplit (fun q=>?_) (fun q=>?_)⟩
  ·have:=idx_some (p:=p3R) (xs:=xs) (i:=i.toNat) (by omega) (by rw [he]; exact q) (fun j hj=>hn j (by omega))
   exact ei.symm.trans this
  ·refine cdI (by omega) ⟨i+1,⟨by omega,by omega,fun j hj=>?_⟩,by simp only [rxL]; omega,by (repeat' (first | exact trivial | exact rfl | assumption | apply And.intro))⟩
   rcases Nat.lt_or_ge j i.toNat with k | k
   ·exact hn j (by omega)
   ·rw [show j=i.toNat by omega,he]; exact q
 ·exact idx_none fun j hj=>hn j (by omega)
def rc3X_S (nmOk:ByteArray→Bool):Prop:=∀ (gl:Glob) (f:Bool) (xs:List (List AV)),StsP xs→fnK Tryz.prog { glob:=gl,spec:=lk [(67,(rg3_s nmOk))],specH:=lk [],shape:=[15],slz:=[(15,[7])],nowf:=true } { nt:=19,drop:=drp [(1,64),(3,1024),(4,63488),(5,131072),(6,262144)] } (invs [(2,rxL 67 3 p3R f xs [] [])]) 6 Tryz.f122 [.sl 3 f xs,.fn 67 []] (.int .i64 (idxP p3R xs))
theorem rc3X_e (nmOk:ByteArray→Bool):rc3X_T nmOk=rc3X_S nmOk:=by kernel_rfl
theorem rc3X_v:rc3X_S nmOk:=Eq.mp (rc3X_e ..) (rc3X_P)
theorem rc3X_ok (gl:Glob):SOK Tryz.prog gl 122 rc3X_s:=by
 refine ⟨fok Tryz.func122 (by kernel_rfl) (by kernel_rfl),?_⟩
 intro xs pre r h hp
 unfold rc3X_s at h
 split at h
 ·simp only [Option.some.injEq,Prod.mk.injEq] at h
  obtain ⟨h1,h2⟩:=h
  subst h1 h2
  exact fnK_sound tyNil (by exact specOK rfl rfl ⟨(rg3_ok gl),trivial⟩ trivial) (by kernel_rfl) Tryz.func122 rfl (rc3X_v gl _ _ hp)
 ·cases h
def rc3_s:Sp
 | [.sl 3 f xs,.fn 67 []]=>some (StsP xs,.bool (xs.any p3R))
 | _=>none
def rc3_T:Prop :=
 ∀ (gl:Glob) (f:Bool) (xs:List (List AV)),StsP xs→True→True→StsP xs∧decide (0≤idxP p3R xs)=xs.any p3R
theorem rc3_P:rc3_T:=by
 unfold rc3_T
 intro gl f xs hp
 intros
 exact ⟨hp,idx_ge⟩
def rc3_S:Prop:=∀ (gl:Glob) (f:Bool) (xs:List (List AV)),StsP xs→fnK Tryz.prog { glob:=gl,spec:=lk [(122,rc3X_s)],specH:=lk [],nowf:=true } { nt:=9,drop:=drp [(1,480)] } (fun _ _=>none) 6 Tryz.f106 [.sl 3 f xs,.fn 67 []] (.bool (xs.any p3R))
theorem rc3_e:rc3_T=rc3_S:=by kernel_rfl
theorem rc3_v:rc3_S:=Eq.mp (rc3_e ..) (rc3_P)
theorem rc3_ok (gl:Glob):SOK Tryz.prog gl 106 rc3_s:=by
 refine ⟨fok Tryz.func106 (by kernel_rfl) (by kernel_rfl),?_⟩
 intro xs pre r h hp
 unfold rc3_s at h
 split at h
 ·simp only [Option.some.injEq,Prod.mk.injEq] at h
  obtain ⟨h1,h2⟩:=h
  subst h1 h2
  exact fnK_sound tyNil (by exact specOK rfl rfl ⟨(rc3X_ok gl),trivial⟩ trivial) (by kernel_rfl) Tryz.func106 rfl (rc3_v gl _ _ hp)
 ·cases h
def rc3s_s:Sp
 | [.agg [.sl 3 f xs],.fn 67 []]=>some (StsP xs,.bool (xs.any p3R))
 | _=>none
def rc3s_T:Prop :=
 ∀ (gl:Glob) (f:Bool) (xs:List (List AV)),StsP xs→True∧True→True→StsP xs∧xs.any p3R=xs.any p3R
theorem rc3s_P:rc3s_T:=by
 unfold rc3s_T
 intro gl f xs hp
 intros
 exact ⟨hp,rfl⟩
def rc3s_S:Prop:=∀ (gl:Glob) (f:Bool) (xs:List (List AV)),StsP xs→fnK Tryz.prog { glob:=gl,spec:=lk [(106,rc3_s)],specH:=lk [],nowf:=true } { nt:=9,drop:=drp [(1,480)] } (fun _ _=>none) 6 Tryz.f64 [.agg [.sl 3 f xs],.fn 67 []] (.bool (xs.any p3R))
theorem rc3s_e:rc3s_T=rc3s_S:=by kernel_rfl
theorem rc3s_v:rc3s_S:=Eq.mp (rc3s_e ..) (rc3s_P)
theorem rc3s_ok (gl:Glob):SOK Tryz.prog gl 64 rc3s_s:=by
 refine ⟨fok Tryz.func64 (by kernel_rfl) (by kernel_rfl),?_⟩
 intro xs pre r h hp
 unfold rc3s_s at h
 split at h
 ·simp only [Option.some.injEq,Prod.mk.injEq] at h
  obtain ⟨h1,h2⟩:=h
  subst h1 h2
  exact fnK_sound tyNil (by exact specOK rfl rfl ⟨(rc3_ok gl),trivial⟩ trivial) (by kernel_rfl) Tryz.func64 rfl (rc3s_v gl _ _ hp)
 ·cases h
def rc5X_s:Sp
 | [.sl 3 f xs,.fn 71 []]=>some (StsP xs,.int .i64 (idxP p5R xs))
 | _=>none
def rc5X_T (ascB:LLR→Bool):Prop :=
  ∀ (gl:Glob) (f:Bool) (xs:List (List AV)),StsP xs→True→True→(∃ x,IdxI p5R xs x∧(((bif f then f=true else True)∧xs=xs)∧True∧(↑xs.length:Int)=(↑xs.length:Int)∧(0:Int)=x∧True)∧True)∧∀ (x:Int),IdxI p5R xs x→bif decide (x < (↑xs.length:Int)) then bif decide (0≤x∧x < (↑xs.length:Int)) then ∃ n s xs_1,List.take [AV.int .i64 n,.str s,.sl (7:Nat) false xs_1].length (xs.getD x.toNat [])=[AV.int
 .i64 n,.str s,.sl (7:Nat) false xs_1]∧PdsP xs_1∧bif !ascB xs_1 then x=idxP p5R xs else bif decide (rng .i64 (x+(1:Int))) then ∃ y,IdxI p5R xs y∧(rxL (71:Nat) (3:Nat) p5R f xs [] []).m y < (rxL (71:Nat) (3:Nat) p5R f xs [] []).m x∧(((bif f then f=true else True)∧xs=xs)∧True∧(↑xs.length:Int)=(↑xs.length:Int)∧x+(1:Int)=y∧True)∧True else False else False else (-1:Int)=idxP p5R xs
theorem rc5X_P:rc5X_T ascB:=by
 unfold rc5X_T
 intro gl f xs hp
 intros
 have bf:cond f (f=true) True:=by cases f <;> trivial
 have hs:=hp.fs
 refine ⟨⟨0,⟨by decide,by omega,fun j h=>by omega⟩,by (repeat' (first | exact trivial | exact rfl | assumption | apply And.intro))⟩,?_⟩
 rintro i ⟨h0,h1,hn⟩
 have ei:((i.toNat:Nat):Int)=i:=by omega
 refine cs (fun hl=>?_) (fun hl=>?_)
 ·obtain ⟨k,nm,ps,he,hq⟩:=hp.fr i.toNat (by omega)
  refine cd1 ⟨h0,hl⟩ ⟨k,nm,ps,by rw [he]; rfl,hq,csplit (fun q=>?_) (fun q=>?_)⟩
  ·have:=idx_some (p:=p5R) (xs:=xs) (i:=i.toNat) (by omega) (by rw [he]; exact q) (fun j hj=>hn j (by omega))
   exact ei.symm.trans this
  ·refine cdI (by omega) ⟨i+1,⟨by omega,by omega,fun j hj=>?_⟩,by simp only [rxL]; omega,by (repeat' (first | exact trivial | exact rfl | assumption | apply And.intro))⟩
   rcases Nat.lt_or_ge j i.toNat with k | k
   ·exact hn j (by omega)
   ·rw [show j=i.toNat by omega,he]; exact q
 ·exact idx_none fun j hj=>hn j (by omega)
def rc5X_S (ascB:LLR→Bool):Prop:=∀ (gl:Glob) (f:Bool) (xs:List (List AV)),StsP xs→fnK Tryz.prog { glob:=gl,spec:=lk [(71,(gunord_s ascB))],specH:=lk [],shape:=[15],slz:=[(15,[7])],nowf:=true } { nt:=19,drop:=drp [(1,64),(3,1024),(4,63488),(5,131072),(6,262144)] } (invs [(2,rxL 71 3 p5R f xs [] [])]) 6 Tryz.f122 [.sl 3 f xs,.fn 71 []] (.int .i64 (idxP p5R xs))
theorem rc5X_e (ascB:LLR→Bool):rc5X_T ascB=rc5X_S ascB:=by kernel_rfl
theorem rc5X_v:rc5X_S ascB:=Eq.mp (rc5X_e ..) (rc5X_P)
theorem rc5X_ok (gl:Glob):SOK Tryz.prog gl 122 rc5X_s:=by
 refine ⟨fok Tryz.func122 (by kernel_rfl) (by kernel_rfl),?_⟩
 intro xs pre r h hp
 unfold rc5X_s at h
 split at h
 ·simp only [Option.some.injEq,Prod.mk.injEq] at h
  obtain ⟨h1,h2⟩:=h
  subst h1 h2
  exact fnK_sound tyNil (by exact specOK rfl rfl ⟨(gunord_ok gl),trivial⟩ trivial) (by kernel_rfl) Tryz.func122 rfl (rc5X_v gl _ _ hp)
 ·cases h
def rc5_s:Sp
 | [.sl 3 f xs,.fn 71 []]=>some (StsP xs,.bool (xs.any p5R))
 | _=>none
def rc5_T:Prop :=
 ∀ (gl:Glob) (f:Bool) (xs:List (List AV)),StsP xs→True→True→StsP xs∧decide (0≤idxP p5R xs)=xs.any p5R
theorem rc5_P:rc5_T:=by
 unfold rc5_T
 intro gl f xs hp
 intros
 exact ⟨hp,idx_ge⟩
def rc5_S:Prop:=∀ (gl:Glob) (f:Bool) (xs:List (List AV)),StsP xs→fnK Tryz.prog { glob:=gl,spec:=lk [(122,rc5X_s)],specH:=lk [],nowf:=true } { nt:=9,drop:=drp [(1,480)] } (fun _ _=>none) 6 Tryz.f106 [.sl 3 f xs,.fn 71 []] (.bool (xs.any p5R))
theorem rc5_e:rc5_T=rc5_S:=by kernel_rfl
theorem rc5_v:rc5_S:=Eq.mp (rc5_e ..) (rc5_P)
theorem rc5_ok (gl:Glob):SOK Tryz.prog gl 106 rc5_s:=by
 refine ⟨fok Tryz.func106 (by kernel_rfl) (by kernel_rfl),?_⟩
 intro xs pre r h hp
 unfold rc5_s at h
 split at h
 ·simp only [Option.some.injEq,Prod.mk.injEq] at h
  obtain ⟨h1,h2⟩:=h
  subst h1 h2
  exact fnK_sound tyNil (by exact specOK rfl rfl ⟨(rc5X_ok gl),trivial⟩ trivial) (by kernel_rfl) Tryz.func106 rfl (rc5_v gl _ _ hp)
 ·cases h
def rc5s_s:Sp
 | [.agg [.sl 3 f xs],.fn 71 []]=>some (StsP xs,.bool (xs.any p5R))
 | _=>none
def rc5s_T:Prop :=
 ∀ (gl:Glob) (f:Bool) (xs:List (List AV)),StsP xs→True∧True→True→StsP xs∧xs.any p5R=xs.any p5R
theorem rc5s_P:rc5s_T:=by
 unfold rc5s_T
 intro gl f xs hp
 intros
 exact ⟨hp,rfl⟩
def rc5s_S:Prop:=∀ (gl:Glob) (f:Bool) (xs:List (List AV)),StsP xs→fnK Tryz.prog { glob:=gl,spec:=lk [(106,rc5_s)],specH:=lk [],nowf:=true } { nt:=9,drop:=drp [(1,480)] } (fun _ _=>none) 6 Tryz.f64 [.agg [.sl 3 f xs],.fn 71 []] (.bool (xs.any p5R))
theorem rc5s_e:rc5s_T=rc5s_S:=by kernel_rfl
theorem rc5s_v:rc5s_S:=Eq.mp (rc5s_e ..) (rc5s_P)
theorem rc5s_ok (gl:Glob):SOK Tryz.prog gl 64 rc5s_s:=by
 refine ⟨fok Tryz.func64 (by kernel_rfl) (by kernel_rfl),?_⟩
 intro xs pre r h hp
 unfold rc5s_s at h
 split at h
 ·simp only [Option.some.injEq,Prod.mk.injEq] at h
  obtain ⟨h1,h2⟩:=h
  subst h1 h2
  exact fnK_sound tyNil (by exact specOK rfl rfl ⟨(rc5_ok gl),trivial⟩ trivial) (by kernel_rfl) Tryz.func64 rfl (rc5s_v gl _ _ hp)
 ·cases h
def rc6X_s:Sp
 | [.sl 3 f xs,.fn 68 []]=>some (StsP xs,.int .i64 (idxP p4R xs))
 | _=>none
def rc6X_T:Prop :=
  ∀ (f:Bool) (xs:List (List AV)),StsP xs→True→True→(∃ x,IdxI p4R xs x∧(((bif f then f=true else True)∧xs=xs)∧True∧(↑xs.length:Int)=(↑xs.length:Int)∧(0:Int)=x∧True)∧True)∧∀ (x:Int),IdxI p4R xs x→bif decide (x < (↑xs.length:Int)) then bif decide (0≤x∧x < (↑xs.length:Int)) then ∃ n s xs_1,List.take [AV.int .i64 n,.str s,.sl (7:Nat) false xs_1].length (xs.getD x.toNat [])=[AV.int .i64 n,.str
 s,.sl (7:Nat) false xs_1]∧PdsP xs_1∧bif xs_1.any (bdP n) then x=idxP p4R xs else bif decide (rng .i64 (x+(1:Int))) then ∃ y,IdxI p4R xs y∧(rxL (68:Nat) (3:Nat) p4R f xs [] []).m y < (rxL (68:Nat) (3:Nat) p4R f xs [] []).m x∧(((bif f then f=true else True)∧xs=xs)∧True∧(↑xs.length:Int)=(↑xs.length:Int)∧x+(1:Int)=y∧True)∧True else False else False else (-1:Int)=idxP p4R xs
theorem rc6X_P:rc6X_T:=by
 unfold rc6X_T
 intro f xs hp
 intros
 have bf:cond f (f=true) True:=by cases f <;> trivial
 have hs:=hp.fs
 refine ⟨⟨0,⟨by decide,by omega,fun j h=>by omega⟩,by (repeat' (first | exact trivial | exact rfl | assumption | apply And.intro))⟩,?_⟩
 rintro i ⟨h0,h1,hn⟩
 have ei:((i.toNat:Nat):Int)=i:=by omega
 refine cs (fun hl=>?_) (fun hl=>?_)
 ·obtain ⟨k,nm,ps,he,hq⟩:=hp.fr i.toNat (by omega)
  refine cd1 ⟨h0,hl⟩ ⟨k,nm,ps,by rw [he]; rfl,hq,csplit (fun q=>?_) (fun q=>?_)⟩
  ·have:=idx_some (p:=p4R) (xs:=xs) (i:=i.toNat) (by omega) (by rw [he]; exact q) (fun j hj=>hn j (by omega))
   exact ei.symm.trans this
  ·refine cdI (by omega) ⟨i+1,⟨by omega,by omega,fun j hj=>?_⟩,by simp only [rxL]; omega,by (repeat' (first | exact trivial | exact rfl | assumption | apply And.intro))⟩
   rcases Nat.lt_or_ge j i.toNat with k | k
   ·exact hn j (by omega)
   ·rw [show j=i.toNat by omega,he]; exact q
 ·exact idx_none fun j hj=>hn j (by omega)
def rc6X_S:Prop:=∀ (f:Bool) (xs:List (List AV)),StsP xs→fnK Tryz.prog { glob:=glb,spec:=lk [(68,rg4_s)],specH:=lk [],shape:=[15],slz:=[(15,[7])],nowf:=true } { nt:=19,drop:=drp [(1,64),(3,1024),(4,63488),(5,131072),(6,262144)] } (invs [(2,rxL 68 3 p4R f xs [] [])]) 6 Tryz.f122 [.sl 3 f xs,.fn 68 []] (.int .i64 (idxP p4R xs))
theorem rc6X_e:rc6X_T=rc6X_S:=by kernel_rfl
theorem rc6X_v:rc6X_S:=Eq.mp (rc6X_e ..) (rc6X_P)
theorem rc6X_ok:SOK Tryz.prog glb 122 rc6X_s:=by
 refine ⟨fok Tryz.func122 (by kernel_rfl) (by kernel_rfl),?_⟩
 intro xs pre r h hp
 unfold rc6X_s at h
 split at h
 ·simp only [Option.some.injEq,Prod.mk.injEq] at h
  obtain ⟨h1,h2⟩:=h
  subst h1 h2
  exact fnK_sound tyNil (by exact specOK rfl rfl ⟨(rg4_ok),trivial⟩ trivial) (by kernel_rfl) Tryz.func122 rfl (rc6X_v  _ _ hp)
 ·cases h
def rc6_s:Sp
 | [.sl 3 f xs,.fn 68 []]=>some (StsP xs,.bool (xs.any p4R))
 | _=>none
def rc6_T:Prop :=
 ∀ (f:Bool) (xs:List (List AV)),StsP xs→True→True→StsP xs∧decide (0≤idxP p4R xs)=xs.any p4R
theorem rc6_P:rc6_T:=by
 unfold rc6_T
 intro f xs hp
 intros
 exact ⟨hp,idx_ge⟩
def rc6_S:Prop:=∀ (f:Bool) (xs:List (List AV)),StsP xs→fnK Tryz.prog { glob:=glb,spec:=lk [(122,rc6X_s)],specH:=lk [],nowf:=true } { nt:=9,drop:=drp [(1,480)] } (fun _ _=>none) 6 Tryz.f106 [.sl 3 f xs,.fn 68 []] (.bool (xs.any p4R))
theorem rc6_e:rc6_T=rc6_S:=by kernel_rfl
theorem rc6_v:rc6_S:=Eq.mp (rc6_e ..) (rc6_P)
theorem rc6_ok:SOK Tryz.prog glb 106 rc6_s:=by
 refine ⟨fok Tryz.func106 (by kernel_rfl) (by kernel_rfl),?_⟩
 intro xs pre r h hp
 unfold rc6_s at h
 split at h
 ·simp only [Option.some.injEq,Prod.mk.injEq] at h
  obtain ⟨h1,h2⟩:=h
  subst h1 h2
  exact fnK_sound tyNil (by exact specOK rfl rfl ⟨(rc6X_ok),trivial⟩ trivial) (by kernel_rfl) Tryz.func106 rfl (rc6_v  _ _ hp)
 ·cases h
def rc6s_s:Sp
 | [.agg [.sl 3 f xs],.fn 68 []]=>some (StsP xs,.bool (xs.any p4R))
 | _=>none
def rc6s_T:Prop :=
 ∀ (f:Bool) (xs:List (List AV)),StsP xs→True∧True→True→StsP xs∧xs.any p4R=xs.any p4R
theorem rc6s_P:rc6s_T:=by
 unfold rc6s_T
 intro f xs hp
 intros
 exact ⟨hp,rfl⟩
def rc6s_S:Prop:=∀ (f:Bool) (xs:List (List AV)),StsP xs→fnK Tryz.prog { glob:=glb,spec:=lk [(106,rc6_s)],specH:=lk [],nowf:=true } { nt:=9,drop:=drp [(1,480)] } (fun _ _=>none) 6 Tryz.f64 [.agg [.sl 3 f xs],.fn 68 []] (.bool (xs.any p4R))
theorem rc6s_e:rc6s_T=rc6s_S:=by kernel_rfl
theorem rc6s_v:rc6s_S:=Eq.mp (rc6s_e ..) (rc6s_P)
theorem rc6s_ok:SOK Tryz.prog glb 64 rc6s_s:=by
 refine ⟨fok Tryz.func64 (by kernel_rfl) (by kernel_rfl),?_⟩
 intro xs pre r h hp
 unfold rc6s_s at h
 split at h
 ·simp only [Option.some.injEq,Prod.mk.injEq] at h
  obtain ⟨h1,h2⟩:=h
  subst h1 h2
  exact fnK_sound tyNil (by exact specOK rfl rfl ⟨(rc6_ok),trivial⟩ trivial) (by kernel_rfl) Tryz.func64 rfl (rc6s_v  _ _ hp)
 ·cases h
def snO (l:LLR):Bool:=decide (∀ j,j < l.length→j=0∨Op.bytesLess (sNm (l.getD (j - 1) [])).toList (sNm (l.getD j [])).toList=true)
def rgV (l:LLR):Int:=if 60 < (l.length:Int)∨l.any p1R=true then 2 else if l.any p2R=true then 4 else if l.any p3R=true then 3 else if l.any p4R=true then 1 else if l.any p5R=true then 8 else if snO l=true then 0 else 8
structure SnI (l:LLR) (i:Int):Prop where
 lo:1≤i
 hi:i≤l.length∨i=1
 asc:∀ j:Nat,(j:Int) < i→j < l.length→j=0∨Op.bytesLess (sNm (l.getD (j - 1) [])).toList (sNm (l.getD j [])).toList=true
def vl12 (l:LLR) (g:Bool):LInv:=⟨Int,fun i=>⟨[(1,.ptr 1 0),(3,.int .i64 i)],[(1,.cells [.sl 3 g l])]⟩,SnI l,fun i=>(l.length+1 - i).toNat,none⟩
def gvalidR_s (rgV:LLR→Int) (p1R:List AV→Bool) (p2R:List AV→Bool) (p3R:List AV→Bool) (p4R:List AV→Bool) (p5R:List AV→Bool):Sp
 | [.agg [.sl 3 g l]]=>some (StsP l,.int .i64 (rgV l))
 | _=>none
def gvalidR_T (rgV:LLR→Int) (p1R:List AV→Bool) (p2R:List AV→Bool) (p3R:List AV→Bool) (p4R:List AV→Bool) (p5R:List AV→Bool):Prop :=
  ∀ (g:Bool) (l:List (List AV)),StsP l→True∧True→bif decide ((60:Int) < (↑l.length:Int)) then (2:Int)=rgV l else StsP l∧bif l.any YtldiagnbagpliaaGreatDoor.p1R then (2:Int)=rgV l else StsP l∧bif l.any YtldiagnbagpliaaGreatDoor.p2R then (4:Int)=rgV l else StsP l∧bif l.any YtldiagnbagpliaaGreatDoor.p3R then (3:Int)=rgV l else StsP l∧bif l.any YtldiagnbagpliaaGreatDoor.p4R then (1:Int)=rgV l else
 StsP l∧bif l.any YtldiagnbagpliaaGreatDoor.p5R then (8:Int)=rgV l else (∃ x,SnI l x∧((0:Nat)=0∧(1:Int)=x∧True)∧(((bif g then g=true else True)∧l=l)∧True)∧True)∧∀ (x:Int),SnI l x→bif decide (x < (↑l.length:Int)) then bif decide (rng .i64 (x - (1:Int))) then bif decide (0≤x - (1:Int)∧x - (1:Int) < (↑l.length:Int)) then ∃ s,List.take [AV.str s].length (List.drop (1:Nat) (l.getD (x -
 (1:Int)).toNat []))=[AV.str s]∧bif decide (0≤x∧x < (↑l.length:Int)) then ∃ s_1,List.take [AV.str s_1].length (List.drop (1:Nat) (l.getD x.toNat []))=[AV.str s_1]∧bif !Op.bytesLess s.toList s_1.toList then (8:Int)=rgV l else bif decide (rng .i64 (x+(1:Int))) then ∃ y,SnI l y∧(vl12 l g).m y < (vl12 l g).m x∧((0:Nat)=0∧x+(1:Int)=y∧True)∧(((bif g then g=true else True)∧l=l)∧True)∧True else
 False else False else False else False else (0:Int)=rgV l
theorem gvalidR_P:gvalidR_T rgV p1R p2R p3R p4R p5R:=by
 unfold gvalidR_T
 intro g l hp _
 have hs:=hp.fs
 have bg:cond g (g=true) True:=by cases g <;> trivial
 have nt:∀ {b:Bool},b=false→¬ b=true:=fun h=>by rw [h]; decide
 refine csx (fun q=>by unfold rgV; rw [if_pos (.inl q)]) (fun q=>⟨hp,csplit (fun q1=>by unfold rgV; rw [if_pos (.inr q1)]) (fun q1=>?_)⟩)
 have e1:rgV l=if l.any p2R=true then 4 else if l.any p3R=true then 3 else if l.any p4R=true then 1 else if l.any p5R=true then 8 else if snO l=true then 0 else 8:=by unfold rgV; rw [if_neg (fun h=>h.elim q (nt q1))]
 rw [e1]
 refine ⟨hp,csplit (fun q2=>by rw [if_pos q2]) (fun q2=>⟨hp,csplit (fun q3=>by rw [if_neg (nt q2),if_pos q3]) (fun q3=>⟨hp,csplit (fun q4=>by rw [if_neg (nt q2),if_neg (nt q3),if_pos q4]) (fun q4=>⟨hp,csplit (fun q5=>by rw [if_neg (nt q2),if_neg (nt q3),if_neg (nt q4),if_pos q5]) (fun q5=>?_)⟩)⟩)⟩)⟩
 rw [if_neg (nt q2),if_neg (nt q3),if_neg (nt q4),if_neg (nt q5)]
 refine ⟨⟨1,⟨by decide,.inr rfl,fun j hj _=>.inl (by omega)⟩,by (repeat' (first | exact trivial | exact rfl | assumption | apply And.intro))⟩,?_⟩
 rintro i ⟨h0,h2,hn⟩
 refine csx (fun hl=>cdI (by omega) (cd1 (by omega) ?_)) (fun hl=>?_)
 ·obtain ⟨_,e,_,he,_⟩:=hp.fr (i - 1).toNat (by omega)
  obtain ⟨_,e',_,he',_⟩:=hp.fr i.toNat (by omega)
  have hi:i.toNat - 1=(i - 1).toNat:=by omega
  have q1:sNm (l.getD (i.toNat - 1) [])=e:=by rw [hi,he]; rfl
  have q2:sNm (l.getD i.toNat [])=e':=by rw [he']; rfl
  refine ⟨e,by rw [he]; rfl,cd1 (by omega) ⟨e',by rw [he']; rfl,csplit (fun q=>?_) (fun q=>cdI (by omega) ⟨i+1,⟨by omega,.inl (by omega),fun j hj hlj=>?_⟩,by simp only [vl12]; omega,by (repeat' (first | exact trivial | exact rfl | assumption | apply And.intro))⟩)⟩⟩
  ·rw [if_neg]
   intro h
   rcases of_decide_eq_true h i.toNat (by omega) with k | k
   ·omega
   ·rw [q1,q2] at k; rw [k] at q; cases q
  ·rcases Nat.lt_or_ge j i.toNat with k | k
   ·exact hn j (by omega) hlj
   ·rw [show j=i.toNat by omega,q1,q2]; exact .inr (by simpa using q)
 ·rw [if_pos]
  exact decide_eq_true fun j hj=>hn j (by omega) hj
def gvalidR_S (rgV:LLR→Int) (p1R:List AV→Bool) (p2R:List AV→Bool) (p3R:List AV→Bool) (p4R:List AV→Bool) (p5R:List AV→Bool):Prop:=∀ (g:Bool) (l:List (List AV)),StsP l→fnK Tryz.prog { glob:=glb,spec:=lk [(64,(orSp rc1s_s (orSp rc2s_s (orSp rc3s_s (orSp rc5s_s rc6s_s)))))],specH:=lk [],shape:=[38,44],nowf:=true } { nt:=46,drop:=drp [(1,8160),(3,49152),(5,393216),(7,3145728),(9,25165824),(12,503316480),(13,3221225472),(14,35180077121536)] } (invs [(12,vl12 l g)]) 6 Tryz.f28 [.agg [.sl 3 g l]] (.int .i64 (rgV l))
theorem gvalidR_e (rgV:LLR→Int) (p1R:List AV→Bool) (p2R:List AV→Bool) (p3R:List AV→Bool) (p4R:List AV→Bool) (p5R:List AV→Bool):gvalidR_T rgV p1R p2R p3R p4R p5R=gvalidR_S rgV p1R p2R p3R p4R p5R:=by kernel_rfl
theorem gvalidR_v:gvalidR_S rgV p1R p2R p3R p4R p5R:=Eq.mp (gvalidR_e ..) (gvalidR_P)
theorem gvalidR_ok:SOK Tryz.prog glb 28 (gvalidR_s rgV p1R p2R p3R p4R p5R):=by
 refine ⟨fok Tryz.func28 (by kernel_rfl) (by kernel_rfl),?_⟩
 intro xs pre r h hp
 unfold gvalidR_s at h
 split at h
 ·simp only [Option.some.injEq,Prod.mk.injEq] at h
  obtain ⟨h1,h2⟩:=h
  subst h1 h2
  exact fnK_sound tyNil (by exact specOK rfl rfl ⟨(SOK.or (rc1s_ok glb) (SOK.or (rc2s_ok glb) (SOK.or (rc3s_ok glb) (SOK.or (rc5s_ok glb) (rc6s_ok))))),trivial⟩ trivial) (by kernel_rfl) Tryz.func28 rfl (gvalidR_v  _ _ hp)
 ·cases h
end Go.Proofs.YtldiagnbagpliaaGreatDoor
namespace Go.Proofs.YtldiagnbagpliaaGreatDoor
open Go
set_option linter.unusedVariables false
set_option linter.unusedSimpArgs false
def unR (bs:LLR) (r:List AV):List AV:=[.int .i64 (rE r),.int .i64 (IntKind.i64.wrap (rV r - fdV bs (rE r)))]
def ckZ (r:List AV):Bool:=decide (ck (rE r) (rV r)=0)
def unb (rd bs:LLR):LLR:=(rd.map (unR bs)).filter ckZ
theorem gD_lt {xs:LLR} {i:Nat} (h:i < xs.length):xs.getD i []=xs[i]:=by
 rw [List.getD_eq_getElem?_getD,List.getElem?_eq_getElem h]; rfl
theorem ck_cases (e v:Int):ck e v=0∨ck e v=1∨ck e v=4:=by
 unfold ck
 split
 ·split
  ·exact .inr (.inl rfl)
  ·exact .inl rfl
 ·exact .inr (.inr rfl)
abbrev AscP (xs:LLR):Prop:=xs.Pairwise (fun a b=>rE a < rE b)
theorem asc_step {xs:LLR} (h:ascB xs=true):∀ (d i:Nat),i+d+1 < xs.length→rE (xs.getD i []) < rE (xs.getD (i+d+1) [])
 | 0,i,hi=>by
  rcases of_decide_eq_true h (i+1) hi with q | q
  ·omega
  ·simpa using q
 | d+1,i,hi=>by
  have h1:=asc_step h d i (by omega)
  rcases of_decide_eq_true h (i+d+1+1) (by omega) with q | q
  ·omega
  ·simp only [Nat.add_sub_cancel] at q
   rw [show i+(d+1)+1=i+d+1+1 by omega]
   exact Int.lt_trans h1 q
theorem asc_pw {xs:LLR}:ascB xs=true↔AscP xs:=by
 constructor
 ·intro h
  rw [AscP,List.pairwise_iff_getElem]
  intro i j hi hj hij
  have:=asc_step h (j - i - 1) i (by omega)
  rw [show i+(j - i - 1)+1=j by omega,gD_lt hi,gD_lt hj] at this
  exact this
 ·intro h
  rw [AscP,List.pairwise_iff_getElem] at h
  refine decide_eq_true fun j hj=>?_
  by_cases hz:j=0
  ·exact .inl hz
  ·refine .inr ?_
   rw [gD_lt hj,gD_lt (show j - 1 < xs.length by omega)]
   exact h (j - 1) j (by omega) hj (by omega)
theorem vd_zero {xs:LLR}:vdE xs=0↔(∀ r ∈ xs,ck (rE r) (rV r)=0)∧AscP xs:=by
 unfold vdE
 rw [← asc_pw]
 constructor
 ·intro h
  split at h
  ·cases h
  ·next h4 =>
   split at h
   ·cases h
   ·next h1 =>
    split at h
    ·next ha =>
     refine ⟨fun r hr=>?_,ha⟩
     rcases ck_cases (rE r) (rV r) with e | e | e
     ·exact e
     ·exact absurd (List.any_eq_true.2 ⟨r,hr,decide_eq_true e⟩) h1
     ·exact absurd (List.any_eq_true.2 ⟨r,hr,decide_eq_true e⟩) h4
    ·cases h
 ·rintro ⟨h,ha⟩
  have nk:∀ n,n≠0→ckA n xs=false:=fun n hn=>by
   unfold ckA
   rw [List.any_eq_false]
   intro r hr q
   have:=of_decide_eq_true q
   rw [h r hr] at this
   exact hn this.symm
  rw [nk 4 (by decide),nk 1 (by decide),ha]; rfl
theorem unb_take {rd bs:LLR} {i:Nat} (hi:i < rd.length):unb (rd.take (i+1)) bs=if ck (rE (rd.getD i [])) (IntKind.i64.wrap (rV (rd.getD i []) - fdV bs (rE (rd.getD i []))))=0 then unb (rd.take i) bs++[unR bs (rd.getD i [])] else unb (rd.take i) bs:=by
 unfold unb
 rw [List.take_add_one,List.getElem?_eq_getElem hi,gD_lt hi,Option.toList_some,List.map_append,List.filter_append]
 show _++(List.filter ckZ [unR bs rd[i]])=_
 by_cases h:ck (rE rd[i]) (IntKind.i64.wrap (rV rd[i] - fdV bs (rE rd[i])))=0
 ·rw [if_pos h,List.filter_cons_of_pos (show ckZ (unR bs rd[i])=true from decide_eq_true h)]; rfl
 ·rw [if_neg h,List.filter_cons_of_neg (show ¬ ckZ (unR bs rd[i])=true from fun q=>h (of_decide_eq_true q)),List.filter_nil,List.append_nil]
theorem unb_len (rd bs:LLR):(unb rd bs).length≤rd.length:=by
 unfold unb
 exact Nat.le_trans (List.length_filter_le _ _) (by rw [List.length_map]; exact Nat.le_refl _)
end Go.Proofs.YtldiagnbagpliaaGreatDoor
namespace Go.Proofs.YtldiagnbagpliaaGreatDoor
open Go
set_option linter.unusedVariables false
set_option linter.unusedSimpArgs false
theorem lex_nm0 (s t:ByteArray):lexI (nmK s.toList) (nmK t.toList)=cmpS s t:=by
 have:=lex_nm (x:=[]) (y:=[]) s.toList t.toList
 rw [List.append_nil,List.append_nil] at this
 rw [this]
 exact orI_z _
theorem less_rfl (s:ByteArray):Op.bytesLess s.toList s.toList=false:=by
 have h:cmpS s s=0:=by rw [← lex_nm0]; exact lexI_rfl _
 unfold cmpS at h
 cases e:Op.bytesLess s.toList s.toList with
 | false=>rfl
 | true=>rw [e] at h; simp at h
theorem less_eq {s t:ByteArray} (h1:Op.bytesLess s.toList t.toList=false) (h2:Op.bytesLess t.toList s.toList=false):s=t:=by
 have h:cmpS s t=0:=by unfold cmpS; rw [h1,h2]; rfl
 rw [← lex_nm0] at h
 have:=lexI_zero h
 have h3:=nmK_inj (x:=[]) (y:=[]) (s:=s.toList) (t:=t.toList) (by rw [this])
 exact str_inj h3.1
def nanS_s:Sp
 | [.str a]=>some (True,.bool false)
 | _=>none
def nanS_T:Prop :=
 ∀ (gl:Glob) (a:ByteArray),a.size.le (9223372036854775807:Nat)→(!decide (a=a))=false
theorem nanS_P:nanS_T:=by
 unfold nanS_T
 intro gl a _
 simp
def nanS_S:Prop:=∀ (gl:Glob) (a:ByteArray),fnK Tryz.prog { glob:=gl,spec:=lk [],specH:=lk [],nowf:=true } { nt:=6,drop:=drp [(1,56)] } (fun _ _=>none) 6 Tryz.f113 [.str a] (.bool false)
theorem nanS_e:nanS_T=nanS_S:=by kernel_rfl
theorem nanS_v:nanS_S:=Eq.mp (nanS_e ..) (nanS_P)
theorem nanS_ok (gl:Glob):SOK Tryz.prog gl 113 nanS_s:=by
 refine ⟨fok Tryz.func113 (by kernel_rfl) (by kernel_rfl),?_⟩
 intro xs pre r h hp
 unfold nanS_s at h
 split at h
 ·simp only [Option.some.injEq,Prod.mk.injEq] at h
  obtain ⟨h1,h2⟩:=h
  subst h1 h2
  exact fnK_sound tyNil (by exact specOK rfl rfl trivial trivial) (by kernel_rfl) Tryz.func113 rfl (nanS_v gl _)
 ·cases h
def fcmpS_s (cmpS:ByteArray→ByteArray→Int):Sp
 | [.str a,.str b]=>some (True,.int .i64 (cmpS a b))
 | _=>none
def fcmpS_T (cmpS:ByteArray→ByteArray→Int):Prop :=
 ∀ (gl:Glob) (a b:ByteArray),a.size.le (9223372036854775807:Nat)→b.size.le (9223372036854775807:Nat)→True∧True∧bif Op.bytesLess a.toList b.toList then (-1:Int)=cmpS a b else bif !(Op.bytesLess a.toList b.toList||decide (a=b)) then (1:Int)=cmpS a b else (0:Int)=cmpS a b
theorem fcmpS_P:fcmpS_T cmpS:=by
 unfold fcmpS_T
 intro gl a b _ _
 refine ⟨trivial,trivial,csplit (fun h=>?_) (fun h=>csplit (fun k=>?_) (fun k=>?_))⟩
 ·unfold cmpS; rw [if_pos h]
 ·unfold cmpS
  rw [h]
  cases e:Op.bytesLess b.toList a.toList with
  | true=>simp
  | false=>rw [h,less_eq h e] at k; simp at k
 ·unfold cmpS
  rw [h] at k ⊢
  have:a=b:=by simpa using k
  subst this
  rw [less_rfl]; simp
def fcmpS_S (cmpS:ByteArray→ByteArray→Int):Prop:=∀ (gl:Glob) (a b:ByteArray),fnK Tryz.prog { glob:=gl,spec:=lk [(113,nanS_s)],specH:=lk [],nowf:=true } { nt:=20,drop:=drp [(1,384),(2,1536),(9,49152),(11,393216)] } (fun _ _=>none) 6 Tryz.f90 [.str a,.str b] (.int .i64 (cmpS a b))
theorem fcmpS_e (cmpS:ByteArray→ByteArray→Int):fcmpS_T cmpS=fcmpS_S cmpS:=by kernel_rfl
theorem fcmpS_v:fcmpS_S cmpS:=Eq.mp (fcmpS_e ..) (fcmpS_P)
theorem fcmpS_ok (gl:Glob):SOK Tryz.prog gl 90 (fcmpS_s cmpS):=by
 refine ⟨fok Tryz.func90 (by kernel_rfl) (by kernel_rfl),?_⟩
 intro xs pre r h hp
 unfold fcmpS_s at h
 split at h
 ·simp only [Option.some.injEq,Prod.mk.injEq] at h
  obtain ⟨h1,h2⟩:=h
  subst h1 h2
  exact fnK_sound tyNil (by exact specOK rfl rfl ⟨(nanS_ok gl),trivial⟩ trivial) (by kernel_rfl) Tryz.func90 rfl (fcmpS_v gl _ _)
 ·cases h
def rdC (xs ys:LLA):Int:=lexI (rdK xs) (rdK ys)
structure CmP (xs ys:LLA) (i:Int):Prop where
 flo:0≤i
 fhi:i≤xs.length
 fhj:i≤ys.length
 fe:rdC xs ys=rdC (xs.drop i.toNat) (ys.drop i.toNat)
end Go.Proofs.YtldiagnbagpliaaGreatDoor
namespace Go.Proofs.YtldiagnbagpliaaGreatDoor
open Go
set_option linter.unusedVariables false
set_option linter.unusedSimpArgs false
def fpI (q:List AV→Int) (l:LLR):Nat:=l.findIdx fun r=>decide (0≤q r)
def fpB (q:List AV→Int) (l:LLR):Bool:=decide (fpI q l < l.length)&&decide (q (l.getD (fpI q l) [])=0)
structure MonQ (q:List AV→Int) (l:LLR):Prop where
 fm:∀ i j:Nat,i < j→j < l.length→q (l.getD j []) < 0→q (l.getD i []) < 0
theorem fp_le (q:List AV→Int) (l:LLR):fpI q l≤l.length:=List.findIdx_le_length
theorem fp_uniq {q:List AV→Int} {l:LLR} {i:Nat} (hi:i≤l.length) (h1:∀ j,j < i→q (l.getD j []) < 0) (h2:i < l.length→0≤q (l.getD i [])):fpI q l=i:=by
 unfold fpI
 by_cases hl:i < l.length
 ·refine (List.findIdx_eq hl).2 ⟨by have:=h2 hl; rw [gD_lt hl] at this; exact decide_eq_true this,fun j hj=>?_⟩
  have:=h1 j hj
  rw [gD_lt (by omega)] at this
  exact decide_eq_false (by omega)
 ·have e:i=l.length:=by omega
  rw [e,List.findIdx_eq_length]
  intro x hx
  obtain ⟨j,hj,rfl⟩:=List.mem_iff_getElem.1 hx
  have:=h1 j (by omega)
  rw [gD_lt hj] at this
  exact decide_eq_false (by omega)
structure BsG (q:List AV→Int) (l:LLR) (p:Int × Int):Prop where
 flo:0≤p.1
 fij:p.1≤p.2
 fhi:p.2≤l.length
 fl:∀ k:Nat,(k:Int) < p.1→q (l.getD k []) < 0
 fr:∀ k:Nat,p.2≤k→k < l.length→0≤q (l.getD k [])
theorem bsG_l {q:List AV→Int} {l:LLR} {i j M:Int} (hm:MonQ q l) (h:BsG q l (i,j)) (m1:i≤M∧M < j) (hq:q (l.getD M.toNat []) < 0):BsG q l (M+1,j):=by
 obtain ⟨i0,ij,j1,hlo,hhi⟩:=h
 simp only at i0 ij j1 hlo hhi
 refine ⟨by simp only; omega,by simp only; omega,j1,fun w hw=>?_,hhi⟩
 simp only at hw
 rcases Nat.lt_or_ge w M.toNat with z | z
 ·exact hm.fm w M.toNat z (by omega) hq
 ·rw [show w=M.toNat by omega]; exact hq
theorem bsG_r {q:List AV→Int} {l:LLR} {i j M:Int} (hm:MonQ q l) (h:BsG q l (i,j)) (m1:i≤M∧M < j) (hq:¬ q (l.getD M.toNat []) < 0):BsG q l (i,M):=by
 obtain ⟨i0,ij,j1,hlo,hhi⟩:=h
 simp only at i0 ij j1 hlo hhi
 refine ⟨i0,by simp only; omega,by simp only; omega,hlo,fun w hw hw2=>?_⟩
 simp only at hw
 rcases Nat.eq_or_lt_of_le (show M.toNat≤w by omega) with z | z
 ·rw [← z]; omega
 ·apply Int.not_lt.1
  intro z2
  exact hq (hm.fm M.toNat w z hw2 z2)
theorem bsG_end {q:List AV→Int} {l:LLR} {i:Int} (h:BsG q l (i,i)):i=(fpI q l:Nat):=by
 obtain ⟨i0,ij,j1,hlo,hhi⟩:=h
 simp only at i0 ij j1 hlo hhi
 have:=fp_uniq (q:=q) (l:=l) (i:=i.toNat) (by omega) (fun w hw=>hlo w (by omega)) (fun hw=>hhi _ (by omega) hw)
 omega
def qS (nm:ByteArray) (r:List AV):Int:=cmpS (sNm r) nm
def qP (t:Int) (r:List AV):Int:=cmpI (rE r) t
def stN (l:LLR) (nm:ByteArray):Nat:=fpI (qS nm) l
def stH (l:LLR) (nm:ByteArray):Bool:=fpB (qS nm) l
def pdN (ps:LLR) (t:Int):Nat:=fpI (qP t) ps
def pdH (ps:LLR) (t:Int):Bool:=fpB (qP t) ps
theorem cmpS_lt {s t:ByteArray}:cmpS s t < 0↔Op.bytesLess s.toList t.toList=true:=by
 unfold cmpS
 constructor
 ·intro h
  split at h
  ·assumption
  ·split at h <;> omega
 ·intro h
  rw [if_pos h]; decide
theorem cmpS_tr {s t u:ByteArray} (h1:cmpS s t < 0) (h2:cmpS t u < 0):cmpS s u < 0:=by
 rw [← lex_nm0] at *
 exact lexI_tr h1 h2
theorem snO_mon {l:LLR} (h:snO l=true) (nm:ByteArray):MonQ (qS nm) l:=by
 have st:∀ (d i:Nat),i+d+1 < l.length→cmpS (sNm (l.getD i [])) (sNm (l.getD (i+d+1) [])) < 0:=by
  intro d
  induction d with
  | zero =>
   intro i hi
   rcases of_decide_eq_true h (i+1) hi with q | q
   ·omega
   ·exact cmpS_lt.2 (by simpa using q)
  | succ d ih =>
   intro i hi
   have h1:=ih i (by omega)
   rcases of_decide_eq_true h (i+d+1+1) (by omega) with q | q
   ·omega
   ·simp only [Nat.add_sub_cancel] at q
    rw [show i+(d+1)+1=i+d+1+1 by omega]
    exact cmpS_tr h1 (cmpS_lt.2 q)
 refine ⟨fun i j hij hj hq=>?_⟩
 have:=st (j - i - 1) i (by omega)
 rw [show i+(j - i - 1)+1=j by omega] at this
 exact cmpS_tr this hq
theorem cmpI_lt {a b:Int}:cmpI a b < 0↔a < b:=by
 unfold cmpI
 constructor
 ·intro h
  split at h
  ·assumption
  ·split at h <;> omega
 ·intro h
  rw [if_pos h]; decide
theorem cmpI_z {a b:Int}:cmpI a b=0↔a=b:=by
 unfold cmpI
 constructor
 ·intro h
  split at h
  ·omega
  ·split at h
   ·omega
   ·omega
 ·intro h
  rw [if_neg (by omega),if_neg (by omega)]
theorem asc_mon {ps:LLR} (h:ascB ps=true) (t:Int):MonQ (qP t) ps:=by
 refine ⟨fun i j hij hj hq=>?_⟩
 have:=asc_step h (j - i - 1) i (by omega)
 rw [show i+(j - i - 1)+1=j by omega] at this
 exact cmpI_lt.2 (Int.lt_trans this (cmpI_lt.1 hq))
def sc1_s (cmpS:ByteArray→ByteArray→Int):Sp
 | [.agg [.int .i64 k,.str nm,.sl 7 false ps],.str n]=>some (True,.int .i64 (cmpS nm n))
 | _=>none
def sc1_T (cmpS:ByteArray→ByteArray→Int):Prop :=
 ∀ (gl:Glob) (k:Int) (nm n:ByteArray) (ps:List (List AV)),(IR9 k)∧nm.size.le (9223372036854775807:Nat)∧True∧True→n.size.le (9223372036854775807:Nat)→True∧cmpS nm n=cmpS nm n
theorem sc1_P:sc1_T cmpS:=by
 unfold sc1_T
 intro gl k nm n ps _ _
 exact ⟨trivial,rfl⟩
def sc1_S (cmpS:ByteArray→ByteArray→Int):Prop:=∀ (gl:Glob) (k:Int) (nm n:ByteArray) (ps:List (List AV)),fnK Tryz.prog { glob:=gl,spec:=lk [(90,(fcmpS_s cmpS))],specH:=lk [],nowf:=true } { nt:=9,drop:=drp [(1,480)] } (fun _ _=>none) 6 Tryz.f89 [.agg [.int .i64 k,.str nm,.sl 7 false ps],.str n] (.int .i64 (cmpS nm n))
theorem sc1_e (cmpS:ByteArray→ByteArray→Int):sc1_T cmpS=sc1_S cmpS:=by kernel_rfl
theorem sc1_v:sc1_S cmpS:=Eq.mp (sc1_e ..) (sc1_P)
theorem sc1_ok (gl:Glob):SOK Tryz.prog gl 89 (sc1_s cmpS):=by
 refine ⟨fok Tryz.func89 (by kernel_rfl) (by kernel_rfl),?_⟩
 intro xs pre r h hp
 unfold sc1_s at h
 split at h
 ·simp only [Option.some.injEq,Prod.mk.injEq] at h
  obtain ⟨h1,h2⟩:=h
  subst h1 h2
  exact fnK_sound tyNil (by exact specOK rfl rfl ⟨(fcmpS_ok gl),trivial⟩ trivial) (by kernel_rfl) Tryz.func89 rfl (sc1_v gl _ _ _ _)
 ·cases h
def pc1_s (cmpI:Int→Int→Int):Sp
 | [.agg [.int .i64 fr,.bool cl,.int .i64 f,.int .i64 a,.int .i64 b,.int .i64 c,.sl 2 false bs],.int .i64 n]=>some (True,.int .i64 (cmpI fr n))
 | _=>none
def pc1_T (cmpI:Int→Int→Int):Prop :=
  ∀ (gl:Glob) (fr f a b c n:Int) (cl:Bool) (bs:List (List AV)),(IR9 fr)∧True∧(IR9 f)∧(IR9 a)∧(IR9 b)∧((-9223372036854775808:Int)≤c∧c ≤
 (9223372036854775807:Int))∧True∧True→IR9 n→True∧cmpI fr n=cmpI fr n
theorem pc1_P:pc1_T cmpI:=by
 unfold pc1_T
 intro gl fr f a b c n cl bs _ _
 exact ⟨trivial,rfl⟩
def pc1_S (cmpI:Int→Int→Int):Prop:=∀ (gl:Glob) (fr f a b c n:Int) (cl:Bool) (bs:List (List AV)),fnK Tryz.prog { glob:=gl,spec:=lk [(103,(fcmpI_s cmpI))],specH:=lk [],nowf:=true } { nt:=9,drop:=drp [(1,480)] } (fun _ _=>none) 6 Tryz.f102 [.agg [.int .i64 fr,.bool cl,.int .i64 f,.int .i64 a,.int .i64 b,.int .i64 c,.sl 2 false bs],.int .i64 n] (.int .i64 (cmpI fr n))
theorem pc1_e (cmpI:Int→Int→Int):pc1_T cmpI=pc1_S cmpI:=by kernel_rfl
theorem pc1_v:pc1_S cmpI:=Eq.mp (pc1_e ..) (pc1_P)
theorem pc1_ok (gl:Glob):SOK Tryz.prog gl 102 (pc1_s cmpI):=by
 refine ⟨fok Tryz.func102 (by kernel_rfl) (by kernel_rfl),?_⟩
 intro xs pre r h hp
 unfold pc1_s at h
 split at h
 ·simp only [Option.some.injEq,Prod.mk.injEq] at h
  obtain ⟨h1,h2⟩:=h
  subst h1 h2
  exact fnK_sound tyNil (by exact specOK rfl rfl ⟨(fcmpI_ok gl),trivial⟩ trivial) (by kernel_rfl) Tryz.func102 rfl (pc1_v gl _ _ _ _ _ _ _ _)
 ·cases h
structure SrcS (l:LLR):Prop where
 fp:StsP l
 fs:snO l=true
structure SrcD (ps:LLR):Prop where
 fp:PdsP ps
 fs:ascB ps=true
def bg3 (s:Nat) (l:LLR) (f:Bool) (tgt:AV) (cf:Nat) (q:List AV→Int):LInv:=⟨Int × Int,fun p=>⟨[(0,.sl s f l),(1,tgt),(2,.fn cf []),(6,.int .i64 0),(7,.bool false),(8,.int .i64 l.length),(9,.int .i64 p.1),(10,.int .i64 p.2)],[]⟩,BsG q l,fun p=>(p.2 - p.1).toNat,none⟩
def bsS_s (cmpS:ByteArray→ByteArray→Int) (stN:LLR→ByteArray→Nat) (stH:LLR→ByteArray→Bool):Sp
 | [.sl 3 f l,.str nm,.fn 89 []]=>some (SrcS l,.tup [.int .i64 (stN l nm:Nat),.bool (stH l nm)])
 | _=>none
def bsS_T (cmpS:ByteArray→ByteArray→Int) (stN:LLR→ByteArray→Nat) (stH:LLR→ByteArray→Bool):Prop :=
  ∀ (gl:Glob) (f:Bool) (l:List (List AV)) (nm:ByteArray),SrcS l→True→nm.size.le (9223372036854775807:Nat)→True→(∃ x,BsG (qS nm) l x∧(((bif f then f=true else True)∧l=l)∧nm=nm∧True∧(0:Int)=0∧false=false∧(↑l.length:Int)=(↑l.length:Int)∧(0:Int)=x.fst∧(↑l.length:Int)=x.snd∧True)∧True)∧∀ (x:Int × Int),BsG (qS nm) l x→bif decide (x.fst < x.snd) then bif decide (rng .i64 (x.fst+x.snd)) then bif
 decide (0≤IntKind.i64.wrap (IntKind.u64.wrap (x.fst+x.snd) / (2:Int))∧IntKind.i64.wrap (IntKind.u64.wrap (x.fst+x.snd) / (2:Int)) < (↑l.length:Int)) then ∃ n s xs,List.take [AV.int .i64 n,.str s,.sl (7:Nat) false xs].length (l.getD (IntKind.i64.wrap (IntKind.u64.wrap (x.fst+x.snd) / (2:Int))).toNat [])=[AV.int .i64 n,.str s,.sl (7:Nat) false xs]∧True∧bif decide (cmpS s nm < (0:Int))
 then bif decide (rng .i64 (IntKind.i64.wrap (IntKind.u64.wrap (x.fst+x.snd) / (2:Int))+(1:Int))) then ∃ y,BsG (qS nm) l y∧(bg3 (3:Nat) l f (AV.str nm) (89:Nat) (qS nm)).m y < (bg3 (3:Nat) l f (AV.str nm) (89:Nat) (qS nm)).m x∧(((bif f then f=true else True)∧l=l)∧nm=nm∧True∧(0:Int)=0∧false=false∧(↑l.length:Int)=(↑l.length:Int)∧IntKind.i64.wrap (IntKind.u64.wrap (x.fst+x.snd) / (2:Int)) +
 (1:Int)=y.fst∧x.snd=y.snd∧True)∧True else False else ∃ y,BsG (qS nm) l y∧(bg3 (3:Nat) l f (AV.str nm) (89:Nat) (qS nm)).m y < (bg3 (3:Nat) l f (AV.str nm) (89:Nat) (qS nm)).m x∧(((bif f then f=true else True)∧l=l)∧nm=nm∧True∧(0:Int)=0∧false=false∧(↑l.length:Int)=(↑l.length:Int)∧x.fst=y.fst∧IntKind.i64.wrap (IntKind.u64.wrap (x.fst+x.snd) / (2:Int))=y.snd∧True)∧True else False else False else bif
 decide (x.fst < (↑l.length:Int)) then bif decide (0≤x.fst∧x.fst < (↑l.length:Int)) then ∃ n s xs,List.take [AV.int .i64 n,.str s,.sl (7:Nat) false xs].length (l.getD x.fst.toNat [])=[AV.int .i64 n,.str s,.sl (7:Nat) false xs]∧True∧x.fst=(↑(stN l nm):Int)∧decide (cmpS s nm=(0:Int))=stH l nm∧True else False else x.fst=(↑(stN l nm):Int)∧false=stH l nm∧True
theorem bsS_P:bsS_T cmpS stN stH:=by
 unfold bsS_T
 intro gl f l nm hp _ _ _
 have hs:=hp.fp.fs
 have bf:cond f (f=true) True:=by cases f <;> trivial
 have hm:=snO_mon hp.fs nm
 refine ⟨⟨(0,(l.length:Int)),⟨by simp,by simp,by simp,fun j hj=>by simp only at hj; omega,fun j hj hj2=>by simp only at hj; omega⟩,by (repeat' (first | exact trivial | exact rfl | assumption | apply And.intro))⟩,?_⟩
 rintro ⟨i,j⟩ hI
 have ⟨i0,ij,j1,_,_⟩:=hI
 simp only at i0 ij j1
 dsimp only
 refine csx (fun hij=>cdI (by omega) ?_) (fun hij=>?_)
 ·have e1:IntKind.u64.wrap (i+j)=i+j:=wrap_eq (by show _∧_; omega)
  have e2:IntKind.i64.wrap ((i+j) / 2)=(i+j) / 2:=wrap_eq (by show _∧_; omega)
  rw [e1,e2]
  obtain ⟨M,hM⟩:∃ M,M=(i+j) / 2:=⟨_,rfl⟩
  rw [← hM]
  have m1:i≤M∧M < j:=by omega
  refine cd1 (by omega) ?_
  obtain ⟨k,nm2,ps,hr,_⟩:=hp.fp.fr M.toNat (by omega)
  have hq:qS nm (l.getD M.toNat [])=cmpS nm2 nm:=by rw [hr]; rfl
  refine ⟨k,nm2,ps,by rw [hr]; rfl,trivial,csx (fun q=>cdI (by omega) ⟨(M+1,j),bsG_l hm hI m1 (by rw [hq]; exact q),by simp only [bg3]; omega,by (repeat' (first | exact trivial | exact rfl | assumption | apply And.intro))⟩) (fun q=>⟨(i,M),bsG_r hm hI m1 (by rw [hq]; exact q),by simp only [bg3]; omega,by (repeat' (first | exact trivial | exact rfl | assumption | apply And.intro))⟩)⟩
 ·have e:i=j:=by omega
  subst e
  have he:=bsG_end hI
  have hx:stN l nm=i.toNat:=by unfold stN; omega
  refine csx (fun hi=>cd1 (by omega) ?_) (fun hi=>⟨by unfold stN; omega,?_,trivial⟩)
  ·obtain ⟨k,nm2,ps,hr,_⟩:=hp.fp.fr i.toNat (by omega)
   refine ⟨k,nm2,ps,by rw [hr]; rfl,trivial,by unfold stN; omega,?_,trivial⟩
   unfold stH fpB
   rw [show fpI (qS nm) l=i.toNat from hx,decide_eq_true (show i.toNat < l.length by omega),hr]; rfl
  ·unfold stH fpB
   rw [show fpI (qS nm) l=i.toNat from hx,decide_eq_false (show ¬ i.toNat < l.length by omega)]; rfl
def bsS_S (cmpS:ByteArray→ByteArray→Int) (stN:LLR→ByteArray→Nat) (stH:LLR→ByteArray→Bool):Prop:=∀ (gl:Glob) (f:Bool) (l:List (List AV)) (nm:ByteArray),SrcS l→fnK Tryz.prog { glob:=gl,spec:=lk [(89,(sc1_s cmpS))],specH:=lk [],shape:=[28,44],slz:=[(28,[7]),(44,[7])],nowf:=true } { nt:=49,drop:=drp [(1,12288),(2,16384),(3,98304),(4,16515072),(5,2130706432),(6,12884901888),(7,17179869184),(8,562915593682944)] } (invs [(3,bg3 3 l f (.str nm) 89 (qS nm))]) 6 Tryz.f88 [.sl 3 f l,.str nm,.fn 89 []] (.tup [.int .i64 (stN l nm:Nat),.bool (stH l nm)])
theorem bsS_e (cmpS:ByteArray→ByteArray→Int) (stN:LLR→ByteArray→Nat) (stH:LLR→ByteArray→Bool):bsS_T cmpS stN stH=bsS_S cmpS stN stH:=by kernel_rfl
theorem bsS_v:bsS_S cmpS stN stH:=Eq.mp (bsS_e ..) (bsS_P)
theorem bsS_ok (gl:Glob):SOK Tryz.prog gl 88 (bsS_s cmpS stN stH):=by
 refine ⟨fok Tryz.func88 (by kernel_rfl) (by kernel_rfl),?_⟩
 intro xs pre r h hp
 unfold bsS_s at h
 split at h
 ·simp only [Option.some.injEq,Prod.mk.injEq] at h
  obtain ⟨h1,h2⟩:=h
  subst h1 h2
  exact fnK_sound tyNil (by exact specOK rfl rfl ⟨(sc1_ok gl),trivial⟩ trivial) (by kernel_rfl) Tryz.func88 rfl (bsS_v gl _ _ _ hp)
 ·cases h
def bsP_s (cmpI:Int→Int→Int) (pdN:LLR→Int→Nat) (pdH:LLR→Int→Bool):Sp
 | [.sl 7 f l,.int .i64 n,.fn 102 []]=>some (SrcD l,.tup [.int .i64 (pdN l n:Nat),.bool (pdH l n)])
 | _=>none
def bsP_T (cmpI:Int→Int→Int) (pdN:LLR→Int→Nat) (pdH:LLR→Int→Bool):Prop :=
  ∀ (gl:Glob) (f:Bool) (l:List (List AV)) (n:Int),SrcD l→True→IR9 n→True→(∃ x,BsG (qP n) l x∧(((bif f then f=true else True)∧l=l)∧n=n∧True∧(0:Int)=0∧false=false∧(↑l.length:Int)=(↑l.length:Int)∧(0:Int)=x.fst∧(↑l.length:Int)=x.snd∧True)∧True)∧∀ (x:Int × Int),BsG (qP n) l x→bif decide (x.fst < x.snd) then bif decide (rng .i64 (x.fst +
 x.snd)) then bif decide (0≤IntKind.i64.wrap (IntKind.u64.wrap (x.fst+x.snd) / (2:Int))∧IntKind.i64.wrap (IntKind.u64.wrap (x.fst+x.snd) / (2:Int)) < (↑l.length:Int)) then ∃ n_1 b n_2 n_3 n_4 n_5 xs,List.take [AV.int .i64 n_1,.bool b,.int .i64 n_2,.int .i64 n_3,.int .i64 n_4,.int .i64 n_5,.sl (2:Nat) false xs].length (l.getD (IntKind.i64.wrap (IntKind.u64.wrap (x.fst+x.snd) /
 (2:Int))).toNat [])=[AV.int .i64 n_1,.bool b,.int .i64 n_2,.int .i64 n_3,.int .i64 n_4,.int .i64 n_5,.sl (2:Nat) false xs]∧True∧bif decide (cmpI n_1 n < (0:Int)) then bif decide (rng .i64 (IntKind.i64.wrap (IntKind.u64.wrap (x.fst+x.snd) / (2:Int))+(1:Int))) then ∃ y,BsG (qP n) l y∧(bg3 (7:Nat) l f (AV.int .i64 n) (102:Nat) (qP n)).m y < (bg3 (7:Nat) l f (AV.int .i64 n) (102:Nat) (qP n)).m
 x∧(((bif f then f=true else True)∧l=l)∧n=n∧True∧(0:Int)=0∧false=false∧(↑l.length:Int)=(↑l.length:Int)∧IntKind.i64.wrap (IntKind.u64.wrap (x.fst+x.snd) / (2:Int))+(1:Int)=y.fst∧x.snd=y.snd∧True)∧True else False else ∃ y,BsG (qP n) l y∧(bg3 (7:Nat) l f (AV.int .i64 n) (102:Nat) (qP n)).m y < (bg3 (7:Nat) l f (AV.int .i64 n) (102:Nat) (qP n)).m x∧(((bif f then f=true else
 True)∧l=l)∧n=n∧True∧(0:Int)=0∧false=false∧(↑l.length:Int)=(↑l.length:Int)∧x.fst=y.fst∧IntKind.i64.wrap (IntKind.u64.wrap (x.fst+x.snd) / (2:Int))=y.snd∧True)∧True else False else False else bif decide (x.fst < (↑l.length:Int)) then bif decide (0≤x.fst∧x.fst < (↑l.length:Int)) then ∃ n_1 b n_2 n_3 n_4 n_5 xs,List.take [AV.int .i64 n_1,.bool b,.int .i64 n_2,.int .i64 n_3,.int .i64 n_4,.int
 .i64 n_5,.sl (2:Nat) false xs].length (l.getD x.fst.toNat [])=[AV.int .i64 n_1,.bool b,.int .i64 n_2,.int .i64 n_3,.int .i64 n_4,.int .i64 n_5,.sl (2:Nat) false xs]∧True∧x.fst=(↑(pdN l n):Int)∧decide (cmpI n_1 n=(0:Int))=pdH l n∧True else False else x.fst=(↑(pdN l n):Int)∧false=pdH l n∧True
theorem bsP_P:bsP_T cmpI pdN pdH:=by
 unfold bsP_T
 intro gl f l n hp _ _ _
 have hs:=hp.fp.fs
 have bf:cond f (f=true) True:=by cases f <;> trivial
 have hm:=asc_mon hp.fs n
 refine ⟨⟨(0,(l.length:Int)),⟨by simp,by simp,by simp,fun j hj=>by simp only at hj; omega,fun j hj hj2=>by simp only at hj; omega⟩,by (repeat' (first | exact trivial | exact rfl | assumption | apply And.intro))⟩,?_⟩
 rintro ⟨i,j⟩ hI
 have ⟨i0,ij,j1,_,_⟩:=hI
 simp only at i0 ij j1
 dsimp only
 refine csx (fun hij=>cdI (by omega) ?_) (fun hij=>?_)
 ·have e1:IntKind.u64.wrap (i+j)=i+j:=wrap_eq (by show _∧_; omega)
  have e2:IntKind.i64.wrap ((i+j) / 2)=(i+j) / 2:=wrap_eq (by show _∧_; omega)
  rw [e1,e2]
  obtain ⟨M,hM⟩:∃ M,M=(i+j) / 2:=⟨_,rfl⟩
  rw [← hM]
  have m1:i≤M∧M < j:=by omega
  refine cd1 (by omega) ?_
  obtain ⟨fr,cl,fa,a,b,c,bs,hr,_⟩:=hp.fp.fr M.toNat (by omega)
  have hq:qP n (l.getD M.toNat [])=cmpI fr n:=by rw [hr]; rfl
  refine ⟨fr,cl,fa,a,b,c,bs,by rw [hr]; rfl,trivial,csx (fun q=>cdI (by omega) ⟨(M+1,j),bsG_l hm hI m1 (by rw [hq]; exact q),by simp only [bg3]; omega,by (repeat' (first | exact trivial | exact rfl | assumption | apply And.intro))⟩) (fun q=>⟨(i,M),bsG_r hm hI m1 (by rw [hq]; exact q),by simp only [bg3]; omega,by (repeat' (first | exact trivial | exact rfl | assumption | apply And.intro))⟩)⟩
 ·have e:i=j:=by omega
  subst e
  have he:=bsG_end hI
  have hx:pdN l n=i.toNat:=by unfold pdN; omega
  refine csx (fun hi=>cd1 (by omega) ?_) (fun hi=>⟨by unfold pdN; omega,?_,trivial⟩)
  ·obtain ⟨fr,cl,fa,a,b,c,bs,hr,_⟩:=hp.fp.fr i.toNat (by omega)
   refine ⟨fr,cl,fa,a,b,c,bs,by rw [hr]; rfl,trivial,by unfold pdN; omega,?_,trivial⟩
   unfold pdH fpB
   rw [show fpI (qP n) l=i.toNat from hx,decide_eq_true (show i.toNat < l.length by omega),hr]; rfl
  ·unfold pdH fpB
   rw [show fpI (qP n) l=i.toNat from hx,decide_eq_false (show ¬ i.toNat < l.length by omega)]; rfl
def bsP_S (cmpI:Int→Int→Int) (pdN:LLR→Int→Nat) (pdH:LLR→Int→Bool):Prop:=∀ (gl:Glob) (f:Bool) (l:List (List AV)) (n:Int),SrcD l→fnK Tryz.prog { glob:=gl,spec:=lk [(102,(pc1_s cmpI))],specH:=lk [],shape:=[28,44],slz:=[(28,[2]),(44,[2])],nowf:=true } { nt:=49,drop:=drp [(1,12288),(2,16384),(3,98304),(4,16515072),(5,2130706432),(6,12884901888),(7,17179869184),(8,562915593682944)] } (invs [(3,bg3 7 l f (.int .i64 n) 102 (qP n))]) 6 Tryz.f101 [.sl 7 f l,.int .i64 n,.fn 102 []] (.tup [.int .i64 (pdN l n:Nat),.bool (pdH l n)])
theorem bsP_e (cmpI:Int→Int→Int) (pdN:LLR→Int→Nat) (pdH:LLR→Int→Bool):bsP_T cmpI pdN pdH=bsP_S cmpI pdN pdH:=by kernel_rfl
theorem bsP_v:bsP_S cmpI pdN pdH:=Eq.mp (bsP_e ..) (bsP_P)
theorem bsP_ok (gl:Glob):SOK Tryz.prog gl 101 (bsP_s cmpI pdN pdH):=by
 refine ⟨fok Tryz.func101 (by kernel_rfl) (by kernel_rfl),?_⟩
 intro xs pre r h hp
 unfold bsP_s at h
 split at h
 ·simp only [Option.some.injEq,Prod.mk.injEq] at h
  obtain ⟨h1,h2⟩:=h
  subst h1 h2
  exact fnK_sound tyNil (by exact specOK rfl rfl ⟨(pc1_ok gl),trivial⟩ trivial) (by kernel_rfl) Tryz.func101 rfl (bsP_v gl _ _ _ hp)
 ·cases h
def gstation_s (stN:LLR→ByteArray→Nat) (stH:LLR→ByteArray→Bool):Sp
 | [.agg [.sl 3 f l],.str nm]=>some (SrcS l,.tup [.int .i64 (stN l nm:Nat),.bool (stH l nm)])
 | _=>none
def gstation_T (stN:LLR→ByteArray→Nat) (stH:LLR→ByteArray→Bool) (cmpS:ByteArray→ByteArray→Int):Prop :=
 ∀ (gl:Glob) (f:Bool) (l:List (List AV)) (nm:ByteArray),SrcS l→True∧True→nm.size.le (9223372036854775807:Nat)→SrcS l∧(↑(stN l nm):Int)=(↑(stN l nm):Int)∧stH l nm=stH l nm∧True
theorem gstation_P:gstation_T stN stH cmpS:=by
 unfold gstation_T
 intro gl f l nm hp _ _
 exact ⟨hp,rfl,rfl,trivial⟩
def gstation_S (stN:LLR→ByteArray→Nat) (stH:LLR→ByteArray→Bool) (cmpS:ByteArray→ByteArray→Int):Prop:=∀ (gl:Glob) (f:Bool) (l:List (List AV)) (nm:ByteArray),SrcS l→fnK Tryz.prog { glob:=gl,spec:=lk [(88,(bsS_s cmpS stN stH))],specH:=lk [],nowf:=true } { nt:=12,drop:=drp [(1,4032)] } (fun _ _=>none) 6 Tryz.f47 [.agg [.sl 3 f l],.str nm] (.tup [.int .i64 (stN l nm:Nat),.bool (stH l nm)])
theorem gstation_e (stN:LLR→ByteArray→Nat) (stH:LLR→ByteArray→Bool) (cmpS:ByteArray→ByteArray→Int):gstation_T stN stH cmpS=gstation_S stN stH cmpS:=by kernel_rfl
theorem gstation_v:gstation_S stN stH cmpS:=Eq.mp (gstation_e ..) (gstation_P)
theorem gstation_ok (gl:Glob):SOK Tryz.prog gl 47 (gstation_s stN stH):=by
 refine ⟨fok Tryz.func47 (by kernel_rfl) (by kernel_rfl),?_⟩
 intro xs pre r h hp
 unfold gstation_s at h
 split at h
 ·simp only [Option.some.injEq,Prod.mk.injEq] at h
  obtain ⟨h1,h2⟩:=h
  subst h1 h2
  exact fnK_sound tyNil (by exact specOK rfl rfl ⟨(bsS_ok gl),trivial⟩ trivial) (by kernel_rfl) Tryz.func47 rfl (gstation_v gl _ _ _ hp)
 ·cases h
def gperiod_s (pdN:LLR→Int→Nat) (pdH:LLR→Int→Bool):Sp
 | [.agg [.int .i64 k,.str nm,.sl 7 f ps],.int .i64 n]=>some (SrcD ps,.tup [.int .i64 (pdN ps n:Nat),.bool (pdH ps n)])
 | _=>none
def gperiod_T (pdN:LLR→Int→Nat) (pdH:LLR→Int→Bool) (cmpI:Int→Int→Int):Prop :=
 ∀ (gl:Glob) (f:Bool) (k:Int) (nm:ByteArray) (ps:List (List AV)) (n:Int),SrcD ps→(IR9 k)∧nm.size.le (9223372036854775807:Nat)∧True∧True→IR9 n→SrcD ps∧(↑(pdN ps n):Int)=(↑(pdN ps n):Int)∧pdH ps n=pdH ps n∧True
theorem gperiod_P:gperiod_T pdN pdH cmpI:=by
 unfold gperiod_T
 intro gl f k nm ps n hp _ _
 exact ⟨hp,rfl,rfl,trivial⟩
def gperiod_S (pdN:LLR→Int→Nat) (pdH:LLR→Int→Bool) (cmpI:Int→Int→Int):Prop:=∀ (gl:Glob) (f:Bool) (k:Int) (nm:ByteArray) (ps:List (List AV)) (n:Int),SrcD ps→fnK Tryz.prog { glob:=gl,spec:=lk [(101,(bsP_s cmpI pdN pdH))],specH:=lk [],nowf:=true } { nt:=12,drop:=drp [(1,4032)] } (fun _ _=>none) 6 Tryz.f61 [.agg [.int .i64 k,.str nm,.sl 7 f ps],.int .i64 n] (.tup [.int .i64 (pdN ps n:Nat),.bool (pdH ps n)])
theorem gperiod_e (pdN:LLR→Int→Nat) (pdH:LLR→Int→Bool) (cmpI:Int→Int→Int):gperiod_T pdN pdH cmpI=gperiod_S pdN pdH cmpI:=by kernel_rfl
theorem gperiod_v:gperiod_S pdN pdH cmpI:=Eq.mp (gperiod_e ..) (gperiod_P)
theorem gperiod_ok (gl:Glob):SOK Tryz.prog gl 61 (gperiod_s pdN pdH):=by
 refine ⟨fok Tryz.func61 (by kernel_rfl) (by kernel_rfl),?_⟩
 intro xs pre r h hp
 unfold gperiod_s at h
 split at h
 ·simp only [Option.some.injEq,Prod.mk.injEq] at h
  obtain ⟨h1,h2⟩:=h
  subst h1 h2
  exact fnK_sound tyNil (by exact specOK rfl rfl ⟨(bsP_ok gl),trivial⟩ trivial) (by kernel_rfl) Tryz.func61 rfl (gperiod_v gl _ _ _ _ _ hp)
 ·cases h
def atK (ps:LLR) (t:Int):Int:=if pdH ps t then (pdN ps t:Int) else (pdN ps t:Int) - 1
def atB (ps:LLR) (t:Int):Bool:=decide (0≤atK ps t)
def pzR:List AV:=pdA 0 false 0 0 0 0 []
def atR (ps:LLR) (t:Int):List AV:=if atB ps t then ps.getD (atK ps t).toNat [] else pzR
def pI (i:Nat) (r:List AV):Int:=cellI ((r.drop i).take 1)
def pC (r:List AV):Bool:=match r with
 | _::.bool b::_=>b
 | _=>false
def pB (r:List AV):LLR:=match r with
 | [_,_,_,_,_,_,.sl _ _ bs]=>bs
 | _=>[]
def cloR_s:Sp
 | [.sl 2 f xs]=>some (xs.length≤1000,.sl 2 false xs)
 | _=>none
def cloR_T:Prop :=
 ∀ (gl:Glob) (f:Bool) (xs:List (List AV)),xs.length≤(1000:Nat)→True→(xs=[]→xs=[])∧bif decide ((0:Nat)=0∧(0:Nat)+xs.length≤(9223372036854775807:Nat)∧((0:Nat)+xs.length)*(16:Nat)≤(140737488355328:Nat)) then bif decide (([]++xs).length=([]++xs).length) then True∧[]++xs=xs else False else False
theorem cloR_P:cloR_T:=by
 unfold cloR_T
 intro gl f xs hl _
 exact ⟨id,cd1 ⟨rfl,by omega,by omega⟩ (cd1 rfl ⟨trivial,rfl⟩)⟩
def cloR_S:Prop:=∀ (gl:Glob) (f:Bool) (xs:List (List AV)),xs.length≤1000→fnK Tryz.prog { glob:=gl,spec:=lk [],specH:=lk [],nowf:=true,nq:=true } { nt:=8,drop:=drp [(1,8),(3,224)] } (fun _ _=>none) 6 Tryz.f59 [.sl 2 f xs] (.sl 2 false xs)
theorem cloR_e:cloR_T=cloR_S:=by kernel_rfl
theorem cloR_v:cloR_S:=Eq.mp (cloR_e ..) (cloR_P)
theorem cloR_ok (gl:Glob):SOK Tryz.prog gl 59 cloR_s:=by
 refine ⟨fok Tryz.func59 (by kernel_rfl) (by kernel_rfl),?_⟩
 intro xs pre r h hp
 unfold cloR_s at h
 split at h
 ·simp only [Option.some.injEq,Prod.mk.injEq] at h
  obtain ⟨h1,h2⟩:=h
  subst h1 h2
  exact fnK_sound tyNil (by exact specOK rfl rfl trivial trivial) (by kernel_rfl) Tryz.func59 rfl (cloR_v gl _ _ hp)
 ·cases h
def gat_s (pdN:LLR→Int→Nat) (pdH:LLR→Int→Bool) (pI:Nat→List AV→Int) (pC:List AV→Bool) (pB:List AV→LLR) (atR:LLR→Int→List AV) (atB:LLR→Int→Bool):Sp
 | [.agg [.int .i64 k,.str nm,.sl 7 f ps],.int .i64 t]=>some (SrcD ps,.tup [.agg [.int .i64 (pI 0 (atR ps t)),.bool (pC (atR ps t)),.int .i64 (pI 2 (atR ps t)),.int .i64 (pI 3 (atR ps t)),.int .i64 (pI 4 (atR ps t)),.int .i64 (pI 5 (atR ps t)),.sl 2 false (pB (atR ps t))],.bool (atB ps t)])
 | _=>none
def gat_T (pdN:LLR→Int→Nat) (pdH:LLR→Int→Bool) (pI:Nat→List AV→Int) (pC:List AV→Bool) (pB:List AV→LLR) (atR:LLR→Int→List AV) (atB:LLR→Int→Bool):Prop :=
  ∀ (gl:Glob) (f:Bool) (k:Int) (nm:ByteArray) (ps:List (List AV)) (t:Int),SrcD ps→(IR9 k)∧nm.size.le (9223372036854775807:Nat)∧True∧True→IR9 t→SrcD ps∧bif !pdH ps t then bif decide (rng .i64 ((↑(pdN ps t):Int) - (1:Int))) then bif decide ((↑(pdN ps t):Int) - (1:Int) < (0:Int)) then
 ((0:Int)=pI (0:Nat) (atR ps t)∧false=pC (atR ps t)∧(0:Int)=pI (2:Nat) (atR ps t)∧(0:Int)=pI (3:Nat) (atR ps t)∧(0:Int)=pI (4:Nat) (atR ps t)∧(0:Int)=pI (5:Nat) (atR ps t)∧pB (atR ps t)=[]∧True)∧false=atB ps t∧True else bif decide ((0:Int)≤(↑(pdN ps t):Int) - (1:Int)∧(↑(pdN ps t):Int) - (1:Int) < (↑ps.length:Int)) then ∃ n b n_1 n_2 n_3 n_4 xs,List.take [AV.int .i64 n,.bool b,.int .i64 n_1,.int
 .i64 n_2,.int .i64 n_3,.int .i64 n_4,.sl (2:Nat) false xs].length (ps.getD ((↑(pdN ps t):Int) - (1:Int)).toNat [])=[AV.int .i64 n,.bool b,.int .i64 n_1,.int .i64 n_2,.int .i64 n_3,.int .i64 n_4,.sl (2:Nat) false xs]∧xs.length≤(1000:Nat)∧(n=pI (0:Nat) (atR ps t)∧b=pC (atR ps t)∧n_1=pI (2:Nat) (atR ps t)∧n_2=pI (3:Nat) (atR ps t)∧n_3=pI (4:Nat) (atR ps t)∧n_4=pI (5:Nat) (atR ps t)∧(True∧xs=pB (atR
 ps t))∧True)∧true=atB ps t∧True else False else False else bif decide ((0:Int)≤(↑(pdN ps t):Int)∧(↑(pdN ps t):Int) < (↑ps.length:Int)) then ∃ n b n_1 n_2 n_3 n_4 xs,List.take [AV.int .i64 n,.bool b,.int .i64 n_1,.int .i64 n_2,.int .i64 n_3,.int .i64 n_4,.sl (2:Nat) false xs].length (ps.getD (↑(pdN ps t):Int).toNat [])=[AV.int .i64 n,.bool b,.int .i64 n_1,.int .i64 n_2,.int .i64 n_3,.int .i64
 n_4,.sl (2:Nat) false xs]∧xs.length≤(1000:Nat)∧(n=pI (0:Nat) (atR ps t)∧b=pC (atR ps t)∧n_1=pI (2:Nat) (atR ps t)∧n_2=pI (3:Nat) (atR ps t)∧n_3=pI (4:Nat) (atR ps t)∧n_4=pI (5:Nat) (atR ps t)∧(True∧xs=pB (atR ps t))∧True)∧true=atB ps t∧True else False
theorem gat_P:gat_T pdN pdH pI pC pB atR atB:=by
 unfold gat_T
 intro gl f k nm ps t hp _ _
 have hs:=hp.fp.fs
 have le:=fp_le (qP t) ps
 have le:pdN ps t≤ps.length:=le
 refine ⟨hp,csplit (fun q=>cdI (by omega) (csx (fun q2=>?_) (fun q2=>cd1 (by omega) ?_))) (fun q=>?_)⟩
 ·have q:pdH ps t=false:=by simpa using q
  have hK:atK ps t=(pdN ps t:Int) - 1:=by unfold atK; rw [if_neg (by rw [q]; decide)]
  have hB:atB ps t=false:=by unfold atB; rw [hK]; exact decide_eq_false (by omega)
  have hR:atR ps t=pzR:=by unfold atR; rw [if_neg (by rw [hB]; decide)]
  rw [hR,hB]
  exact ⟨⟨rfl,rfl,rfl,rfl,rfl,rfl,rfl,trivial⟩,rfl,trivial⟩
 ·have q:pdH ps t=false:=by simpa using q
  have hK:atK ps t=(pdN ps t:Int) - 1:=by unfold atK; rw [if_neg (by rw [q]; decide)]
  have hB:atB ps t=true:=by unfold atB; rw [hK]; exact decide_eq_true (by omega)
  obtain ⟨fr,cl,fa,a,b,c,bs,hr,hb,hl⟩:=hp.fp.fr ((pdN ps t:Int) - 1).toNat (by omega)
  have hR:atR ps t=pdA fr cl fa a b c bs:=by unfold atR; rw [if_pos hB,hK,hr]
  refine ⟨fr,cl,fa,a,b,c,bs,by rw [hr]; rfl,hl,?_⟩
  rw [hR,hB]
  exact ⟨⟨rfl,rfl,rfl,rfl,rfl,rfl,⟨trivial,rfl⟩,trivial⟩,rfl,trivial⟩
 ·have q:pdH ps t=true:=by simpa using q
  have hlt:pdN ps t < ps.length:=by
   have:=q
   unfold pdH fpB at this
   rw [Bool.and_eq_true] at this
   exact of_decide_eq_true this.1
  have hK:atK ps t=(pdN ps t:Int):=by unfold atK; rw [if_pos q]
  have hB:atB ps t=true:=by unfold atB; rw [hK]; exact decide_eq_true (by omega)
  refine cd1 (by omega) ?_
  obtain ⟨fr,cl,fa,a,b,c,bs,hr,hb,hl⟩:=hp.fp.fr ((pdN ps t:Int)).toNat (by omega)
  have hR:atR ps t=pdA fr cl fa a b c bs:=by unfold atR; rw [if_pos hB,hK,hr]
  refine ⟨fr,cl,fa,a,b,c,bs,by rw [hr]; rfl,hl,?_⟩
  rw [hR,hB]
  exact ⟨⟨rfl,rfl,rfl,rfl,rfl,rfl,⟨trivial,rfl⟩,trivial⟩,rfl,trivial⟩
def gat_S (pdN:LLR→Int→Nat) (pdH:LLR→Int→Bool) (pI:Nat→List AV→Int) (pC:List AV→Bool) (pB:List AV→LLR) (atR:LLR→Int→List AV) (atB:LLR→Int→Bool):Prop:=∀ (gl:Glob) (f:Bool) (k:Int) (nm:ByteArray) (ps:List (List AV)) (t:Int),SrcD ps→fnK Tryz.prog { glob:=gl,spec:=lk [(61,(gperiod_s pdN pdH)),(59,cloR_s)],specH:=lk [],shape:=[26],slz:=[(26,[2])],nowf:=true } { nt:=32,drop:=drp [(1,32256),(2,32768),(3,393216),(4,524288),(5,2097152),(6,130023424),(7,2013265920),(8,2147483648)] } (fun _ _=>none) 6 Tryz.f48 [.agg [.int .i64 k,.str nm,.sl 7 f ps],.int .i64 t] (.tup [.agg [.int .i64 (pI 0 (atR ps t)),.bool (pC (atR ps t)),.int .i64 (pI 2 (atR ps t)),.int .i64 (pI 3 (atR ps t)),.int .i64 (pI 4 (atR ps t)),.int .i64 (pI 5 (atR ps t)),.sl 2 false (pB (atR ps t))],.bool (atB ps t)])
theorem gat_e (pdN:LLR→Int→Nat) (pdH:LLR→Int→Bool) (pI:Nat→List AV→Int) (pC:List AV→Bool) (pB:List AV→LLR) (atR:LLR→Int→List AV) (atB:LLR→Int→Bool):gat_T pdN pdH pI pC pB atR atB=gat_S pdN pdH pI pC pB atR atB:=by kernel_rfl
theorem gat_v:gat_S pdN pdH pI pC pB atR atB:=Eq.mp (gat_e ..) (gat_P)
theorem gat_ok (gl:Glob):SOK Tryz.prog gl 48 (gat_s pdN pdH pI pC pB atR atB):=by
 refine ⟨fok Tryz.func48 (by kernel_rfl) (by kernel_rfl),?_⟩
 intro xs pre r h hp
 unfold gat_s at h
 split at h
 ·simp only [Option.some.injEq,Prod.mk.injEq] at h
  obtain ⟨h1,h2⟩:=h
  subst h1 h2
  exact fnK_sound tyNil (by exact specOK rfl rfl ⟨(gperiod_ok gl),(cloR_ok gl),trivial⟩ trivial) (by kernel_rfl) Tryz.func48 rfl (gat_v gl _ _ _ _ _ hp)
 ·cases h
structure UbP (rd bs:LLR) (x:Int × LLR):Prop where
 flo:0≤x.1
 fhi:x.1≤rd.length
 fe:x.2=unb (rd.take x.1.toNat) bs
def ub3 (rd bs:LLR) (f g:Bool):LInv:=⟨Int × LLR,fun x=>⟨[(1,.sl 2 g bs),(5,.rw 1500 2 x.2.length),(10,.sl 2 f rd),(11,.int .i64 rd.length),(12,.int .i64 x.1)],[(1500,.row 76 2 x.2)]⟩,UbP rd bs,fun x=>(rd.length - x.1).toNat,none⟩
def gunb_s (fdV:LLR→Int→Int) (fdB:LLR→Int→Bool) (unb:LLR→LLR→LLR) (vdE:LLR→Int):Sp
 | [.sl 2 f rd,.sl 2 g bs]=>some (RdsP rd∧RdsP bs∧rd.length≤1000,.sl 2 false (unb rd bs))
 | _=>none
def gunb_T (fdV:LLR→Int→Int) (fdB:LLR→Int→Bool) (unb:LLR→LLR→LLR) (vdE:LLR→Int):Prop :=
  ∀ (f g:Bool) (rd bs:List (List AV)),RdsP rd∧RdsP bs∧rd.length≤(1000:Nat)→True→True→(∃ x,UbP rd bs x∧(((bif g then g=true else True)∧bs=bs)∧(0:Nat)=List.length x.snd∧((bif f then f=true else True)∧rd=rd)∧(↑rd.length:Int)=(↑rd.length:Int)∧(0:Int)=x.fst∧True)∧[]=x.snd∧True)∧∀ (x:Int × LLR),UbP rd bs x→bif decide (x.fst < (↑rd.length:Int)) then bif decide (0≤x.fst∧x.fst <
 (↑rd.length:Int)) then ∃ n n_1,List.take [AV.int .i64 n,.int .i64 n_1].length (rd.getD x.fst.toNat [])=[AV.int .i64 n,.int .i64 n_1]∧RdsP bs∧RdsP [[AV.int .i64 n,.int .i64 (IntKind.i64.wrap (n_1 - fdV bs n))]]∧bif decide (vdE [[AV.int .i64 n,.int .i64 (IntKind.i64.wrap (n_1 - fdV bs n))]]=(0:Int)) then bif decide (List.length x.snd=List.length x.snd∧List.length x.snd+[[AV.int .i64 n,.int .i64
 (IntKind.i64.wrap (n_1 - fdV bs n))]].length≤(9223372036854775807:Nat)∧(List.length x.snd+[[AV.int .i64 n,.int .i64 (IntKind.i64.wrap (n_1 - fdV bs n))]].length)*(16:Nat)≤(140737488355328:Nat)) then ∃ y,UbP rd bs y∧(ub3 rd bs f g).m y < (ub3 rd bs f g).m x∧(((bif g then g=true else True)∧bs=bs)∧(x.snd++[[AV.int .i64 n,.int .i64 (IntKind.i64.wrap (n_1 - fdV bs n))]]).length=List.length
 y.snd∧((bif f then f=true else True)∧rd=rd)∧(↑rd.length:Int)=(↑rd.length:Int)∧IntKind.i64.wrap (x.fst+(1:Int))=y.fst∧True)∧x.snd++[[AV.int .i64 n,.int .i64 (IntKind.i64.wrap (n_1 - fdV bs n))]]=y.snd∧True else False else ∃ y,UbP rd bs y∧(ub3 rd bs f g).m y < (ub3 rd bs f g).m x∧(((bif g then g=true else True)∧bs=bs)∧List.length x.snd=List.length y.snd∧((bif f then f=true else
 True)∧rd=rd)∧(↑rd.length:Int)=(↑rd.length:Int)∧IntKind.i64.wrap (x.fst+(1:Int))=y.fst∧True)∧x.snd=y.snd∧True else False else bif decide (List.length x.snd=List.length x.snd) then True∧x.snd=unb rd bs else False
theorem gunb_P:gunb_T fdV fdB unb vdE:=by
 unfold gunb_T
 intro f g rd bs ⟨hr,hb,hl⟩ _ _
 have bf:cond f (f=true) True:=by cases f <;> trivial
 have bg:cond g (g=true) True:=by cases g <;> trivial
 refine ⟨⟨(0,[]),⟨by simp,by simp,by simp [unb]⟩,by (repeat' (first | exact trivial | exact rfl | assumption | apply And.intro))⟩,?_⟩
 rintro ⟨i,out⟩ ⟨i0,i1,e⟩
 simp only at i0 i1 e
 dsimp only
 have w1:i < rd.length→IntKind.i64.wrap (i+1)=i+1:=fun h=>wrap_eq (by show _∧_; omega)
 have ol:out.length≤1000:=by
  rw [e]
  exact Nat.le_trans (unb_len _ _) (Nat.le_trans (by rw [List.length_take]; omega) hl)
 refine csx (fun hi=>cd1 (by omega) ?_) (fun hi=>cd1 rfl ⟨trivial,by rw [e,List.take_of_length_le (by omega)]⟩)
 obtain ⟨n,v,hn,r1,r2⟩:=hr.row i.toNat (by omega)
 have ht:unb (rd.take (i.toNat+1)) bs=if ck n (IntKind.i64.wrap (v - fdV bs n))=0 then out++[[.int .i64 n,.int .i64 (IntKind.i64.wrap (v - fdV bs n))]] else out:=by
  have:=unb_take (bs:=bs) (show i.toNat < rd.length by omega)
  rw [hn,← e] at this
  exact this
 have hz:vdE [[.int .i64 n,.int .i64 (IntKind.i64.wrap (v - fdV bs n))]]=0↔ck n (IntKind.i64.wrap (v - fdV bs n))=0:=by
  rw [vd_zero]
  exact ⟨fun h=>h.1 _ (List.mem_singleton.2 rfl),fun h=>⟨fun r hr=>by rw [List.mem_singleton.1 hr]; exact h,List.pairwise_singleton _ _⟩⟩
 rw [w1 hi]
 refine ⟨n,v,by rw [hn]; rfl,hb,rds_add rdsP_nil r1 (wrap_rng _ _) (by simp),csx (fun q=>cd1 ⟨rfl,by simp; omega,by simp; omega⟩ ⟨(i+1,out++[[.int .i64 n,.int .i64 (IntKind.i64.wrap (v - fdV bs n))]]),⟨by simp only; omega,by simp only; omega,?_⟩,by simp only [ub3]; omega,by (repeat' (first | exact trivial | exact rfl | assumption | apply And.intro))⟩) (fun q=>⟨(i+1,out),⟨by simp only; omega,by simp only; omega,?_⟩,by simp only [ub3]; omega,by (repeat' (first | exact trivial | exact rfl | assumption | apply And.intro))⟩)⟩
 ·simp only
  rw [show (i+1).toNat=i.toNat+1 by omega,ht,if_pos (hz.1 q)]
 ·simp only
  rw [show (i+1).toNat=i.toNat+1 by omega,ht,if_neg (fun z=>q (hz.2 z))]
def gunb_S (fdV:LLR→Int→Int) (fdB:LLR→Int→Bool) (unb:LLR→LLR→LLR) (vdE:LLR→Int):Prop:=∀ (f g:Bool) (rd bs:List (List AV)),RdsP rd∧RdsP bs∧rd.length≤1000→fnK Tryz.prog { glob:=glb,spec:=lk [(92,(efind_s fdV fdB)),(46,(evalid_s vdE))],specH:=lk [],shape:=[15],nowf:=true,wrap:=true } { nt:=38,drop:=drp [(4,49152),(5,8323072),(6,260046848),(7,1879048192),(8,64424509440),(9,68719476736),(10,137438953472)],emp:=fun id=>cond (Nat.beq id 2) [(5,1500,76,2)] [] } (invs [(3,ub3 rd bs f g)]) 6 Tryz.f50 [.sl 2 f rd,.sl 2 g bs] (.sl 2 false (unb rd bs))
theorem gunb_e (fdV:LLR→Int→Int) (fdB:LLR→Int→Bool) (unb:LLR→LLR→LLR) (vdE:LLR→Int):gunb_T fdV fdB unb vdE=gunb_S fdV fdB unb vdE:=by kernel_rfl
theorem gunb_v:gunb_S fdV fdB unb vdE:=Eq.mp (gunb_e ..) (gunb_P)
theorem gunb_ok:SOK Tryz.prog glb 50 (gunb_s fdV fdB unb vdE):=by
 refine ⟨fok Tryz.func50 (by kernel_rfl) (by kernel_rfl),?_⟩
 intro xs pre r h hp
 unfold gunb_s at h
 split at h
 ·simp only [Option.some.injEq,Prod.mk.injEq] at h
  obtain ⟨h1,h2⟩:=h
  subst h1 h2
  exact fnK_sound tyNil (by exact specOK rfl rfl ⟨(efind_ok glb),(evalid_ok),trivial⟩ trivial) (by kernel_rfl) Tryz.func50 rfl (gunb_v  _ _ _ _ hp)
 ·cases h
def apI (l:LLR) (n:ByteArray) (t:Int):Bool:=stH l n&&atB (sPs (l.getD (stN l n) [])) t
def apP (l:LLR) (n:ByteArray) (t:Int):List AV:=if stH l n then atR (sPs (l.getD (stN l n) [])) t else pzR
def atE (l:LLR) (n:ByteArray) (t:Int):Int:=if rgV l≠0 then rgV l else if apI l n t then 0 else 6
def atZ (l:LLR) (n:ByteArray) (t:Int):List AV:=if atE l n t=0 then apP l n t else pzR
structure RgZ (l:LLR):Prop where
 fp:StsP l
 fs:snO l=true
 fa:∀ i,i < l.length→ascB (sPs (l.getD i []))=true
theorem rg_zero {l:LLR} (hp:StsP l) (h:rgV l=0):RgZ l:=by
 unfold rgV at h
 repeat' split at h
 all_goals first
  | (exact absurd h (by decide))
  | skip
 next _ _ _ _ h5 hs =>
  refine ⟨hp,hs,fun i hi=>?_⟩
  have h5:l.any p5R=false:=by simpa using h5
  have:=List.any_eq_false.1 h5 (l.getD i []) (by rw [gD_lt hi]; exact List.getElem_mem _)
  unfold p5R at this
  simpa using this
theorem RgZ.src {l:LLR} (h:RgZ l):SrcS l:=⟨h.fp,h.fs⟩
theorem stH_lt {l:LLR} {n:ByteArray} (h:stH l n=true):stN l n < l.length:=by
 unfold stH fpB at h
 rw [Bool.and_eq_true] at h
 exact of_decide_eq_true h.1
def gAt_s (rgV:LLR→Int) (stN:LLR→ByteArray→Nat) (stH:LLR→ByteArray→Bool) (pI:Nat→List AV→Int) (pC:List AV→Bool) (pB:List AV→LLR) (atR:LLR→Int→List AV) (atB:LLR→Int→Bool) (atZ:LLR→ByteArray→Int→List AV) (atE:LLR→ByteArray→Int→Int):Sp
 | [.agg [.sl 3 g l],.str n,.int .i64 t]=>some (StsP l,.tup [.agg [.int .i64 (pI 0 (atZ l n t)),.bool (pC (atZ l n t)),.int .i64 (pI 2 (atZ l n t)),.int .i64 (pI 3 (atZ l n t)),.int .i64 (pI 4 (atZ l n t)),.int .i64 (pI 5 (atZ l n t)),.sl 2 false (pB (atZ l n t))],.int .i64 (atE l n t)])
 | _=>none
def gAt_T (rgV:LLR→Int) (stN:LLR→ByteArray→Nat) (stH:LLR→ByteArray→Bool) (pI:Nat→List AV→Int) (pC:List AV→Bool) (pB:List AV→LLR) (atR:LLR→Int→List AV) (atB:LLR→Int→Bool) (atZ:LLR→ByteArray→Int→List AV) (atE:LLR→ByteArray→Int→Int) (p1R:List AV→Bool) (p2R:List AV→Bool) (p3R:List AV→Bool) (p4R:List AV→Bool) (p5R:List AV→Bool) (pdN:LLR→Int→Nat) (pdH:LLR→Int→Bool):Prop :=
  ∀ (g:Bool) (l:List (List AV)) (n:ByteArray) (t:Int),StsP l→True∧True→n.size.le (9223372036854775807:Nat)→IR9 t→StsP l∧bif decide ¬rgV l=(0:Int) then ((0:Int)=pI (0:Nat) (atZ l n t)∧false=pC (atZ l n t)∧(0:Int)=pI (2:Nat) (atZ l n t)∧(0:Int)=pI (3:Nat) (atZ l n t)∧(0:Int)=pI (4:Nat) (atZ l n t)∧(0:Int)=pI (5:Nat) (atZ l n t)∧pB (atZ l n
 t)=[]∧True)∧rgV l=atE l n t∧True else SrcS l∧bif !stH l n then ((0:Int)=pI (0:Nat) (atZ l n t)∧false=pC (atZ l n t)∧(0:Int)=pI (2:Nat) (atZ l n t)∧(0:Int)=pI (3:Nat) (atZ l n t)∧(0:Int)=pI (4:Nat) (atZ l n t)∧(0:Int)=pI (5:Nat) (atZ l n t)∧pB (atZ l n t)=[]∧True)∧(6:Int)=atE l n t∧True else bif decide ((0:Int)≤(↑(stN l n):Int)∧(↑(stN l n):Int) < (↑l.length:Int)) then ∃ n_1 s xs,List.take [AV.int
 .i64 n_1,.str s,.sl (7:Nat) false xs].length (l.getD (↑(stN l n):Int).toNat [])=[AV.int .i64 n_1,.str s,.sl (7:Nat) false xs]∧SrcD xs∧bif !atB xs t then ((0:Int)=pI (0:Nat) (atZ l n t)∧false=pC (atZ l n t)∧(0:Int)=pI (2:Nat) (atZ l n t)∧(0:Int)=pI (3:Nat) (atZ l n t)∧(0:Int)=pI (4:Nat) (atZ l n t)∧(0:Int)=pI (5:Nat) (atZ l n t)∧pB (atZ l n t)=[]∧True)∧(6:Int)=atE l n t∧True else (pI (0:Nat) (atR xs
 t)=pI (0:Nat) (atZ l n t)∧pC (atR xs t)=pC (atZ l n t)∧pI (2:Nat) (atR xs t)=pI (2:Nat) (atZ l n t)∧pI (3:Nat) (atR xs t)=pI (3:Nat) (atZ l n t)∧pI (4:Nat) (atR xs t)=pI (4:Nat) (atZ l n t)∧pI (5:Nat) (atR xs t)=pI (5:Nat) (atZ l n t)∧(True∧pB (atR xs t)=pB (atZ l n t))∧True)∧(0:Int)=atE l n t∧True else False
theorem gAt_P:gAt_T rgV stN stH pI pC pB atR atB atZ atE p1R p2R p3R p4R p5R pdN pdH:=by
 unfold gAt_T
 intro g l n t hp _ _ _
 refine ⟨hp,csx (fun q=>?_) (fun q=>?_)⟩
 ·have hE:atE l n t=rgV l:=by unfold atE; rw [if_pos q]
  have hZ:atZ l n t=pzR:=by unfold atZ; rw [hE,if_neg q]
  rw [hZ,hE]
  exact ⟨⟨rfl,rfl,rfl,rfl,rfl,rfl,rfl,trivial⟩,rfl,trivial⟩
 have hz:=rg_zero hp (Decidable.not_not.1 q)
 have hE:atE l n t=if apI l n t then 0 else 6:=by unfold atE; rw [if_neg q]
 refine ⟨hz.src,csplit (fun q4=>?_) (fun q4=>?_)⟩
 ·have q4:stH l n=false:=by simpa using q4
  have hI:apI l n t=false:=by unfold apI; rw [q4]; rfl
  rw [hI] at hE
  have hE:atE l n t=6:=hE
  have hZ:atZ l n t=pzR:=by unfold atZ; rw [hE]; rfl
  rw [hZ,hE]
  exact ⟨⟨rfl,rfl,rfl,rfl,rfl,rfl,rfl,trivial⟩,rfl,trivial⟩
 ·have q4:stH l n=true:=by simpa using q4
  have hlt:=stH_lt q4
  refine cd1 (by omega) ?_
  obtain ⟨k2,nm2,ps,hrow,hps⟩:=hp.fr ((stN l n:Int)).toNat (by omega)
  have hP:sPs (l.getD (stN l n) [])=ps:=by rw [Int.toNat_natCast] at hrow; rw [hrow]; rfl
  have hsrc:SrcD ps:=⟨hps,by rw [← hP]; exact hz.fa _ hlt⟩
  have hI:apI l n t=atB ps t:=by unfold apI; rw [q4,hP]; rfl
  have hA:apP l n t=atR ps t:=by unfold apP; rw [if_pos q4,hP]
  rw [hI] at hE
  refine ⟨k2,nm2,ps,by rw [hrow]; rfl,hsrc,csplit (fun w=>?_) (fun w=>?_)⟩
  ·have w:atB ps t=false:=by simpa using w
   rw [w] at hE
   have hE:atE l n t=6:=hE
   have hZ:atZ l n t=pzR:=by unfold atZ; rw [hE]; rfl
   rw [hZ,hE]
   exact ⟨⟨rfl,rfl,rfl,rfl,rfl,rfl,rfl,trivial⟩,rfl,trivial⟩
  ·have w:atB ps t=true:=by simpa using w
   rw [w] at hE
   have hE:atE l n t=0:=hE
   have hZ:atZ l n t=atR ps t:=by unfold atZ; rw [hE,hA]; rfl
   rw [hZ,hE]
   exact ⟨⟨rfl,rfl,rfl,rfl,rfl,rfl,⟨trivial,rfl⟩,trivial⟩,rfl,trivial⟩
def gAt_S (rgV:LLR→Int) (stN:LLR→ByteArray→Nat) (stH:LLR→ByteArray→Bool) (pI:Nat→List AV→Int) (pC:List AV→Bool) (pB:List AV→LLR) (atR:LLR→Int→List AV) (atB:LLR→Int→Bool) (atZ:LLR→ByteArray→Int→List AV) (atE:LLR→ByteArray→Int→Int) (p1R:List AV→Bool) (p2R:List AV→Bool) (p3R:List AV→Bool) (p4R:List AV→Bool) (p5R:List AV→Bool) (pdN:LLR→Int→Nat) (pdH:LLR→Int→Bool):Prop:=∀ (g:Bool) (l:List (List AV)) (n:ByteArray) (t:Int),StsP l→fnK Tryz.prog { glob:=glb,spec:=lk [(28,(gvalidR_s rgV p1R p2R p3R p4R p5R)),(47,(gstation_s stN stH)),(48,(gat_s pdN pdH pI pC pB atR atB))],specH:=lk [],shape:=[32],slz:=[(32,[7])],nowf:=true } { nt:=41,drop:=drp [(1,12288),(2,16384),(3,196608),(4,16515072),(5,16777216),(6,67108864),(7,137304735744),(8,137438953472),(9,549755813888),(10,1099511627776)] } (fun _ _=>none) 6 Tryz.f19 [.agg [.sl 3 g l],.str n,.int .i64 t] (.tup [.agg [.int .i64 (pI 0 (atZ l n t)),.bool (pC (atZ l n t)),.int .i64 (pI 2 (atZ l n t)),.int .i64 (pI 3 (atZ l n t)),.int .i64 (pI 4 (atZ l n t)),.int .i64 (pI 5 (atZ l n t)),.sl 2 false (pB (atZ l n t))],.int .i64 (atE l n t)])
theorem gAt_e (rgV:LLR→Int) (stN:LLR→ByteArray→Nat) (stH:LLR→ByteArray→Bool) (pI:Nat→List AV→Int) (pC:List AV→Bool) (pB:List AV→LLR) (atR:LLR→Int→List AV) (atB:LLR→Int→Bool) (atZ:LLR→ByteArray→Int→List AV) (atE:LLR→ByteArray→Int→Int) (p1R:List AV→Bool) (p2R:List AV→Bool) (p3R:List AV→Bool) (p4R:List AV→Bool) (p5R:List AV→Bool) (pdN:LLR→Int→Nat) (pdH:LLR→Int→Bool):gAt_T rgV stN stH pI pC pB atR atB atZ atE p1R p2R p3R p4R p5R pdN pdH=gAt_S rgV stN stH pI pC pB atR atB atZ atE p1R p2R p3R p4R p5R pdN pdH:=by kernel_rfl
theorem gAt_v:gAt_S rgV stN stH pI pC pB atR atB atZ atE p1R p2R p3R p4R p5R pdN pdH:=Eq.mp (gAt_e ..) (gAt_P)
theorem gAt_ok:SOK Tryz.prog glb 19 (gAt_s rgV stN stH pI pC pB atR atB atZ atE):=by
 refine ⟨fok Tryz.func19 (by kernel_rfl) (by kernel_rfl),?_⟩
 intro xs pre r h hp
 unfold gAt_s at h
 split at h
 ·simp only [Option.some.injEq,Prod.mk.injEq] at h
  obtain ⟨h1,h2⟩:=h
  subst h1 h2
  exact fnK_sound tyNil (by exact specOK rfl rfl ⟨(gvalidR_ok),(gstation_ok glb),(gat_ok glb),trivial⟩ trivial) (by kernel_rfl) Tryz.func19 rfl (gAt_v  _ _ _ _ hp)
 ·cases h
def zI (e x:Int):Int:=if e=0 then x else 0
def zN (e:Int) (s:ByteArray):ByteArray:=if e=0 then s else ⟨#[]⟩
def zS (e:Int) (l:LLR):LLR:=if e=0 then l else []
def apE (l:LLR) (k:Int) (n:ByteArray) (t f a b c:Int) (rd:LLR):Int :=
 if rgV l≠0 then rgV l else if exK k=false then 4 else if vdE rd≠0 then vdE rd else if k=1∧apI l n t=false then 6 else if (stH l n=true∧rE (l.getD (stN l n) [])≠k)∨(apI l n t=true∧pC (apP l n t)=true) then 7 else if k≠1∧isN f a b c=false then 9 else 0
def apX (i:Nat) (l:LLR) (k:Int) (n:ByteArray) (t x:Int):Int:=if k=1 then pI i (apP l n t) else x
theorem ap_err {E e k t x2 x3 x4 x5:Int} {n:ByteArray} {U:LLR} (h:E=e) (he:e≠0):(0=zI E k∧(⟨#[]⟩:ByteArray)=zN E n∧0=zI E t∧0=zI E x2∧0=zI E x3∧0=zI E x4∧0=zI E x5∧zS E U=[]∧True)∧e=E∧True:=by
 subst h
 have z:∀ x:Int,0=zI E x:=fun x=>by unfold zI; rw [if_neg he]
 exact ⟨⟨z _,by unfold zN; rw [if_neg he],z _,z _,z _,z _,z _,by unfold zS; rw [if_neg he],trivial⟩,rfl,trivial⟩
theorem ap_ok {E k t x2 x3 x4 x5 y2 y3 y4 y5:Int} {n:ByteArray} {U V:LLR} (h:E=0) (h2:y2=x2) (h3:y3=x3) (h4:y4=x4) (h5:y5=x5) (hu:U=V):(k=zI E k∧n=zN E n∧t=zI E t∧y2=zI E x2∧y3=zI E x3∧y4=zI E x4∧y5=zI E x5∧(True∧U=zS E V)∧True)∧0=E∧True:=by
 subst h h2 h3 h4 h5 hu
 exact ⟨⟨rfl,rfl,rfl,rfl,rfl,rfl,rfl,⟨trivial,rfl⟩,trivial⟩,rfl,trivial⟩
theorem at_bias {ps:LLR} {t:Int} (hp:PdsP ps):RdsP (pB (atR ps t)):=by
 unfold atR
 split
 ·rcases Nat.lt_or_ge (atK ps t).toNat ps.length with h | h
  ·obtain ⟨fr,cl,fa,a,b,c,bs,hr,hb,_⟩:=hp.fr _ h
   rw [hr]; exact hb
  ·rw [List.getD_eq_getElem?_getD,List.getElem?_eq_none h]; exact rdsP_nil
 ·exact rdsP_nil
def gApply_s (rgV:LLR→Int) (stN:LLR→ByteArray→Nat) (stH:LLR→ByteArray→Bool) (pI:Nat→List AV→Int) (pC:List AV→Bool) (pB:List AV→LLR) (atR:LLR→Int→List AV) (atB:LLR→Int→Bool) (exK:Int→Bool) (vdE:LLR→Int) (isN:Int→Int→Int→Int→Bool) (unb:LLR→LLR→LLR) (zI:Int→Int→Int) (zN:Int→ByteArray→ByteArray) (zS:Int→LLR→LLR) (apE:LLR→Int→ByteArray→Int→Int→Int→Int→Int→LLR→Int) (apX:Nat→LLR→Int→ByteArray→Int→Int→Int) (apP:LLR→ByteArray→Int→List AV):Sp
 | [.agg [.sl 3 g l],.agg [.int .i64 k,.str n,.int .i64 t,.int .i64 f,.int .i64 a,.int .i64 b,.int .i64 c,.sl 2 h rd]]=>some (StsP l∧RdsP rd∧rd.length≤1000,.tup [.agg [.int .i64 (zI (apE l k n t f a b c rd) k),.str (zN (apE l k n t f a b c rd) n),.int .i64 (zI (apE l k n t f a b c rd) t),.int .i64 (zI (apE l k n t f a b c rd) (apX 2 l k n t f)),.int .i64 (zI (apE l k n t f a b c rd) (apX 3 l k n t a)),.int .i64 (zI (apE l k n t f a b c rd) (apX 4 l k n t b)),.int .i64 (zI (apE l k n t f a b c rd) (apX 5 l k n t c)),.sl 2 false (zS (apE l k n t f a b c rd) (unb rd (pB (apP l n t))))],.int .i64 (apE l k n t f a b c rd)])
 | _=>none
abbrev apZr (zI:Int→Int→Int) (zN:Int→ByteArray→ByteArray) (zS:Int→LLR→LLR) (apE:LLR→Int→ByteArray→Int→Int→Int→Int→Int→LLR→Int) (apX:Nat→LLR→Int→ByteArray→Int→Int→Int) (apP:LLR→ByteArray→Int→List AV) (unb:LLR→LLR→LLR) (pB:List AV→LLR) (l rd:LLR) (k t f a b c:Int) (n:ByteArray):Prop:=(0:Int)=zI (apE l k n t f a b c rd) k∧(⟨#[]⟩:ByteArray)=zN (apE l k n t f a b c rd) n∧(0:Int)=zI (apE l k n t f a b c rd) t∧(0:Int)=zI (apE l k n t f a b c rd) (apX (2:Nat) l k n t f)∧(0:Int)=zI (apE l k n t f a b c rd) (apX (3:Nat) l k n t a)∧(0:Int)=zI (apE l k n t f a b c rd) (apX (4:Nat) l k n t b)∧(0:Int)=zI (apE l k n t f a b c rd) (apX (5:Nat) l k n t c)∧zS (apE l k n t f a b c rd) (unb rd (pB (apP l n t)))=[]∧True
abbrev apYr (zI:Int→Int→Int) (zN:Int→ByteArray→ByteArray) (zS:Int→LLR→LLR) (apE:LLR→Int→ByteArray→Int→Int→Int→Int→Int→LLR→Int) (apX:Nat→LLR→Int→ByteArray→Int→Int→Int) (apP:LLR→ByteArray→Int→List AV) (unb:LLR→LLR→LLR) (pB:List AV→LLR) (l rd:LLR) (k t f a b c:Int) (n:ByteArray) (x2 x3 x4 x5:Int) (U:LLR):Prop:=k=zI (apE l k n t f a b c rd) k∧n=zN (apE l k n t f a b c rd) n∧t=zI (apE l k n t f a b c rd) t∧x2=zI (apE l k n t f a b c rd) (apX (2:Nat) l k n t f)∧x3=zI (apE l k n t f a b c rd) (apX (3:Nat) l k n t a)∧x4=zI (apE l k n t f a b c rd) (apX (4:Nat) l k n t b)∧x5=zI (apE l k n t f a b c rd) (apX (5:Nat) l k n t c)∧(True∧U=zS (apE l k n t f a b c rd) (unb rd (pB (apP l n t))))∧True
def gApply_T (rgV:LLR→Int) (stN:LLR→ByteArray→Nat) (stH:LLR→ByteArray→Bool) (pI:Nat→List AV→Int) (pC:List AV→Bool) (pB:List AV→LLR) (atR:LLR→Int→List AV) (atB:LLR→Int→Bool) (exK:Int→Bool) (vdE:LLR→Int) (isN:Int→Int→Int→Int→Bool) (unb:LLR→LLR→LLR) (zI:Int→Int→Int) (zN:Int→ByteArray→ByteArray) (zS:Int→LLR→LLR) (apE:LLR→Int→ByteArray→Int→Int→Int→Int→Int→LLR→Int) (apX:Nat→LLR→Int→ByteArray→Int→Int→Int) (apP:LLR→ByteArray→Int→List AV) (p1R:List AV→Bool) (p2R:List AV→Bool) (p3R:List AV→Bool) (p4R:List AV→Bool) (p5R:List AV→Bool) (pdN:LLR→Int→Nat) (pdH:LLR→Int→Bool) (nrm:Int→Int→Int→Int→Int × Int × Int × Int) (vld:Int→Int→Int→Int→Bool) (fdV:LLR→Int→Int) (fdB:LLR→Int→Bool):Prop :=
  ∀ (g h:Bool) (l rd:List (List AV)) (k t f a b c:Int) (n:ByteArray),StsP l∧RdsP rd∧rd.length≤(1000:Nat)→True∧True→(IR9 k)∧n.size.le (9223372036854775807:Nat)∧(IR9 t)∧(IR9 f)∧((-9223372036854775808:Int)≤a∧a ≤
 (9223372036854775807:Int))∧(IR9 b)∧(IR9 c)∧True∧True→StsP l∧bif decide ¬rgV l=(0:Int) then (apZr zI zN zS apE apX apP unb pB l rd k t f a b c n)∧rgV l=apE l k n t f a b c rd∧True else True∧bif !exK k then (apZr zI zN zS apE apX apP unb pB l rd k t f a b c n)∧(4:Int)=apE l k n t f a b c
 rd∧True else RdsP rd∧bif decide ¬vdE rd=(0:Int) then (apZr zI zN zS apE apX apP unb pB l rd k t f a b c n)∧vdE rd=apE l k n t f a b c rd∧True else SrcS l∧bif stH l n then bif decide ((0:Int)≤(↑(stN l n):Int)∧(↑(stN l n):Int) < (↑l.length:Int)) then ∃ n_1 s xs,List.take [AV.int .i64 n_1,.str s,.sl (7:Nat) false xs].length (l.getD (↑(stN l n):Int).toNat [])=[AV.int .i64 n_1,.str s,.sl (7:Nat) false
 xs]∧SrcD xs∧bif decide (k=(1:Int)) then bif !atB xs t then (apZr zI zN zS apE apX apP unb pB l rd k t f a b c n)∧(6:Int)=apE l k n t f a b c rd∧True else bif stH l n then bif decide ((0:Int)≤(↑(stN l n):Int)∧(↑(stN l n):Int) < (↑l.length:Int)) then ∃ n_2,List.take [AV.int .i64 n_2].length (List.drop (0:Nat) (l.getD (↑(stN l n):Int).toNat []))=[AV.int .i64 n_2]∧bif decide ¬n_2=k then (apZr zI zN
 zS apE apX apP unb pB l rd k t f a b c n)∧(7:Int)=apE l k n t f a b c rd∧True else bif atB xs t then bif pC (atR xs t) then (apZr zI zN zS apE apX apP unb pB l rd k t f a b c n)∧(7:Int)=apE l k n t f a b c rd∧True else bif decide ¬k=(1:Int) then True∧bif !isN f a b c then (apZr zI zN zS apE apX apP unb pB l rd k t f a b c n)∧(9:Int)=apE l k n t f a b c rd∧True else bif decide (k=(1:Int)) then (RdsP
 rd∧RdsP (pB (atR xs t))∧rd.length≤(1000:Nat))∧(apYr zI zN zS apE apX apP unb pB l rd k t f a b c n (pI (2:Nat) (atR xs t)) (pI (3:Nat) (atR xs t)) (pI (4:Nat) (atR xs t)) (pI (5:Nat) (atR xs t)) (unb rd (pB (atR xs t))))∧(0:Int)=apE l k n t f a b c rd∧True else (RdsP rd∧RdsP (pB (atR xs t))∧rd.length≤(1000:Nat))∧(apYr zI zN zS apE apX apP unb pB l rd k t f a b c n (f) (a) (b) (c) (unb rd (pB
 (atR xs t))))∧(0:Int)=apE l k n t f a b c rd∧True else bif decide (k=(1:Int)) then (RdsP rd∧RdsP (pB (atR xs t))∧rd.length≤(1000:Nat))∧(apYr zI zN zS apE apX apP unb pB l rd k t f a b c n (pI (2:Nat) (atR xs t)) (pI (3:Nat) (atR xs t)) (pI (4:Nat) (atR xs t)) (pI (5:Nat) (atR xs t)) (unb rd (pB (atR xs t))))∧(0:Int)=apE l k n t f a b c rd∧True else (RdsP rd∧RdsP (pB (atR xs t))∧rd.length ≤
 (1000:Nat))∧(apYr zI zN zS apE apX apP unb pB l rd k t f a b c n (f) (a) (b) (c) (unb rd (pB (atR xs t))))∧(0:Int)=apE l k n t f a b c rd∧True else bif decide ¬k=(1:Int) then True∧bif !isN f a b c then (apZr zI zN zS apE apX apP unb pB l rd k t f a b c n)∧(9:Int)=apE l k n t f a b c rd∧True else bif decide (k=(1:Int)) then (RdsP rd∧RdsP (pB (atR xs t))∧rd.length≤(1000:Nat))∧(apYr zI zN zS apE apX
 apP unb pB l rd k t f a b c n (pI (2:Nat) (atR xs t)) (pI (3:Nat) (atR xs t)) (pI (4:Nat) (atR xs t)) (pI (5:Nat) (atR xs t)) (unb rd (pB (atR xs t))))∧(0:Int)=apE l k n t f a b c rd∧True else (RdsP rd∧RdsP (pB (atR xs t))∧rd.length≤(1000:Nat))∧(apYr zI zN zS apE apX apP unb pB l rd k t f a b c n (f) (a) (b) (c) (unb rd (pB (atR xs t))))∧(0:Int)=apE l k n t f a b c rd∧True else bif decide
 (k=(1:Int)) then (RdsP rd∧RdsP (pB (atR xs t))∧rd.length≤(1000:Nat))∧(apYr zI zN zS apE apX apP unb pB l rd k t f a b c n (pI (2:Nat) (atR xs t)) (pI (3:Nat) (atR xs t)) (pI (4:Nat) (atR xs t)) (pI (5:Nat) (atR xs t)) (unb rd (pB (atR xs t))))∧(0:Int)=apE l k n t f a b c rd∧True else (RdsP rd∧RdsP (pB (atR xs t))∧rd.length≤(1000:Nat))∧(apYr zI zN zS apE apX apP unb pB l rd k t f a b c n (f) (a)
 (b) (c) (unb rd (pB (atR xs t))))∧(0:Int)=apE l k n t f a b c rd∧True else False else bif atB xs t then bif pC (atR xs t) then (apZr zI zN zS apE apX apP unb pB l rd k t f a b c n)∧(7:Int)=apE l k n t f a b c rd∧True else bif decide ¬k=(1:Int) then True∧bif !isN f a b c then (apZr zI zN zS apE apX apP unb pB l rd k t f a b c n)∧(9:Int)=apE l k n t f a b c rd∧True else bif decide (k=(1:Int)) then
 (RdsP rd∧RdsP (pB (atR xs t))∧rd.length≤(1000:Nat))∧(apYr zI zN zS apE apX apP unb pB l rd k t f a b c n (pI (2:Nat) (atR xs t)) (pI (3:Nat) (atR xs t)) (pI (4:Nat) (atR xs t)) (pI (5:Nat) (atR xs t)) (unb rd (pB (atR xs t))))∧(0:Int)=apE l k n t f a b c rd∧True else (RdsP rd∧RdsP (pB (atR xs t))∧rd.length≤(1000:Nat))∧(apYr zI zN zS apE apX apP unb pB l rd k t f a b c n (f) (a) (b) (c) (unb rd
 (pB (atR xs t))))∧(0:Int)=apE l k n t f a b c rd∧True else bif decide (k=(1:Int)) then (RdsP rd∧RdsP (pB (atR xs t))∧rd.length≤(1000:Nat))∧(apYr zI zN zS apE apX apP unb pB l rd k t f a b c n (pI (2:Nat) (atR xs t)) (pI (3:Nat) (atR xs t)) (pI (4:Nat) (atR xs t)) (pI (5:Nat) (atR xs t)) (unb rd (pB (atR xs t))))∧(0:Int)=apE l k n t f a b c rd∧True else (RdsP rd∧RdsP (pB (atR xs t))∧rd.length ≤
 (1000:Nat))∧(apYr zI zN zS apE apX apP unb pB l rd k t f a b c n (f) (a) (b) (c) (unb rd (pB (atR xs t))))∧(0:Int)=apE l k n t f a b c rd∧True else bif decide ¬k=(1:Int) then True∧bif !isN f a b c then (apZr zI zN zS apE apX apP unb pB l rd k t f a b c n)∧(9:Int)=apE l k n t f a b c rd∧True else bif decide (k=(1:Int)) then (RdsP rd∧RdsP (pB (atR xs t))∧rd.length≤(1000:Nat))∧(apYr zI zN zS apE apX
 apP unb pB l rd k t f a b c n (pI (2:Nat) (atR xs t)) (pI (3:Nat) (atR xs t)) (pI (4:Nat) (atR xs t)) (pI (5:Nat) (atR xs t)) (unb rd (pB (atR xs t))))∧(0:Int)=apE l k n t f a b c rd∧True else (RdsP rd∧RdsP (pB (atR xs t))∧rd.length≤(1000:Nat))∧(apYr zI zN zS apE apX apP unb pB l rd k t f a b c n (f) (a) (b) (c) (unb rd (pB (atR xs t))))∧(0:Int)=apE l k n t f a b c rd∧True else bif decide
 (k=(1:Int)) then (RdsP rd∧RdsP (pB (atR xs t))∧rd.length≤(1000:Nat))∧(apYr zI zN zS apE apX apP unb pB l rd k t f a b c n (pI (2:Nat) (atR xs t)) (pI (3:Nat) (atR xs t)) (pI (4:Nat) (atR xs t)) (pI (5:Nat) (atR xs t)) (unb rd (pB (atR xs t))))∧(0:Int)=apE l k n t f a b c rd∧True else (RdsP rd∧RdsP (pB (atR xs t))∧rd.length≤(1000:Nat))∧(apYr zI zN zS apE apX apP unb pB l rd k t f a b c n (f) (a)
 (b) (c) (unb rd (pB (atR xs t))))∧(0:Int)=apE l k n t f a b c rd∧True else bif stH l n then bif decide ((0:Int)≤(↑(stN l n):Int)∧(↑(stN l n):Int) < (↑l.length:Int)) then ∃ n_2,List.take [AV.int .i64 n_2].length (List.drop (0:Nat) (l.getD (↑(stN l n):Int).toNat []))=[AV.int .i64 n_2]∧bif decide ¬n_2=k then (apZr zI zN zS apE apX apP unb pB l rd k t f a b c n)∧(7:Int)=apE l k n t f a b c rd∧True
 else bif atB xs t then bif pC (atR xs t) then (apZr zI zN zS apE apX apP unb pB l rd k t f a b c n)∧(7:Int)=apE l k n t f a b c rd∧True else bif decide ¬k=(1:Int) then True∧bif !isN f a b c then (apZr zI zN zS apE apX apP unb pB l rd k t f a b c n)∧(9:Int)=apE l k n t f a b c rd∧True else bif decide (k=(1:Int)) then (RdsP rd∧RdsP (pB (atR xs t))∧rd.length≤(1000:Nat))∧(apYr zI zN zS apE apX apP
 unb pB l rd k t f a b c n (pI (2:Nat) (atR xs t)) (pI (3:Nat) (atR xs t)) (pI (4:Nat) (atR xs t)) (pI (5:Nat) (atR xs t)) (unb rd (pB (atR xs t))))∧(0:Int)=apE l k n t f a b c rd∧True else (RdsP rd∧RdsP (pB (atR xs t))∧rd.length≤(1000:Nat))∧(apYr zI zN zS apE apX apP unb pB l rd k t f a b c n (f) (a) (b) (c) (unb rd (pB (atR xs t))))∧(0:Int)=apE l k n t f a b c rd∧True else bif decide (k=(1:Int))
 then (RdsP rd∧RdsP (pB (atR xs t))∧rd.length≤(1000:Nat))∧(apYr zI zN zS apE apX apP unb pB l rd k t f a b c n (pI (2:Nat) (atR xs t)) (pI (3:Nat) (atR xs t)) (pI (4:Nat) (atR xs t)) (pI (5:Nat) (atR xs t)) (unb rd (pB (atR xs t))))∧(0:Int)=apE l k n t f a b c rd∧True else (RdsP rd∧RdsP (pB (atR xs t))∧rd.length≤(1000:Nat))∧(apYr zI zN zS apE apX apP unb pB l rd k t f a b c n (f) (a) (b) (c)
 (unb rd (pB (atR xs t))))∧(0:Int)=apE l k n t f a b c rd∧True else bif decide ¬k=(1:Int) then True∧bif !isN f a b c then (apZr zI zN zS apE apX apP unb pB l rd k t f a b c n)∧(9:Int)=apE l k n t f a b c rd∧True else bif decide (k=(1:Int)) then (RdsP rd∧RdsP (pB (atR xs t))∧rd.length≤(1000:Nat))∧(apYr zI zN zS apE apX apP unb pB l rd k t f a b c n (pI (2:Nat) (atR xs t)) (pI (3:Nat) (atR xs t))
 (pI (4:Nat) (atR xs t)) (pI (5:Nat) (atR xs t)) (unb rd (pB (atR xs t))))∧(0:Int)=apE l k n t f a b c rd∧True else (RdsP rd∧RdsP (pB (atR xs t))∧rd.length≤(1000:Nat))∧(apYr zI zN zS apE apX apP unb pB l rd k t f a b c n (f) (a) (b) (c) (unb rd (pB (atR xs t))))∧(0:Int)=apE l k n t f a b c rd∧True else bif decide (k=(1:Int)) then (RdsP rd∧RdsP (pB (atR xs t))∧rd.length≤(1000:Nat))∧(apYr zI zN zS
 apE apX apP unb pB l rd k t f a b c n (pI (2:Nat) (atR xs t)) (pI (3:Nat) (atR xs t)) (pI (4:Nat) (atR xs t)) (pI (5:Nat) (atR xs t)) (unb rd (pB (atR xs t))))∧(0:Int)=apE l k n t f a b c rd∧True else (RdsP rd∧RdsP (pB (atR xs t))∧rd.length≤(1000:Nat))∧(apYr zI zN zS apE apX apP unb pB l rd k t f a b c n (f) (a) (b) (c) (unb rd (pB (atR xs t))))∧(0:Int)=apE l k n t f a b c rd∧True else False else
 bif atB xs t then bif pC (atR xs t) then (apZr zI zN zS apE apX apP unb pB l rd k t f a b c n)∧(7:Int)=apE l k n t f a b c rd∧True else bif decide ¬k=(1:Int) then True∧bif !isN f a b c then (apZr zI zN zS apE apX apP unb pB l rd k t f a b c n)∧(9:Int)=apE l k n t f a b c rd∧True else bif decide (k=(1:Int)) then (RdsP rd∧RdsP (pB (atR xs t))∧rd.length≤(1000:Nat))∧(apYr zI zN zS apE apX apP unb pB
 l rd k t f a b c n (pI (2:Nat) (atR xs t)) (pI (3:Nat) (atR xs t)) (pI (4:Nat) (atR xs t)) (pI (5:Nat) (atR xs t)) (unb rd (pB (atR xs t))))∧(0:Int)=apE l k n t f a b c rd∧True else (RdsP rd∧RdsP (pB (atR xs t))∧rd.length≤(1000:Nat))∧(apYr zI zN zS apE apX apP unb pB l rd k t f a b c n (f) (a) (b) (c) (unb rd (pB (atR xs t))))∧(0:Int)=apE l k n t f a b c rd∧True else bif decide (k=(1:Int)) then
 (RdsP rd∧RdsP (pB (atR xs t))∧rd.length≤(1000:Nat))∧(apYr zI zN zS apE apX apP unb pB l rd k t f a b c n (pI (2:Nat) (atR xs t)) (pI (3:Nat) (atR xs t)) (pI (4:Nat) (atR xs t)) (pI (5:Nat) (atR xs t)) (unb rd (pB (atR xs t))))∧(0:Int)=apE l k n t f a b c rd∧True else (RdsP rd∧RdsP (pB (atR xs t))∧rd.length≤(1000:Nat))∧(apYr zI zN zS apE apX apP unb pB l rd k t f a b c n (f) (a) (b) (c) (unb rd
 (pB (atR xs t))))∧(0:Int)=apE l k n t f a b c rd∧True else bif decide ¬k=(1:Int) then True∧bif !isN f a b c then (apZr zI zN zS apE apX apP unb pB l rd k t f a b c n)∧(9:Int)=apE l k n t f a b c rd∧True else bif decide (k=(1:Int)) then (RdsP rd∧RdsP (pB (atR xs t))∧rd.length≤(1000:Nat))∧(apYr zI zN zS apE apX apP unb pB l rd k t f a b c n (pI (2:Nat) (atR xs t)) (pI (3:Nat) (atR xs t)) (pI
 (4:Nat) (atR xs t)) (pI (5:Nat) (atR xs t)) (unb rd (pB (atR xs t))))∧(0:Int)=apE l k n t f a b c rd∧True else (RdsP rd∧RdsP (pB (atR xs t))∧rd.length≤(1000:Nat))∧(apYr zI zN zS apE apX apP unb pB l rd k t f a b c n (f) (a) (b) (c) (unb rd (pB (atR xs t))))∧(0:Int)=apE l k n t f a b c rd∧True else bif decide (k=(1:Int)) then (RdsP rd∧RdsP (pB (atR xs t))∧rd.length≤(1000:Nat))∧(apYr zI zN zS apE
 apX apP unb pB l rd k t f a b c n (pI (2:Nat) (atR xs t)) (pI (3:Nat) (atR xs t)) (pI (4:Nat) (atR xs t)) (pI (5:Nat) (atR xs t)) (unb rd (pB (atR xs t))))∧(0:Int)=apE l k n t f a b c rd∧True else (RdsP rd∧RdsP (pB (atR xs t))∧rd.length≤(1000:Nat))∧(apYr zI zN zS apE apX apP unb pB l rd k t f a b c n (f) (a) (b) (c) (unb rd (pB (atR xs t))))∧(0:Int)=apE l k n t f a b c rd∧True else False else bif
 decide (k=(1:Int)) then (apZr zI zN zS apE apX apP unb pB l rd k t f a b c n)∧(6:Int)=apE l k n t f a b c rd∧True else bif stH l n then bif decide ((0:Int)≤(↑(stN l n):Int)∧(↑(stN l n):Int) < (↑l.length:Int)) then ∃ n_1,List.take [AV.int .i64 n_1].length (List.drop (0:Nat) (l.getD (↑(stN l n):Int).toNat []))=[AV.int .i64 n_1]∧bif decide ¬n_1=k then (apZr zI zN zS apE apX apP unb pB l rd k t f a b
 c n)∧(7:Int)=apE l k n t f a b c rd∧True else bif decide ¬k=(1:Int) then True∧bif !isN f a b c then (apZr zI zN zS apE apX apP unb pB l rd k t f a b c n)∧(9:Int)=apE l k n t f a b c rd∧True else bif decide (k=(1:Int)) then (RdsP rd∧RdsP []∧rd.length≤(1000:Nat))∧(apYr zI zN zS apE apX apP unb pB l rd k t f a b c n ((0:Int)) ((0:Int)) ((0:Int)) ((0:Int)) (unb rd []))∧(0:Int)=apE l k n t f a b c
 rd∧True else (RdsP rd∧RdsP []∧rd.length≤(1000:Nat))∧(apYr zI zN zS apE apX apP unb pB l rd k t f a b c n (f) (a) (b) (c) (unb rd []))∧(0:Int)=apE l k n t f a b c rd∧True else bif decide (k=(1:Int)) then (RdsP rd∧RdsP []∧rd.length≤(1000:Nat))∧(apYr zI zN zS apE apX apP unb pB l rd k t f a b c n ((0:Int)) ((0:Int)) ((0:Int)) ((0:Int)) (unb rd []))∧(0:Int)=apE l k n t f a b c rd∧True else (RdsP
 rd∧RdsP []∧rd.length≤(1000:Nat))∧(apYr zI zN zS apE apX apP unb pB l rd k t f a b c n (f) (a) (b) (c) (unb rd []))∧(0:Int)=apE l k n t f a b c rd∧True else False else bif decide ¬k=(1:Int) then True∧bif !isN f a b c then (apZr zI zN zS apE apX apP unb pB l rd k t f a b c n)∧(9:Int)=apE l k n t f a b c rd∧True else bif decide (k=(1:Int)) then (RdsP rd∧RdsP []∧rd.length≤(1000:Nat))∧(apYr zI zN zS
 apE apX apP unb pB l rd k t f a b c n ((0:Int)) ((0:Int)) ((0:Int)) ((0:Int)) (unb rd []))∧(0:Int)=apE l k n t f a b c rd∧True else (RdsP rd∧RdsP []∧rd.length≤(1000:Nat))∧(apYr zI zN zS apE apX apP unb pB l rd k t f a b c n (f) (a) (b) (c) (unb rd []))∧(0:Int)=apE l k n t f a b c rd∧True else bif decide (k=(1:Int)) then (RdsP rd∧RdsP []∧rd.length≤(1000:Nat))∧(apYr zI zN zS apE apX apP unb pB l
 rd k t f a b c n ((0:Int)) ((0:Int)) ((0:Int)) ((0:Int)) (unb rd []))∧(0:Int)=apE l k n t f a b c rd∧True else (RdsP rd∧RdsP []∧rd.length≤(1000:Nat))∧(apYr zI zN zS apE apX apP unb pB l rd k t f a b c n (f) (a) (b) (c) (unb rd []))∧(0:Int)=apE l k n t f a b c rd∧True
theorem gApply_P:gApply_T rgV stN stH pI pC pB atR atB exK vdE isN unb zI zN zS apE apX apP p1R p2R p3R p4R p5R pdN pdH nrm vld fdV fdB:=by
 unfold gApply_T
 intro g h l rd k t f a b c n ⟨hp,hr,hl⟩ _ _
 unfold apZr apYr
 obtain ⟨E,hE⟩:∃ E,E=apE l k n t f a b c rd:=⟨_,rfl⟩
 rw [← hE]
 unfold apE at hE
 refine ⟨hp,csx (fun q=>ap_err (hE.trans (if_pos q)) q) (fun q=>?_)⟩
 rw [if_neg q] at hE
 have hz:=rg_zero hp (Decidable.not_not.1 q)
 refine ⟨trivial,csplit (fun q2=>ap_err (hE.trans (if_pos (by simpa using q2))) (by decide)) (fun q2=>?_)⟩
 have q2:exK k=true:=by simpa using q2
 rw [if_neg (by rw [q2]; decide)] at hE
 refine ⟨hr,csx (fun q3=>ap_err (hE.trans (if_pos q3)) q3) (fun q3=>?_)⟩
 rw [if_neg q3] at hE
 refine ⟨hz.src,csplit (fun q4=>?_) (fun q4=>?_)⟩
 ·have hlt:=stH_lt q4
  refine cd1 (by omega) ?_
  obtain ⟨k2,nm2,ps,hrow,hps⟩:=hp.fr ((stN l n:Int)).toNat (by omega)
  have hrow':=hrow
  rw [Int.toNat_natCast] at hrow'
  have hP:sPs (l.getD (stN l n) [])=ps:=by rw [hrow']; rfl
  have hk2:rE (l.getD (stN l n) [])=k2:=by rw [hrow']; rfl
  have hsrc:SrcD ps:=⟨hps,by rw [← hP]; exact hz.fa _ hlt⟩
  have hI:apI l n t=atB ps t:=by unfold apI; rw [q4,hP]; rfl
  have hA:apP l n t=atR ps t:=by unfold apP; rw [if_pos q4,hP]
  have hX:∀ (i:Nat) (x:Int),apX i l k n t x=if k=1 then pI i (atR ps t) else x:=fun i x=>by unfold apX; rw [hA]
  have hb:RdsP (pB (atR ps t)):=at_bias hps
  rw [hI,hA,hk2] at hE
  rw [hA]
  refine ⟨k2,nm2,ps,by rw [hrow]; rfl,hsrc,csx (fun k1=>csplit (fun w=>ap_err (hE.trans (if_pos ⟨k1,by simpa using w⟩)) (by decide)) (fun w=>(fun e6:¬ (k=1∧atB ps t=false)=>?_) (fun z=>by rw [z.2] at w; cases w))) (fun k1=>(fun e6:¬ (k=1∧atB ps t=false)=>?_) (fun z=>k1 z.1))⟩
  all_goals
   rw [if_neg e6] at hE
   refine csplit (fun _=>cd1 (by omega) ⟨k2,by rw [hrow]; rfl,csx (fun w7=>ap_err (hE.trans (if_pos (.inl ⟨q4,w7⟩))) (by decide)) (fun w7=>csplit (fun wb=>csplit (fun wc=>ap_err (hE.trans (if_pos (.inr ⟨wb,wc⟩))) (by decide)) (fun wc=>(fun e7:¬ ((stH l n=true∧k2≠k)∨(atB ps t=true∧pC (atR ps t)=true))=>?_) (fun z=>z.elim (fun y=>w7 y.2) (fun y=>by rw [wc] at y; cases y.2)))) (fun wb=>(fun e7:¬ ((stH l n=true∧k2≠k)∨(atB ps t=true∧pC (atR ps t)=true))=>?_) (fun z=>z.elim (fun y=>w7 y.2) (fun y=>by rw [wb] at y; cases y.1))))⟩) (fun z=>absurd (q4.symm.trans z) (by decide))
  all_goals
   rw [if_neg e7] at hE
   refine csx (fun z1=>⟨trivial,csplit (fun zn=>ap_err (hE.trans (if_pos ⟨z1,by simpa using zn⟩)) (by decide)) (fun zn=>(fun e9:¬ (k≠1∧isN f a b c=false)=>?_) (fun y=>by rw [y.2] at zn; cases zn))⟩) (fun z1=>(fun e9:¬ (k≠1∧isN f a b c=false)=>?_) (fun y=>z1 y.1))
  all_goals
   rw [if_neg e9] at hE
   exact csx (fun y=>⟨⟨hr,hb,hl⟩,ap_ok hE (by rw [hX,if_pos y]) (by rw [hX,if_pos y]) (by rw [hX,if_pos y]) (by rw [hX,if_pos y]) rfl⟩) (fun y=>⟨⟨hr,hb,hl⟩,ap_ok hE (by rw [hX,if_neg y]) (by rw [hX,if_neg y]) (by rw [hX,if_neg y]) (by rw [hX,if_neg y]) rfl⟩)
 ·have hI:apI l n t=false:=by unfold apI; rw [q4]; rfl
  have hA:apP l n t=pzR:=by unfold apP; rw [if_neg (by rw [q4]; decide)]
  have hX:∀ (i:Nat) (x:Int),apX i l k n t x=if k=1 then pI i pzR else x:=fun i x=>by unfold apX; rw [hA]
  rw [hI,hA] at hE
  rw [hA]
  refine csx (fun k1=>ap_err (hE.trans (if_pos ⟨k1,rfl⟩)) (by decide)) (fun k1=>csplit (fun z=>absurd (q4.symm.trans z) (by decide)) (fun _=>csx (fun _=>⟨trivial,?_⟩) (fun z=>absurd k1 z)))
  rw [if_neg (fun z=>k1 z.1),if_neg (fun z=>z.elim (fun w=>by rw [q4] at w; cases w.1) (fun w=>by cases w.1))] at hE
  refine csplit (fun zn=>ap_err (hE.trans (if_pos ⟨k1,by simpa using zn⟩)) (by decide)) (fun zn=>csx (fun y=>absurd y k1) (fun y=>⟨⟨hr,rdsP_nil,hl⟩,ap_ok (hE.trans (if_neg (fun w=>by rw [w.2] at zn; cases zn))) (by rw [hX,if_neg y]) (by rw [hX,if_neg y]) (by rw [hX,if_neg y]) (by rw [hX,if_neg y]) rfl⟩))
def gApply_S (rgV:LLR→Int) (stN:LLR→ByteArray→Nat) (stH:LLR→ByteArray→Bool) (pI:Nat→List AV→Int) (pC:List AV→Bool) (pB:List AV→LLR) (atR:LLR→Int→List AV) (atB:LLR→Int→Bool) (exK:Int→Bool) (vdE:LLR→Int) (isN:Int→Int→Int→Int→Bool) (unb:LLR→LLR→LLR) (zI:Int→Int→Int) (zN:Int→ByteArray→ByteArray) (zS:Int→LLR→LLR) (apE:LLR→Int→ByteArray→Int→Int→Int→Int→Int→LLR→Int) (apX:Nat→LLR→Int→ByteArray→Int→Int→Int) (apP:LLR→ByteArray→Int→List AV) (p1R:List AV→Bool) (p2R:List AV→Bool) (p3R:List AV→Bool) (p4R:List AV→Bool) (p5R:List AV→Bool) (pdN:LLR→Int→Nat) (pdH:LLR→Int→Bool) (nrm:Int→Int→Int→Int→Int × Int × Int × Int) (vld:Int→Int→Int→Int→Bool) (fdV:LLR→Int→Int) (fdB:LLR→Int→Bool):Prop:=∀ (g h:Bool) (l rd:List (List AV)) (k t f a b c:Int) (n:ByteArray),StsP l∧RdsP rd∧rd.length≤1000→fnK Tryz.prog { glob:=glb,spec:=lk [(28,(gvalidR_s rgV p1R p2R p3R p4R p5R)),(45,(gexists_s exK)),(46,(evalid_s vdE)),(47,(gstation_s stN stH)),(48,(gat_s pdN pdH pI pC pB atR atB)),(49,(gnormalP_s nrm vld isN)),(50,(gunb_s fdV fdB unb vdE))],specH:=lk [],shape:=[43,66],slz:=[(43,[7])],nowf:=true } { nt:=103,drop:=drp [(1,12288),(2,16384),(3,196608),(4,1835008),(5,4194304),(6,58720256),(7,67108864),(8,805306368),(10,136365211648),(13,562675075514368),(14,142989288169013248),(15,144115188075855872),(16,302230878442904990253056),(17,302231454903657293676544),(18,617761093823075508274855936),(19,618970019642690137449562112),(20,3713820117856140824697372672),(21,69324642199981295394350956544),(22,4991374238398653268393268871168),(23,5070602400912917605986812821504)],emp:=fun id=>cond (Nat.beq id 22) [(1000806,1500,76,2)] [] } (fun _ _=>none) 6 Tryz.f16 [.agg [.sl 3 g l],.agg [.int .i64 k,.str n,.int .i64 t,.int .i64 f,.int .i64 a,.int .i64 b,.int .i64 c,.sl 2 h rd]] (.tup [.agg [.int .i64 (zI (apE l k n t f a b c rd) k),.str (zN (apE l k n t f a b c rd) n),.int .i64 (zI (apE l k n t f a b c rd) t),.int .i64 (zI (apE l k n t f a b c rd) (apX 2 l k n t f)),.int .i64 (zI (apE l k n t f a b c rd) (apX 3 l k n t a)),.int .i64 (zI (apE l k n t f a b c rd) (apX 4 l k n t b)),.int .i64 (zI (apE l k n t f a b c rd) (apX 5 l k n t c)),.sl 2 false (zS (apE l k n t f a b c rd) (unb rd (pB (apP l n t))))],.int .i64 (apE l k n t f a b c rd)])
theorem gApply_e (rgV:LLR→Int) (stN:LLR→ByteArray→Nat) (stH:LLR→ByteArray→Bool) (pI:Nat→List AV→Int) (pC:List AV→Bool) (pB:List AV→LLR) (atR:LLR→Int→List AV) (atB:LLR→Int→Bool) (exK:Int→Bool) (vdE:LLR→Int) (isN:Int→Int→Int→Int→Bool) (unb:LLR→LLR→LLR) (zI:Int→Int→Int) (zN:Int→ByteArray→ByteArray) (zS:Int→LLR→LLR) (apE:LLR→Int→ByteArray→Int→Int→Int→Int→Int→LLR→Int) (apX:Nat→LLR→Int→ByteArray→Int→Int→Int) (apP:LLR→ByteArray→Int→List AV) (p1R:List AV→Bool) (p2R:List AV→Bool) (p3R:List AV→Bool) (p4R:List AV→Bool) (p5R:List AV→Bool) (pdN:LLR→Int→Nat) (pdH:LLR→Int→Bool) (nrm:Int→Int→Int→Int→Int × Int × Int × Int) (vld:Int→Int→Int→Int→Bool) (fdV:LLR→Int→Int) (fdB:LLR→Int→Bool):gApply_T rgV stN stH pI pC pB atR atB exK vdE isN unb zI zN zS apE apX apP p1R p2R p3R p4R p5R pdN pdH nrm vld fdV fdB=gApply_S rgV stN stH pI pC pB atR atB exK vdE isN unb zI zN zS apE apX apP p1R p2R p3R p4R p5R pdN pdH nrm vld fdV fdB:=by kernel_rfl
theorem gApply_v:gApply_S rgV stN stH pI pC pB atR atB exK vdE isN unb zI zN zS apE apX apP p1R p2R p3R p4R p5R pdN pdH nrm vld fdV fdB:=Eq.mp (gApply_e ..) (gApply_P)
theorem gApply_ok:SOK Tryz.prog glb 16 (gApply_s rgV stN stH pI pC pB atR atB exK vdE isN unb zI zN zS apE apX apP):=by
 refine ⟨fok Tryz.func16 (by kernel_rfl) (by kernel_rfl),?_⟩
 intro xs pre r h hp
 unfold gApply_s at h
 split at h
 ·simp only [Option.some.injEq,Prod.mk.injEq] at h
  obtain ⟨h1,h2⟩:=h
  subst h1 h2
  exact fnK_sound tyNil (by exact specOK rfl rfl ⟨(gvalidR_ok),(gexists_ok glb),(evalid_ok),(gstation_ok glb),(gat_ok glb),(gnormalP_ok),(gunb_ok),trivial⟩ trivial) (by kernel_rfl) Tryz.func16 rfl (gApply_v  _ _ _ _ _ _ _ _ _ _ _ hp)
 ·cases h
end Go.Proofs.YtldiagnbagpliaaGreatDoor
