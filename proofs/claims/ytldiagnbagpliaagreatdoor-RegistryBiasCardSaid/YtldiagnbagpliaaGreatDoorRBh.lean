import Derived.Test.YtldiagnbagpliaaGreatDoorRBg
import Derived.Shelf.RegionOpenPlain
import Derived.Lib.JoinLaws
import Derived.Lib.Overlaps
import Derived.Lib.AppendZerosOnto
import Derived.Laws.IdiomCopy
import Derived.Laws.NewBlocks
import Derived.Shelf.Spec.SlicesInsert
import Derived.Test.YtldiagnbagpliaaGreatDoorRBe
import Derived.Test.YtldiagnbagpliaaGreatDoorRBd
import Derived.ProofKit
import Derived.OpenShut
import Derived.ShutString
import Derived.ChangeOld
import Derived.Carry
import Derived.Deep.Slices
import Derived.WideShapes
import Derived.LaidMore
set_option maxRecDepth 100000
namespace Go.Proofs.YtldiagnbagpliaaGreatDoor
open Go Go.Lib Go.RowKit
set_option linter.unusedVariables false
set_option linter.unusedSimpArgs false
theorem zero_sizeP (zc:Array Value) (k:Nat):(Builtin.zeroCells zc k).size=k*zc.size:=by
 simp [Builtin.zeroCells]
theorem run_copyNP {P:Program} (w:World) (dT sT ty elem s:Nat) (b o dLen dCap:Nat) (a:Addr) (sLen sCap:Nat) (cs:List Value)
  (hu:P.underlying dT=some (.slice elem)) (hs:(P.info? elem).map (·.size)=some s) (hn:cs.length=Nat.min sLen dLen*s)
  (hsrc:∀ j v,cs[j]?=some v→w.cell? (a.add j)=some v) (hc:∀ j,j < cs.length→(w.cell? ⟨b,o+j,none⟩).isSome=true) (hf:∀ j,j < cs.length→w.frozen? ⟨b,o+j,none⟩=false) (h1:∀ v ∈ cs,v.oneCell'=true) :
  (Builtin.copy_ #[dT,sT] ty #[.slice (some ⟨b,o,none⟩) dLen dCap,.slice (some a) sLen sCap]).run P w=.ok (goInt (Nat.min sLen dLen)) (w.setCells b o cs):=by
 have hl:=run_loadCells_list (P:=P) w a cs hsrc
 have hst:=run_storeCells_cells (P:=P) b o cs 0 w (by simpa using hc) (by simpa using hf) h1
 cases hq:P.info? elem with
 | none=>simp [hq] at hs
 | some i =>
  have hi:i.size=s:=by simpa [hq] using hs
  simp [Builtin.copy_,run_underlying hu,Builtin.lenOf,Builtin.firstCells,sizeOf,typeInfo,hq,hi,← hn,hl,hst]
theorem t_itP:Tryz.prog.underlying 57=some (.slice 49):=by kernel_rfl
theorem i_itP:∃ i z,Tryz.prog.info? 49=some i∧i.zero=some z∧i.size=7∧z.cells.size=7∧i.bytes=72:=by
 have h:(Tryz.prog.info? 49).map (fun i=>(i.zero.map (·.cells.size),i.size,i.bytes))=some (some 7,7,72):=by kernel_rfl
 cases e:Tryz.prog.info? 49 with
 | none=>rw [e] at h; cases h
 | some i =>
  rw [e] at h
  simp only [Option.map_some,Option.some.injEq,Prod.mk.injEq] at h
  obtain ⟨h1,h2,h3⟩:=h
  cases hz:i.zero with
  | none=>rw [hz] at h1; cases h1
  | some z =>
   rw [hz] at h1
   exact ⟨i,z,rfl,hz,h2,by simpa using h1,h3⟩
set_option maxHeartbeats 4000000 in
theorem ins_end_roomP (b off n c vb voff m vc:Nat) (vs:List Value) (w:World) (hm:0 < m) (hroom:n+m≤c) (hc63:c≤9223372036854775807)
  (hvl:vs.length=m*7) (hsp:∀ j,j < m*7→(w.cell? ⟨b,off+n*7+j,none⟩).isSome=true) (hfz:∀ j,j < m*7→w.frozen? ⟨b,off+n*7+j,none⟩=false)
  (hvs:∀ j v,vs[j]?=some v→w.cell? ⟨vb,voff+j,none⟩=some v) (h1v:∀ v ∈ vs,v.oneCell'=true) :
  Calls Tryz.prog 62 #[.slice (some ⟨b,off,none⟩) n c,.int .i64 n,.slice (some ⟨vb,voff,none⟩) m vc] w fun e w' =>
   e=.returned (.slice (some ⟨b,off,none⟩) (n+m) c)∧w'=w.setCells b (off+n*7) vs:=by
 obtain ⟨i0,z0,hi0,hz0,hzs,hzc,hzb⟩:=i_itP
 have hz1:¬ ((m:Int)=0):=by omega
 have hsrc:_root_.Go.Src Tryz.prog i0.size 57 (.slice (some ⟨vb,voff,none⟩) m vc) m vs w:=by
  rw [hzs]
  exact _root_.Go.Src.ofSlice w t_itP ⟨vb,voff,none⟩ m vc vs (by omega) (fun j u hj=>by rw [Addr.add_lit]; exact hvs j u hj) h1v
 have hrun:∀ ty,(Builtin.append_ #[57,57] ty #[.slice (some ⟨b,off,none⟩) n c,.slice (some ⟨vb,voff,none⟩) m vc]).run Tryz.prog w=.ok (.slice (some ⟨b,off,none⟩) (n+m) c) (w.setCells b (off+n*7) vs):=fun ty=>by
  have:=run_append_room_src (w:=w) 57 57 ty 49 i0 t_itP hi0 b off n c (.slice (some ⟨vb,voff,none⟩) m vc) m vs hsrc hroom (by rw [hzs,hvl]; exact hsp) (by rw [hzs,hvl]; exact hfz)
  rw [hzs] at this
  exact this
 go_enter Tryz.func62,Tryz.ntmps62
 go_wp2_with (at_builtin; refine Lib.wpList_append_run _ rfl _ _ _ _ rfl _ _ rfl rfl _ _ (hrun _) ?_)
 go_ret
 exact ⟨rfl,rfl⟩
set_option maxHeartbeats 4000000 in
theorem ins_end_growP (base:Option Addr) (n c vb voff m vc:Nat) (cs vs:List Value) (w:World) (hm:0 < m) (hnc:n≤c) (hroom:c < n+m) (hbig:n+m≤1000)
  (hcl:cs.length=n*7) (hvl:vs.length=m*7) (hnil:base=none→n=0)
  (hcs:∀ a,base=some a→∀ j v,cs[j]?=some v→w.cell? (a.add j)=some v)
  (hvs:∀ j v,vs[j]?=some v→w.cell? ⟨vb,voff+j,none⟩=some v) (h1v:∀ v ∈ vs,v.oneCell'=true) (zc:Array Value) (hzc:∀ i z,Tryz.prog.info? 49=some i→i.zero=some z→z.cells=zc) :
  Calls Tryz.prog 62 #[.slice base n c,.int .i64 n,.slice (some ⟨vb,voff,none⟩) m vc] w fun e w' =>
   e=.returned (.slice (some ⟨w.heap.size,0,none⟩) (n+m) (grownCap w (n+m) c 49)) ∧
   w'=w.drew.alloc (.cells ((cs++vs).toArray++Builtin.zeroCells zc (grownCap w (n+m) c 49 - (n+m))) 49):=by
 obtain ⟨i0,z0,hi0,hz0,hzs,hzc1,hzb⟩:=i_itP
 have hzc2:=hzc i0 z0 hi0 hz0
 have hz1:¬ ((m:Int)=0):=by omega
 have hsrc:_root_.Go.Src Tryz.prog i0.size 57 (.slice (some ⟨vb,voff,none⟩) m vc) m vs w:=by
  rw [hzs]
  exact _root_.Go.Src.ofSlice w t_itP ⟨vb,voff,none⟩ m vc vs (by omega) (fun j u hj=>by rw [Addr.add_lit]; exact hvs j u hj) h1v
 have hold:(Builtin.firstCells i0.size n (.slice base n c)).run Tryz.prog w.drew=.ok cs.toArray w.drew:=by
  rw [hzs]
  cases base with
  | none =>
   have h0:=hnil rfl
   subst h0
   have hcs0:cs=[]:=List.length_eq_zero_iff.1 (by simpa using hcl)
   rw [hcs0]
   exact run_firstCells_none w.drew 7 0 0 c
  | some a=>exact run_firstCells_some w.drew 7 n a n c cs (by omega) (fun j v hj=>hcs a rfl j v hj)
 have hrun:∀ ty,(Builtin.append_ #[57,57] ty #[.slice base n c,.slice (some ⟨vb,voff,none⟩) m vc]).run Tryz.prog w=.ok (.slice (some ⟨w.heap.size,0,none⟩) (n+m) (grownCap w (n+m) c 49)) (w.drew.alloc (.cells ((cs++vs).toArray++Builtin.zeroCells zc (grownCap w (n+m) c 49 - (n+m))) 49)):=fun ty=>by
  have:=run_append_grow_src w 57 57 ty 49 i0 z0 t_itP hi0 hz0 base n c cs hold (.slice (some ⟨vb,voff,none⟩) m vc) m vs hsrc hroom (by omega) (by rw [hzb]; exact growslice_fits hroom (by omega))
  rw [hzc2] at this
  exact this
 go_enter Tryz.func62,Tryz.ntmps62
 cases base with
 | none =>
  have h0:=hnil rfl
  subst h0
  go_wp2_with (at_builtin; refine Lib.wpList_append_run _ rfl _ _ _ _ rfl _ _ rfl rfl _ _ (hrun _) ?_)
  go_ret
  exact ⟨rfl,rfl⟩
 | some a =>
  obtain ⟨ab,ao,asp⟩:=a
  go_wp2_with (at_builtin; refine Lib.wpList_append_run _ rfl _ _ _ _ rfl _ _ rfl rfl _ _ (hrun _) ?_)
  all_goals (go_ret; exact ⟨rfl,rfl⟩)
set_option maxHeartbeats 4000000 in
theorem ins_shiftP (b off n c i vb voff m vc:Nat) (cs vs:List Value) (w:World) (hi:i < n) (hm:0 < m) (hroom:n+m≤c) (hc63:c≤9223372036854775807) (hvb:vb≠b)
  (hcl:cs.length=n*7) (hvl:vs.length=m*7)
  (hcs:∀ j v,cs[j]?=some v→w.cell? ⟨b,off+j,none⟩=some v) (hsp:∀ j,j < (n+m)*7→(w.cell? ⟨b,off+j,none⟩).isSome=true) (hfz:∀ j,j < (n+m)*7→w.frozen? ⟨b,off+j,none⟩=false)
  (hvs:∀ j v,vs[j]?=some v→w.cell? ⟨vb,voff+j,none⟩=some v) (h1c:∀ v ∈ cs,v.oneCell'=true) (h1v:∀ v ∈ vs,v.oneCell'=true)
  (tA tB:TypeId) (kA kB:Nat) (hsa:w.shape? vb=some (tA,kA)) (hsb:w.shape? b=some (tB,kB)) (hkB:kB≠0) (hfa:w.frozen? ⟨vb,voff,none⟩=false) (hfe:w.frozen? ⟨vb,kA,none⟩=false) :
  Calls Tryz.prog 62 #[.slice (some ⟨b,off,none⟩) n c,.int .i64 i,.slice (some ⟨vb,voff,none⟩) m vc] w fun e w' =>
   e=.returned (.slice (some ⟨b,off,none⟩) (n+m) c)∧w'=(w.drew.setCells b (off+(i+m)*7) (cs.drop (i*7))).setCells b (off+i*7) vs:=by
 obtain ⟨i0,z0,hi0,hz0,hzs,hzc1,hzb⟩:=i_itP
 have hz1:¬ ((m:Int)=0):=by omega
 have hz2:¬ ((i:Int)=(n:Int)):=by omega
 have hsz:(Tryz.prog.info? 49).map (·.size)=some 7:=by rw [hi0]; simp [hzs]
 have hso:∀ w,(Go.sizeOf 49).run Tryz.prog w=.ok 7 w:=fun w=>by simp [sizeOf,typeInfo,hi0,hzs]
 have hov:∀ lb cb,(callFunc 104 #[.slice (some ⟨vb,voff,none⟩) m vc,.slice (some ⟨b,off+(i+m)*7,none⟩) lb cb]).run Tryz.prog w=.ok (.value (.bool false)) w:=fun lb cb=>by
  rw [run_callFunc_extern Tryz.func104 (by kernel_rfl) (by kernel_rfl) (by kernel_rfl) (e:=Extern.SlicesOverlaps.overlaps #[57,57] #[4]) (by kernel_rfl),
   Lib.run_overlaps_apart w 57 4 49 t_itP 7 hso ⟨vb,voff,none⟩ ⟨b,off+(i+m)*7,none⟩ m vc lb cb hvb tA tB kA kB hsa hsb hkB hfa hfe]
  rfl
 have mixed:Tryz.prog.follows Departure.mixedOrders=true:=by kernel_rfl
 have hdl:(cs.drop (i*7)).length=(n - i)*7:=by rw [List.length_drop,hcl]; omega
 have hw1:IntKind.i64.wrap ((i:Int)+(m:Int))=(i:Int)+(m:Int):=by rw [IntKind.wrap_i64]; omega
 have hb1:(0:Int)≤(i:Int)+(m:Int):=by omega
 have hin:i≤n:=by omega
 have htn:((i:Int)+(m:Int)).toNat=i+m:=by omega
 have hb2:¬ (c=i+m):=by omega
 have hb3:(i:Int)≤(n:Int)+(m:Int):=by omega
 have hb4:¬ (c=i):=by omega
 have hmn1:Nat.min (n+m - i) (n+m - (i+m))=n - i:=by simp only [Nat.min_def]; split <;> omega
 have hmn2:Nat.min m (n+m - i)=m:=by simp only [Nat.min_def]; split <;> omega
 have hcp1:∀ ty dc sc,(Builtin.copy_ #[57,57] ty #[.slice (some ⟨b,off+(i+m)*7,none⟩) (n+m - (i+m)) dc,.slice (some ⟨b,off+i*7,none⟩) (n+m - i) sc]).run Tryz.prog w.drew=.ok (goInt ((n - i:Nat):Int)) (w.drew.setCells b (off+(i+m)*7) (cs.drop (i*7))):=fun ty dc sc=>by
  have:=run_copyNP w.drew 57 57 ty 49 7 b (off+(i+m)*7) (n+m - (i+m)) dc ⟨b,off+i*7,none⟩ (n+m - i) sc (cs.drop (i*7)) t_itP hsz (by rw [hdl,hmn1])
   (fun j v hj=>by rw [Addr.add_lit,Nat.add_assoc]; exact hcs (i*7+j) v (by rwa [List.getElem?_drop] at hj))
   (fun j hj=>by rw [Nat.add_assoc]; exact hsp _ (by omega)) (fun j hj=>by rw [Nat.add_assoc]; exact hfz _ (by omega)) (fun v hv=>h1c v (List.mem_of_mem_drop hv))
  rw [hmn1] at this
  exact this
 obtain ⟨W1,hW1⟩:∃ W1,W1=w.drew.setCells b (off+(i+m)*7) (cs.drop (i*7)):=⟨_,rfl⟩
 have hsp1:∀ k,k < (n+m)*7→(W1.cell? ⟨b,off+k,none⟩).isSome=true:=fun k hk=>by
  rw [hW1]
  exact isSome_setCells b _ _ _ (fun j hj=>by rw [Nat.add_assoc]; exact hsp _ (by omega)) _ (hsp k hk)
 have hcp2:∀ (W:World),(∀ x,W.cell? x=W1.cell? x)→(∀ x,W.frozen? x=W1.frozen? x)→∀ ty dc,(Builtin.copy_ #[57,57] ty #[.slice (some ⟨b,off+i*7,none⟩) (n+m - i) dc,.slice (some ⟨vb,voff,none⟩) m vc]).run Tryz.prog W=.ok (goInt (m:Int)) (W.setCells b (off+i*7) vs):=fun W hWc hWf ty dc=>by
  have:=run_copyNP W 57 57 ty 49 7 b (off+i*7) (n+m - i) dc ⟨vb,voff,none⟩ m vc vs t_itP hsz (by rw [hvl,hmn2])
   (fun j v hj=>by
    rw [Addr.add_lit,hWc,hW1,World.cell?_setCells_out b _ _ _ _ (fun h _=>absurd h hvb)]
    exact hvs j v hj)
   (fun j hj=>by rw [hWc,Nat.add_assoc]; exact hsp1 _ (by omega)) (fun j hj=>by rw [hWf,hW1,World.frozen?_setCells,Nat.add_assoc]; exact hfz _ (by omega)) h1v
  rw [hmn2] at this
  exact this
 rw [← hW1] at hcp1
 go_enter Tryz.func62,Tryz.ntmps62
 go_wp2_with (simp only [hov])
 go_region_law_o (refine step_copy_runI rfl _ _ 57 57 rfl _ _ (by simp [Act.eval,Act.put]) (by simp [Act.eval,Act.put]) (hcp1 _ _ _) ?_)
 go_wp2_with (at_builtin; refine wpList_copy_runI _ rfl _ _ 57 57 rfl _ _ rfl rfl (hcp2 _ (fun _=>rfl) (fun _=>rfl) _ _) ?_)
 go_ret
 first | exact ⟨rfl,rfl⟩ | exact ⟨rfl,by rw [hW1]⟩
set_option maxHeartbeats 4000000 in
theorem ins_growP (b off n c i vb voff m vc:Nat) (cs vs:List Value) (w:World) (hi:i < n) (hm:0 < m) (hnc:n≤c) (hroom:c < n+m) (hbig:n+m≤1000)
  (hcl:cs.length=n*7) (hvl:vs.length=m*7)
  (hcs:∀ j v,cs[j]?=some v→w.cell? ⟨b,off+j,none⟩=some v)
  (hvs:∀ j v,vs[j]?=some v→w.cell? ⟨vb,voff+j,none⟩=some v) (h1c:∀ v ∈ cs,v.oneCell'=true) (h1v:∀ v ∈ vs,v.oneCell'=true) (zc:Array Value) (hzcc:∀ i z,Tryz.prog.info? 49=some i→i.zero=some z→z.cells=zc) :
  Calls Tryz.prog 62 #[.slice (some ⟨b,off,none⟩) n c,.int .i64 i,.slice (some ⟨vb,voff,none⟩) m vc] w fun e w' =>
   e=.returned (.slice (some ⟨w.heap.size,0,none⟩) (n+m) (grownCap w (n+m) c 49)) ∧
   w'=(((w.alloc (.cells ((cs.take (i*7)).toArray++Builtin.zeroCells zc (n+m - i)++Builtin.zeroCells zc (grownCap w (n+m) c 49 - (n+m))) 49)).drew.setCells w.heap.size (i*7) vs).drew).setCells w.heap.size ((i+m)*7) (cs.drop (i*7)):=by
 obtain ⟨i0,z0,hi0,hz0,hzs,hzc1,hzb⟩:=i_itP
 have hzc2:=hzcc i0 z0 hi0 hz0
 have hzl:zc.size=7:=by rw [← hzc2]; exact hzc1
 have mixed:Tryz.prog.follows Departure.mixedOrders=true:=by kernel_rfl
 have hz1:¬ ((m:Int)=0):=by omega
 have hz2:¬ ((i:Int)=(n:Int)):=by omega
 have hz3:(c:Int) < (n:Int)+(m:Int):=by omega
 have hsz:(Tryz.prog.info? 49).map (·.size)=some 7:=by rw [hi0]; simp [hzs]
 have hbw:b < w.heap.size:=World.block_lt_of_cell? w _ (hcs 0 _ (List.getElem?_eq_getElem (by omega)))
 have hvw:vb < w.heap.size:=World.block_lt_of_cell? w _ (hvs 0 _ (List.getElem?_eq_getElem (by omega)))
 have hkk:(n:Int)+(m:Int) - (i:Int)=((n+m - i:Nat):Int):=by omega
 have hik:i+(n+m - i)=n+m:=by omega
 have hold:(Builtin.firstCells i0.size i (.slice (some ⟨b,off,none⟩) i c)).run Tryz.prog w.drew=.ok (cs.take (i*7)).toArray w.drew:=by
  rw [hzs]
  exact run_firstCells_some w.drew 7 i ⟨b,off,none⟩ i c (cs.take (i*7)) (by rw [List.length_take,hcl]; omega) (fun j v hj=>by
   rw [Addr.add_lit]
   rw [List.getElem?_take] at hj
   split at hj
   ·exact hcs j v hj
   ·cases hj)
 have hrz:∀ ty,(Builtin.append_ #[57,3] ty #[.slice (some ⟨b,off,none⟩) i c,.int .i64 ((n:Int)+(m:Int) - (i:Int))]).run Tryz.prog w =
   .ok (.slice (some ⟨w.heap.size,0,none⟩) (n+m) (grownCap w (n+m) c 49)) (w.drew.alloc (.cells ((cs.take (i*7)).toArray++Builtin.zeroCells zc (n+m - i)++Builtin.zeroCells zc (grownCap w (n+m) c 49 - (n+m))) 49)):=fun ty=>by
  have h:=Lib.run_append_grow_zeros w 57 3 ty 49 i0 z0 .i64 .i64 t_itP (by kernel_rfl) hi0 hz0 (some ⟨b,off,none⟩) i c (cs.take (i*7)) hold (n+m - i) (by omega) (by omega) (by omega) (by omega) (by rw [hzb]; omega) (by rw [hzb,hik]; exact growslice_fits hroom (by omega))
  rw [hik,hzc2] at h
  rw [hkk]
  exact h
 obtain ⟨G,hG⟩:∃ G,G=grownCap w (n+m) c 49:=⟨_,rfl⟩
 obtain ⟨ROW,hROW⟩:∃ ROW:Array Value,ROW=(cs.take (i*7)).toArray++Builtin.zeroCells zc (n+m - i)++Builtin.zeroCells zc (G - (n+m)):=⟨_,rfl⟩
 rw [← hG] at hrz ⊢
 rw [← hROW] at hrz ⊢
 have hRl:(n+m)*7≤ROW.size:=by
  rw [hROW,Array.size_append,Array.size_append,zero_sizeP,zero_sizeP,hzl]
  simp only [List.size_toArray,List.length_take,hcl]
  omega
 obtain ⟨W1,hW1⟩:∃ W1,W1=w.drew.alloc (.cells ROW 49):=⟨_,rfl⟩
 rw [← hW1] at hrz
 have hN:∀ j,j < (n+m)*7→(W1.cell? ⟨w.heap.size,j,none⟩).isSome=true:=fun j hj=>by
  rw [hW1,World.cell?_alloc_at (w:=w.drew) ROW _ w.heap.size j rfl,Array.getElem?_eq_getElem (by omega)]; rfl
 have hNf:∀ j,W1.frozen? ⟨w.heap.size,j,none⟩=false:=fun j=>by rw [hW1]; exact World.frozen?_alloc_at (w:=w.drew) ROW _ w.heap.size j rfl
 have hOb:∀ j v,w.cell? ⟨b,j,none⟩=some v→W1.cell? ⟨b,j,none⟩=some v:=fun j v h=>by rw [hW1,World.cell?_alloc_past (w:=w.drew) _ b j hbw]; exact h
 have hOv:∀ j v,w.cell? ⟨vb,j,none⟩=some v→W1.cell? ⟨vb,j,none⟩=some v:=fun j v h=>by rw [hW1,World.cell?_alloc_past (w:=w.drew) _ vb j hvw]; exact h
 have hmnA:Nat.min m (n+m - i)=m:=by simp only [Nat.min_def]; split <;> omega
 have hmnB:Nat.min (n - i) (n+m - (i+m))=n - i:=by simp only [Nat.min_def]; split <;> omega
 have hcpA:∀ (W:World),(∀ x,W.cell? x=W1.cell? x)→(∀ x,W.frozen? x=W1.frozen? x)→∀ ty dc,(Builtin.copy_ #[57,57] ty #[.slice (some ⟨w.heap.size,i*7,none⟩) (n+m - i) dc,.slice (some ⟨vb,voff,none⟩) m vc]).run Tryz.prog W=.ok (goInt (m:Int)) (W.setCells w.heap.size (i*7) vs):=fun W hWc hWf ty dc=>by
  have:=run_copyNP W 57 57 ty 49 7 w.heap.size (i*7) (n+m - i) dc ⟨vb,voff,none⟩ m vc vs t_itP hsz (by rw [hvl,hmnA])
   (fun j v hj=>by rw [Addr.add_lit,hWc]; exact hOv _ v (hvs j v hj))
   (fun j hj=>by rw [hWc]; exact hN _ (by omega)) (fun j hj=>by rw [hWf]; exact hNf _) h1v
  rw [hmnA] at this
  exact this
 have hGn:n+m≤G:=by rw [hG]; exact grownCap_ge w _ _ _
 have hG63:G≤9223372036854775807:=by
  have:=grownCap_le_maxLen w (n+m) c 49 (by unfold maxLen; omega)
  rw [← hG] at this
  unfold maxLen at this
  omega
 have hGi:¬ (G=i):=by omega
 have hGim:¬ (G=i+m):=by omega
 have hci:¬ (c=i):=by omega
 have hbN:b≠w.heap.size:=by omega
 have hdl:(cs.drop (i*7)).length=(n - i)*7:=by rw [List.length_drop,hcl]; omega
 have hcpB:∀ (W:World),(∀ x,W.cell? x=(W1.setCells w.heap.size (i*7) vs).cell? x)→(∀ x,W.frozen? x=(W1.setCells w.heap.size (i*7) vs).frozen? x)→∀ ty dc sc,(Builtin.copy_ #[57,57] ty #[.slice (some ⟨w.heap.size,(i+m)*7,none⟩) (n+m - (i+m)) dc,.slice (some ⟨b,off+i*7,none⟩) (n - i) sc]).run Tryz.prog W=.ok (goInt ((n - i:Nat):Int)) (W.setCells w.heap.size ((i+m)*7) (cs.drop (i*7))):=fun W hWc hWf ty dc sc=>by
  have:=run_copyNP W 57 57 ty 49 7 w.heap.size ((i+m)*7) (n+m - (i+m)) dc ⟨b,off+i*7,none⟩ (n - i) sc (cs.drop (i*7)) t_itP hsz (by rw [hdl,hmnB])
   (fun j v hj=>by
    rw [Addr.add_lit,hWc,World.cell?_setCells_out _ _ _ _ _ (fun h _=>absurd h hbN),Nat.add_assoc]
    exact hOb _ v (hcs (i*7+j) v (by rwa [List.getElem?_drop] at hj)))
   (fun j hj=>by rw [hWc]; exact isSome_setCells _ _ _ _ (fun t ht=>hN _ (by omega)) _ (hN _ (by omega)))
   (fun j hj=>by rw [hWf,World.frozen?_setCells]; exact hNf _) (fun v hv=>h1c v (List.mem_of_mem_drop hv))
  rw [hmnB] at this
  exact this
 subst hW1
 have hE1:∀ x,((w.alloc (.cells ROW 49)).drew).cell? x=(w.drew.alloc (.cells ROW 49)).cell? x:=fun x=>rfl
 have hE2:∀ x,((w.alloc (.cells ROW 49)).drew).frozen? x=(w.drew.alloc (.cells ROW 49)).frozen? x:=fun x=>rfl
 have hF1:∀ x,(((w.alloc (.cells ROW 49)).drew.setCells w.heap.size (i*7) vs).drew).cell? x=((w.drew.alloc (.cells ROW 49)).setCells w.heap.size (i*7) vs).cell? x:=fun x=>rfl
 have hF2:∀ x,(((w.alloc (.cells ROW 49)).drew.setCells w.heap.size (i*7) vs).drew).frozen? x=((w.drew.alloc (.cells ROW 49)).setCells w.heap.size (i*7) vs).frozen? x:=fun x=>rfl
 have hw1:IntKind.i64.wrap ((i:Int)+(m:Int))=(i:Int)+(m:Int):=by rw [IntKind.wrap_i64]; omega
 have hb1:(0:Int)≤(i:Int)+(m:Int):=by omega
 have hin:i≤n:=by omega
 have htn:((i:Int)+(m:Int)).toNat=i+m:=by omega
 have hb3:(i:Int)≤(n:Int):=by omega
 clear hkk hik hold hROW hG hRl
 go_enter Tryz.func62,Tryz.ntmps62
 go_wp2_with (first
  | (at_builtin; refine Lib.wpList_append_run _ rfl _ _ _ _ rfl _ _ rfl rfl _ _ (hrz _) ?_)
  | (at_builtin; refine wpList_copy_runI _ rfl _ _ 57 57 rfl _ _ rfl rfl (hcpA _ hE1 hE2 _ _) ?_)
  | (at_builtin; refine wpList_copy_runI _ rfl _ _ 57 57 rfl _ _ rfl rfl (hcpB _ (fun _=>rfl) (fun _=>rfl) _ _ _) ?_))
 go_region_law_o (refine step_copy_runI rfl _ _ 57 57 rfl (.slice (some ⟨w.heap.size,(i+m)*7,none⟩) (n+m - (i+m)) (G - (i+m))) (.slice (some ⟨b,off+i*7,none⟩) (n - i) (c - i)) (by simp [Act.eval,Act.put]) (by simp [Act.eval,Act.put]) (hcpB _ hF1 hF2 3 (G - (i+m)) (c - i)) ?_)
 go_wp2
 go_ret
 exact ⟨rfl,rfl⟩
end Go.Proofs.YtldiagnbagpliaaGreatDoor
namespace Go.Proofs.YtldiagnbagpliaaGreatDoor
open Go Go.Lib Go.RowKit
set_option linter.unusedVariables false
set_option linter.unusedSimpArgs false
theorem setCells_otherP (b:Nat):∀ (vs:List Value) (o:Nat) (w:World) (g:Nat),g≠b→(w.setCells b o vs).heap[g]?=w.heap[g]?
 | [],_,_,_,_=>rfl
 | v::r,o,w,g,h=>by
  rw [World.setCells,setCells_otherP b r (o+1) _ g h]
  simp [World.setCell,Array.getElem?_modify,Ne.symm h]
theorem setCells_restP (b:Nat):∀ (vs:List Value) (o:Nat) (w:World),(w.setCells b o vs).os=w.os∧(w.setCells b o vs).tape=w.tape∧(w.setCells b o vs).output=w.output∧(w.setCells b o vs).heap.size=w.heap.size
 | [],_,_=>⟨rfl,rfl,rfl,rfl⟩
 | v::r,o,w=>by
  obtain ⟨h1,h2,h3,h4⟩:=setCells_restP b r (o+1) (w.setCell ⟨b,o,none⟩ v)
  rw [World.setCells]
  exact ⟨h1,h2,h3,by rw [h4]; simp [World.setCell]⟩
def putLP (o:Nat) (vs l:List Value):List Value:=l.take o++vs++l.drop (o+vs.length)
theorem putL_consP {o:Nat} {v:Value} {r l:List Value} (h:o < l.length):putLP (o+1) r (l.set o v)=putLP o (v::r) l:=by
 unfold putLP
 rw [List.drop_set_of_lt (by omega)]
 rw [List.take_add_one,List.take_set_of_le (Nat.le_refl _)]
 simp only [List.getElem?_set_self h,Option.toList_some,List.append_assoc,List.singleton_append,List.length_cons]
 rw [show o+1+r.length=o+(r.length+1) by omega]
theorem setCells_heapP (b t:Nat) (fr:Nat × Nat):∀ (vs:List Value) (o:Nat) (w:World) (l:List Value),w.heap[b]?=some (.cells l.toArray t fr)→o+vs.length≤l.length→(w.setCells b o vs).heap[b]?=some (.cells (putLP o vs l).toArray t fr)
 | [],o,w,l,h,_=>by
  rw [World.setCells,h]
  unfold putLP; simp
 | v::r,o,w,l,h,hl=>by
  rw [List.length_cons] at hl
  have h1:(w.setCell ⟨b,o,none⟩ v).heap[b]?=some (.cells (l.set o v).toArray t fr):=by
   simp [World.setCell,Array.getElem?_modify,h]
  rw [World.setCells,setCells_heapP b t fr r (o+1) _ (l.set o v) h1 (by rw [List.length_set]; omega),putL_consP (by omega)]
theorem putL_lenP {o:Nat} {vs l:List Value} (h:o+vs.length≤l.length):(putLP o vs l).length=l.length:=by
 unfold putLP
 simp only [List.length_append,List.length_take,List.length_drop]
 omega
theorem putL_takeP {o k:Nat} {vs l:List Value} (h:o+vs.length≤l.length) (hk:o+vs.length=k):(putLP o vs l).take k=l.take o++vs:=by
 unfold putLP
 rw [List.take_append_of_le_length (by simp only [List.length_append,List.length_take]; omega),List.take_of_length_le (by simp only [List.length_append,List.length_take]; omega)]
theorem flat_take10P:∀ {zs:List (List AV)} (n:Nat),(∀ z ∈ zs,z.length=7)→(zs.take n).flatten=zs.flatten.take (n*7)∧(zs.drop n).flatten=zs.flatten.drop (n*7)
 | _,0,_=>by simp
 | [],n+1,_=>by simp
 | z::zs,n+1,h=>by
  have hz:=h z List.mem_cons_self
  obtain ⟨h1,h2⟩:=flat_take10P (zs:=zs) n (fun y hy=>h y (List.mem_cons_of_mem _ hy))
  have e:(n+1)*7=z.length+n*7:=by omega
  constructor
  ·rw [List.take_succ_cons,List.flatten_cons,List.flatten_cons,e,List.take_append,h1,List.take_of_length_le (l:=z) (by omega),show z.length+n*7 - z.length=n*7 by omega]
  ·rw [List.drop_succ_cons,List.flatten_cons,e,List.drop_append,h2,List.drop_of_length_le (l:=z) (by omega),show z.length+n*7 - z.length=n*7 by omega,List.nil_append]
def insPP (n q:Nat) (i:Int) (xs ys:LLA):Prop:=n=xs.length∧q=1∧ys.length=1∧0≤i∧i≤n∧n≤900
def sins_sP:SpH
 | [.rw 0 7 n,.int .i64 i,.rw 1 7 q],[.row 49 7 xs,.row 49 7 ys]=>some (insPP n q i xs ys,.rw 0 7 (n+1),[.row 49 7 (xs.take i.toNat++ys++xs.drop i.toNat),.row 49 7 ys])
 | _,_=>none
theorem ins_doneP {S:Pin} {m:Nm} {w w':World} {xs ys zs:LLA} {A:Option Addr} {c g1 c1:Nat} {g' c':Nat} {l:List Value} {vals:List Value}
  (hA:Agree S w) (hm0:m 0=some (.iface 0 (.slice A xs.length c))) (hm1:m 1=some (.iface 0 (.slice (some ⟨g1,0,none⟩) 1 c1)))
  (H1:Held S m w 1 (.row 49 7 ys)) (hnm:∀ k u,m k=some u→k < 2) (hg1:g1 < w.heap.size) (hne:g1≠g')
  (hg:(A=some ⟨g',0,none⟩∧g' < w.heap.size)∨g'=w.heap.size) (hS:∀ o,S g' o=none)
  (r1:w'.os=w.os) (r2:w'.tape=w.tape) (r3:w'.output=w.output) (r4:w.heap.size≤w'.heap.size) (r5:∀ b,b < w.heap.size→b≠g'→w'.heap[b]?=w.heap[b]?)
  (r6:w'.heap[g']?=some (.cells l.toArray 49 (0,0))) (r7:l.length=c'*7) (r8:l.take (zs.length*7)=vals) (hc:zs.length≤c') (hcm:c'≤maxLen)
  (hz:∀ z ∈ zs,z.length=7) (hv:CVl S zs.flatten noNm vals) (h1:∀ v ∈ vals,v.oneCell'=true) (hl:zs.length=xs.length+1) :
  ∃ u S' m',(Ending.returned (.slice (some ⟨g',0,none⟩) (xs.length+1) c'):Ending)=.returned u∧w'.os=w.os∧w'.tape=w.tape∧w'.output=w.output∧w.heap.size≤w'.heap.size∧Ext S S' ∧
   (∀ b,b < w.heap.size→¬ Mof 2 m b→w'.heap[b]?=w.heap[b]?∧∀ o,S' b o=S b o)∧Agree S' w' ∧
   (∀ (q:Nat) (b:Blk),([.row 49 7 zs,.row 49 7 ys]:List Blk)[q]?=some b→Held S' m' w' q b)∧InjB 2 m'∧(∀ q u g,q < 2→m' q=some u→bk u=some g→w.heap.size≤g∨Mof 2 m g)∧MLe m m'∧CV S' (.rw 0 7 (xs.length+1)) m' u:=by
 have hlt:49 < 1000000:=by decide
 have n0:(m.set 0 (.iface 0 (.slice (some ⟨g',0,none⟩) zs.length c'))) 0=some (.iface 0 (.slice (some ⟨g',0,none⟩) zs.length c')):=Nm.set_same _ _ _
 have n1:(m.set 0 (.iface 0 (.slice (some ⟨g',0,none⟩) zs.length c'))) 1=m 1:=Nm.set_ne _ _ (by decide)
 refine ⟨_,S,m.set 0 (.iface 0 (.slice (some ⟨g',0,none⟩) zs.length c')),rfl,r1,r2,r3,r4,.refl _,fun b hb hM=>⟨r5 b hb fun e=>hM ?_,fun _=>rfl⟩,fun b o v h=>?_,fun q b hq=>?_,?_,?_,?_,?_⟩
 ·subst e
  rcases hg with ⟨h,_⟩ | h
  ·exact ⟨0,_,by decide,hm0,by rw [h]; rfl⟩
  ·omega
 ·obtain ⟨k1,k2⟩:=hA b o v h
  have hb:b≠g':=fun e=>by rw [e,hS o] at h; cases h
  exact ⟨by rw [World.cell?_of_block (w:=w) (r5 b (hA.lt h) hb)]; exact k1,k2⟩
 ·match q,hq with
  | 0,hq =>
   simp only [List.getElem?_cons_zero,Option.some.injEq] at hq
   subst hq
   refine ⟨some ⟨g',0,none⟩,c',n0,hc,hcm,.inr ⟨g',l.toArray,(0,0),rfl,by rw [rowTy_lt hlt]; exact r6,.none,by simpa using r7,hS,?_⟩⟩
   rw [rowNm_lo (Nat.lt_trans hlt (by decide))]
   exact row_of_flat hz hv h1 (by simpa using r8)
  | 1,hq =>
   simp only [List.getElem?_cons_succ,List.getElem?_cons_zero,Option.some.injEq] at hq
   subst hq
   refine H1.keep (.refl _) (fun cs vs hi _=>?_) n1 fun u g hu hgu=>?_
   ·obtain ⟨hh,_⟩:=hi
    omega
   ·rw [hm1] at hu
    injection hu with hu
    subst hu
    simp only [bk,Option.some.injEq] at hgu
    subst hgu
    exact ⟨r5 _ hg1 hne,fun _=>rfl⟩
  | q+2,hq=>simp at hq
 ·intro q q' u u' g hq hq' hqq hu hu' hgu
  have key:∀ (q:Nat) (u:Value) (g:Nat),q < 2→(m.set 0 (.iface 0 (.slice (some ⟨g',0,none⟩) zs.length c'))) q=some u→bk u=some g→(q=0∧g=g')∨(q=1∧g=g1):=by
   intro q u g hq hu hgu
   match q,hq with
   | 0,_ =>
    rw [n0] at hu; injection hu with hu; subst hu
    simp only [bk,Option.some.injEq] at hgu
    exact .inl ⟨rfl,hgu.symm⟩
   | 1,_ =>
    rw [n1,hm1] at hu; injection hu with hu; subst hu
    simp only [bk,Option.some.injEq] at hgu
    exact .inr ⟨rfl,hgu.symm⟩
  intro hgu'
  rcases key q u g hq hu hgu with ⟨a1,a2⟩ | ⟨a1,a2⟩ <;> rcases key q' u' g hq' hu' hgu' with ⟨b1,b2⟩ | ⟨b1,b2⟩
  ·omega
  ·exact hne (by rw [← b2,a2])
  ·exact hne (by rw [← a2,b2])
  ·omega
 ·intro q u g hq hu hgu
  match q,hq with
  | 0,_ =>
   rw [n0] at hu; injection hu with hu; subst hu
   simp only [bk,Option.some.injEq] at hgu
   subst hgu
   rcases hg with ⟨h,_⟩ | h
   ·exact .inr ⟨0,_,by decide,hm0,by rw [h]; rfl⟩
   ·exact .inl (by omega)
  | 1,_=>exact .inr ⟨1,u,by decide,by rw [← n1]; exact hu,hgu⟩
 ·exact grow_le hm0 (by omega)
 ·rw [← hl]
  exact CV.rw_mk n0 hc hcm (.inr ⟨g',rfl⟩)
theorem cv_rowP {S:Pin} {m:Nm} {k s n:Nat} {v:Value} {A:Option Addr} {c:Nat} (h:CV S (.rw k s n) m v) (hm:m k=some (.iface 0 (.slice A n c))):v=.slice A n c:=by
 simp only [CV] at h
 obtain ⟨_,A1,q,c1,p1,p2,p3⟩:=h
 rw [hm] at p1
 injection p1 with p1
 injection p1 with _ p1
 injection p1 with e1 e2 e3
 subst e1 e3
 rw [e2]
 exact p3 (by omega)
set_option maxHeartbeats 1000000 in
theorem sins_okP (gl:Glob):HOK Tryz.prog gl 62 sins_sP:=by
 refine ⟨fok Tryz.func62 (by kernel_rfl) (by kernel_rfl),?_⟩
 intro xs0 bs pre r bs2 h hp
 unfold sins_sP at h
 split at h
 rotate_left
 ·cases h
 rename_i n i q xs ys
 simp only [Option.some.injEq,Prod.mk.injEq] at h
 obtain ⟨h1,h2,h3⟩:=h
 subst h1 h2 h3
 obtain ⟨hn,hq,hy,i0,i1,hbg⟩:=hp
 subst hn hq
 intro w S m vs hG hA hnm hheld hinj hv
 have H0:=hheld 0 _ rfl
 have H1:=hheld 1 _ rfl
 have hlt:49 < 1000000:=by decide
 obtain ⟨A,c,a1,a2,a3,a4,a5,V,b1,b2,b3,b4,b5⟩:=H0.vals
 obtain ⟨A1,c1,d1,d2,d3,d4,d5,Y,e1,e2,e3,e4,e5⟩:=H1.vals
 rw [rowNm_lo (Nat.lt_trans hlt (by decide))] at b2 e2
 rw [hy] at d1 d2 e1
 obtain ⟨g1,cur1,fr1,rfl,f1,f2,f3,f4⟩:=d5.resolve_left (fun h=>by omega)
 have hfr1:=f2.lt hlt
 subst hfr1
 rw [rowTy_lt hlt] at f1
 have hg1:g1 < w.heap.size:=(Array.getElem?_eq_some_iff.1 f1).1
 simp only [CVl] at hv
 obtain ⟨u1,us1,v1,hv1,u2,us2,v2,hv2,u3,us3,v3,hv3,v4⟩:=hv
 subst v4 v3 v2
 have hv1:=cv_rowP hv1 a1
 have hv3:=cv_rowP hv3 d1
 simp only [CV] at hv2
 obtain ⟨hv2,_⟩:=hv2
 subst hv1 hv2 hv3
 obtain ⟨k,rfl⟩:∃ k:Nat,i=k:=⟨i.toNat,by omega⟩
 have hvs:vs=#[.slice A xs.length c,.int .i64 k,.slice (some ⟨g1,0,none⟩) 1 c1]:=by apply Array.ext'; simpa using v1
 subst hvs
 have hk:k≤xs.length:=by omega
 have hs1:∀ j v,Y[j]?=some v→w.cell? ⟨g1,0+j,none⟩=some v:=fun j v h=>by rw [Nat.zero_add]; exact e5 g1 rfl j v h
 have hYl:Y.length=1*7:=by rw [e1]
 have hz:∀ z ∈ xs.take k++ys++xs.drop k,z.length=7:=fun z hz=>by
  rcases List.mem_append.1 hz with hz | hz
  ·rcases List.mem_append.1 hz with hz | hz
   ·exact a4 z (List.mem_of_mem_take hz)
   ·exact d4 z hz
  ·exact a4 z (List.mem_of_mem_drop hz)
 have hzl:(xs.take k++ys++xs.drop k).length=xs.length+1:=by
  simp only [List.length_append,List.length_take,List.length_drop,hy]; omega
 obtain ⟨t1,t2⟩:=flat_take10P (zs:=xs) k a4
 have hct:CVl S (xs.take k++ys++xs.drop k).flatten noNm (V.take (k*7)++Y++V.drop (k*7)):=by
  rw [List.flatten_append,List.flatten_append,t1,t2]
  exact ((b2.take _).append e2).append (b2.drop _)
 have hon:∀ v ∈ V.take (k*7)++Y++V.drop (k*7),v.oneCell'=true:=fun v hv=>by
  rcases List.mem_append.1 hv with hv | hv
  ·rcases List.mem_append.1 hv with hv | hv
   ·exact b3 v (List.mem_of_mem_take hv)
   ·exact e3 v hv
  ·exact b3 v (List.mem_of_mem_drop hv)
 have hnm2:∀ k u,m k=some u→k < 2:=hnm
 have a3':c≤9223372036854775807:=by unfold maxLen at a3; omega
 have hdet:(Int.toNat (k:Int))=k:=by omega
 rw [hdet]
 rcases Nat.lt_or_ge c (xs.length+1) with hroom | hroom
 ·
  have hgn:g1≠w.heap.size:=by omega
  obtain ⟨zc,hzc⟩:∃ zc:Array Value,∀ i z,Tryz.prog.info? 49=some i→i.zero=some z→z.cells=zc:=by
   obtain ⟨i0,z0,hi0,hz0,_⟩:=i_itP
   refine ⟨z0.cells,fun i z h1 h2=>?_⟩
   have q1:i=i0:=Option.some.inj (h1.symm.trans hi0)
   rw [q1] at h2
   rw [Option.some.inj (h2.symm.trans hz0)]
  have hzcs:zc.size=7:=by
   obtain ⟨i0,z0,hi0,hz0,_,h,_⟩:=i_itP
   rw [← hzc i0 z0 hi0 hz0]; exact h
  have hG1:xs.length+1≤grownCap w (xs.length+1) c 49:=grownCap_ge w _ _ _
  have hG2:grownCap w (xs.length+1) c 49≤maxLen:=grownCap_le_maxLen w (xs.length+1) c 49 (by unfold maxLen; omega)
  have hSn:∀ o,S w.heap.size o=none:=fun o=>by
   cases e:S w.heap.size o with
   | none=>rfl
   | some v=>have:=hA.lt e; omega
  rcases Nat.lt_or_ge k xs.length with hk2 | hk2
  ·obtain ⟨g,cur,fr,rfl,q1,q2,q3,q4⟩:=a5.resolve_left (fun h=>by omega)
   refine (ins_growP g 0 xs.length c k g1 0 1 c1 V Y w hk2 (by decide) a2 hroom (by omega) b1 hYl (fun j v h=>by rw [Nat.zero_add]; exact b5 g rfl j v h) hs1 b3 e3 zc hzc).mono ?_
   rintro e w' ⟨rfl,rfl⟩
   generalize hGc:grownCap w (xs.length+1) c 49=G at *
   obtain ⟨L0,hL0⟩:∃ L0:List Value,L0=V.take (k*7)++(Builtin.zeroCells zc (xs.length+1 - k)).toList++(Builtin.zeroCells zc (G - (xs.length+1))).toList:=⟨_,rfl⟩
   have hrow:(V.take (k*7)).toArray++Builtin.zeroCells zc (xs.length+1 - k)++Builtin.zeroCells zc (G - (xs.length+1))=L0.toArray:=by
    rw [hL0]; apply Array.ext'; simp
   have hL0l:L0.length=G*7:=by
    rw [hL0]
    simp only [List.length_append,List.length_take,Array.length_toList,zero_sizeP,hzcs,b1]
    omega
   rw [hrow]
   have w1:(w.alloc (.cells L0.toArray 49)).drew.heap[w.heap.size]?=some (.cells L0.toArray 49 (0,0)):=heap_alloc_new w _
   have w2:=setCells_heapP w.heap.size 49 (0,0) Y (k*7) _ L0 w1 (by omega)
   have w3:=setCells_heapP w.heap.size 49 (0,0) (V.drop (k*7)) ((k+1)*7) (((w.alloc (.cells L0.toArray 49)).drew.setCells w.heap.size (k*7) Y).drew) (putLP (k*7) Y L0) w2 (by rw [putL_lenP (by omega),List.length_drop,b1]; omega)
   obtain ⟨s1,s2,s3,s4⟩:=setCells_restP w.heap.size (V.drop (k*7)) ((k+1)*7) (((w.alloc (.cells L0.toArray 49)).drew.setCells w.heap.size (k*7) Y).drew)
   obtain ⟨s5,s6,s7,s8⟩:=setCells_restP w.heap.size Y (k*7) (w.alloc (.cells L0.toArray 49)).drew
   have s9:(w.alloc (.cells L0.toArray 49)).drew.heap.size=w.heap.size+1:=by
    show (w.alloc (.cells L0.toArray 49)).heap.size=_
    rw [World.size_alloc]
   exact ins_doneP hA a1 d1 H1 hnm2 hg1 hgn (.inr rfl) hSn (s1.trans s5) (s2.trans s6) (s3.trans s7) (by rw [s4]; show w.heap.size≤((w.alloc (.cells L0.toArray 49)).drew.setCells w.heap.size (k*7) Y).heap.size; rw [s8,s9]; omega)
    (fun b hb hne=>by
     rw [setCells_otherP _ _ _ _ b hne]
     show ((w.alloc (.cells L0.toArray 49)).drew.setCells w.heap.size (k*7) Y).heap[b]?=_
     rw [setCells_otherP _ _ _ _ b hne]
     exact heap_alloc_old w _ hb)
    w3 (by rw [putL_lenP (by rw [putL_lenP (by omega),List.length_drop,b1]; omega),putL_lenP (by omega)]; exact hL0l)
    (by
     rw [hzl,putL_takeP (by rw [putL_lenP (by omega),List.length_drop,b1]; omega) (by rw [List.length_drop,b1]; omega)]
     rw [show ((k+1)*7)=k*7+Y.length by omega,putL_takeP (by omega) rfl]
     have x:L0.take (k*7)=V.take (k*7):=by
      rw [hL0,List.append_assoc,List.take_append_of_le_length (l₁:=V.take (k*7)) (by rw [List.length_take,b1]; omega),List.take_of_length_le (l:=V.take (k*7)) (by rw [List.length_take]; omega)]
     rw [x])
    (by rw [hzl]; exact hG1) hG2 hz hct hon hzl
  ·have hkn:k=xs.length:=by omega
   subst hkn
   have hnl:A=none→xs.length=0:=fun hn=>by
    rcases a5 with ⟨_,h⟩ | ⟨g,cur,fr,h,_⟩
    ·omega
    ·rw [hn] at h; cases h
   refine (ins_end_growP A xs.length c g1 0 1 c1 V Y w (by decide) a2 hroom (by omega) b1 hYl hnl (fun a ha j v h=>?_) hs1 e3 zc hzc).mono ?_
   ·rcases a5 with ⟨h0,_⟩ | ⟨g,cur,fr,h0,_⟩
    ·rw [h0] at ha; cases ha
    ·rw [h0] at ha; injection ha with ha; subst ha
     rw [Addr.add_lit,Nat.zero_add]; exact b5 g h0 j v h
   ·rintro e w' ⟨rfl,rfl⟩
    generalize hGc:grownCap w (xs.length+1) c 49=G at *
    obtain ⟨L0,hL0⟩:∃ L0:List Value,L0=V++Y++(Builtin.zeroCells zc (G - (xs.length+1))).toList:=⟨_,rfl⟩
    have hrow:(V++Y).toArray++Builtin.zeroCells zc (G - (xs.length+1))=L0.toArray:=by
     rw [hL0]; apply Array.ext'; simp
    have hL0l:L0.length=G*7:=by
     rw [hL0]
     simp only [List.length_append,Array.length_toList,zero_sizeP,hzcs,b1,hYl]
     omega
    rw [hrow]
    have w1:(w.drew.alloc (.cells L0.toArray 49)).heap[w.heap.size]?=some (.cells L0.toArray 49 (0,0)):=heap_alloc_new w.drew _
    exact ins_doneP hA a1 d1 H1 hnm2 hg1 hgn (.inr rfl) hSn rfl rfl rfl (by show w.heap.size≤(w.drew.alloc (.cells L0.toArray 49)).heap.size; rw [World.size_alloc]; exact Nat.le_succ _) (fun b hb hne=>heap_alloc_old w.drew _ hb) w1 hL0l
     (by
      rw [hzl,hL0,List.take_append_of_le_length (by rw [List.length_append,b1,hYl]; omega),List.take_of_length_le (by rw [List.length_append,b1,hYl]; omega)]
      have x1:V.take (xs.length*7)=V:=List.take_of_length_le (by omega)
      have x2:V.drop (xs.length*7)=[]:=List.drop_eq_nil_of_le (by omega)
      rw [x1,x2,List.append_nil])
     (by rw [hzl]; exact hG1) hG2 hz hct hon hzl
 ·
  obtain ⟨g,cur,fr,rfl,q1,q2,q3,q4⟩:=a5.resolve_left (fun h=>by omega)
  have hfr:=q2.lt hlt
  subst hfr
  rw [rowTy_lt hlt] at q1
  have hgw:g < w.heap.size:=(Array.getElem?_eq_some_iff.1 q1).1
  have hgn:g1≠g:=fun h=>hinj 1 0 _ _ g1 (by simp) (by simp) (by decide) d1 a1 rfl (by rw [h]; rfl)
  obtain ⟨_,_,_,hAe,p1,_,p3,p4⟩:=b4.resolve_left (fun h=>by omega)
  injection hAe with hAe
  injection hAe with hAe
  subst hAe
  rw [rowTy_lt hlt,q1] at p1
  injection p1 with p1
  injection p1 with p1
  subst p1
  obtain ⟨L,hL⟩:∃ L,L=cur.toList:=⟨_,rfl⟩
  have hcur:cur=L.toArray:=by rw [hL]
  rw [hcur] at q1
  rw [← hL] at p4
  have hLl:L.length=c*7:=by rw [hL,Array.length_toList]; exact q3
  have hcell:∀ j,j < (xs.length+1)*7→(w.cell? ⟨g,0+j,none⟩).isSome=true:=fun j hj=>by
   simp only [World.cell?,q1,Nat.zero_add]
   have:j < L.length:=by rw [hLl]; have:=Nat.mul_le_mul_right 7 hroom; omega
   simp [List.getElem?_eq_getElem this]
  have hfz:∀ j,w.frozen? ⟨g,j,none⟩=false:=fun j=>by simp [World.frozen?,q1]
  have hLn:(xs.length+1)*7≤L.length:=by rw [hLl]; exact Nat.mul_le_mul_right 7 hroom
  rcases Nat.lt_or_ge k xs.length with hk2 | hk2
  ·refine (ins_shiftP g 0 xs.length c k g1 0 1 c1 V Y w hk2 (by decide) hroom (by omega) hgn b1 hYl (fun j v h=>by rw [Nat.zero_add]; exact b5 g rfl j v h) hcell (fun j _=>hfz _) hs1 b3 e3 49 49 cur1.size L.length (by simp [World.shape?,f1]) (by simp [World.shape?,q1]) (by omega) (by simp [World.frozen?,f1]) (by simp [World.frozen?,f1])).mono ?_
   rintro e w' ⟨rfl,rfl⟩
   rw [Nat.zero_add,Nat.zero_add]
   have w2:=setCells_heapP g 49 (0,0) (V.drop (k*7)) ((k+1)*7) w.drew L q1 (by rw [List.length_drop,b1]; omega)
   have w3:=setCells_heapP g 49 (0,0) Y (k*7) _ _ w2 (by rw [putL_lenP (by rw [List.length_drop,b1]; omega)]; omega)
   obtain ⟨s1,s2,s3,s4⟩:=setCells_restP g Y (k*7) (w.drew.setCells g ((k+1)*7) (V.drop (k*7)))
   obtain ⟨s5,s6,s7,s8⟩:=setCells_restP g (V.drop (k*7)) ((k+1)*7) w.drew
   exact ins_doneP hA a1 d1 H1 hnm2 hg1 hgn (.inl ⟨rfl,hgw⟩) q4 (s1.trans s5) (s2.trans s6) (s3.trans s7) (by rw [s4,s8]; exact Nat.le_refl _)
    (fun b hb hne=>by rw [setCells_otherP _ _ _ _ b hne,setCells_otherP _ _ _ _ b hne]; rfl)
    w3 (by rw [putL_lenP (by rw [putL_lenP (by rw [List.length_drop,b1]; omega)]; omega),putL_lenP (by rw [List.length_drop,b1]; omega)]; exact hLl)
    (by
     rw [hzl]
     unfold putLP
     have x1:(L.take ((k+1)*7)).length=(k+1)*7:=by rw [List.length_take]; omega
     have x3:V.take (k*7)=L.take (k*7):=by rw [← p4,List.take_take,Nat.min_eq_left (by omega)]
     have y1:(L.take ((k+1)*7)++V.drop (k*7)++L.drop ((k+1)*7+(V.drop (k*7)).length)).take (k*7)=V.take (k*7):=by
      rw [List.append_assoc,List.take_append_of_le_length (by omega),List.take_take,Nat.min_eq_left (by omega),x3]
     have y2:(L.take ((k+1)*7)++V.drop (k*7)++L.drop ((k+1)*7+(V.drop (k*7)).length)).drop (k*7+Y.length)=V.drop (k*7)++L.drop ((k+1)*7+(V.drop (k*7)).length):=by
      rw [List.append_assoc,List.drop_append,List.drop_of_length_le (by omega),x1,show k*7+Y.length - (k+1)*7=0 by omega]
      rfl
     rw [y1,y2,← List.append_assoc,List.take_append_of_le_length (by simp only [List.length_append,List.length_take,List.length_drop,b1,hYl]; omega),List.take_of_length_le (by simp only [List.length_append,List.length_take,List.length_drop,b1,hYl]; omega)])
    (by rw [hzl]; exact hroom) a3 hz hct hon hzl
  ·have hkn:k=xs.length:=by omega
   subst hkn
   refine (ins_end_roomP g 0 xs.length c g1 0 1 c1 Y w (by decide) hroom (by omega) hYl (fun j hj=>by rw [Nat.add_assoc]; exact hcell _ (by omega)) (fun j _=>hfz _) hs1 e3).mono ?_
   rintro e w' ⟨rfl,rfl⟩
   rw [Nat.zero_add]
   have w2:=setCells_heapP g 49 (0,0) Y (xs.length*7) w L q1 (by omega)
   obtain ⟨s1,s2,s3,s4⟩:=setCells_restP g Y (xs.length*7) w
   exact ins_doneP hA a1 d1 H1 hnm2 hg1 hgn (.inl ⟨rfl,hgw⟩) q4 s1 s2 s3 (by rw [s4]; exact Nat.le_refl _)
    (fun b hb hne=>setCells_otherP _ _ _ _ b hne)
    w2 (by rw [putL_lenP (by omega)]; exact hLl)
    (by
     rw [hzl,putL_takeP (by omega) (by omega),p4]
     have x1:V.take (xs.length*7)=V:=List.take_of_length_le (by omega)
     have x2:V.drop (xs.length*7)=[]:=List.drop_eq_nil_of_le (by omega)
     rw [x1,x2,List.append_nil])
    (by rw [hzl]; exact hroom) a3 hz hct hon hzl
end Go.Proofs.YtldiagnbagpliaaGreatDoor
namespace Go.Proofs.YtldiagnbagpliaaGreatDoor
open Go
set_option linter.unusedVariables false
set_option linter.unusedSimpArgs false
def sinS_s:SpH:=sins_sS
theorem sinS_ok (gl:Glob):HOK Tryz.prog gl 60 sinS_s:=sins_okS gl
def sinP_s:SpH:=sins_sP
theorem sinP_ok (gl:Glob):HOK Tryz.prog gl 62 sinP_s:=sins_okP gl
def seD (l:LLR) (nm:ByteArray):LLR:=hoP l (stN l nm)
def setE (l:LLR) (k:Int) (nm:ByteArray) (fr:Int) (cl:Bool) (f a b c:Int) (bs:LLR):Int :=
 if rgV l≠0 then rgV l else if exK k=false then 4 else if nmOk nm=false then 3 else if pdV k fr cl f a b c bs=false then 1 else
 if stH l nm=true then (if rE (l.getD (stN l nm) [])≠k then 7 else if pdH (seD l nm) fr=true then 0 else if 8≤((seD l nm).length:Int) then 2 else 0) else if 60≤(l.length:Int) then 2 else 0
def putP (ps:LLR) (fr:Int) (p:List AV):LLR:=if pdH ps fr=true then setEl ps (pdN ps fr) 0 p else ps.take (pdN ps fr)++[p]++ps.drop (pdN ps fr)
def setL (l:LLR) (k:Int) (nm:ByteArray) (fr:Int) (p:List AV):LLR :=
 if stH l nm=true then setEl l (stN l nm) 2 [.sl 7 false (putP (seD l nm) fr p)] else l.take (stN l nm)++[stA k nm [p]]++l.drop (stN l nm)
def setO (l:LLR) (k:Int) (nm:ByteArray) (fr:Int) (cl:Bool) (f a b c:Int) (bs:LLR):LLR:=if setE l k nm fr cl f a b c bs=0 then setL l k nm fr (pdA fr cl f a b c bs) else []
theorem setEl_twice {l:LLR} {i:Nat} {a b c x y:AV} (hi:i < l.length) (h:l.getD i []=[a,b,c]):setEl (setEl l i 2 [x]) i 2 [y]=setEl l i 2 [y]:=by
 refine ll_ext (by simp only [setEl_len]) fun j hj=>?_
 by_cases q:j=i
 ·subst q
  rw [setEl_get,if_pos ⟨rfl,by rw [setEl_len]; exact hi⟩,setEl_get,if_pos ⟨rfl,hi⟩,setEl_get,if_pos ⟨rfl,hi⟩,h]; rfl
 ·rw [setEl_get,if_neg (fun z=>q z.1),setEl_get,if_neg (fun z=>q z.1),setEl_get,if_neg (fun z=>q z.1)]
theorem st_put {l:LLR} (hl:StsP l) (i b:Nat) (Q:LLR):mapLL (frsA b 7 Q) (setEl l i 2 [.rw b 7 Q.length])=setEl l i 2 [.sl 7 false Q]:=by
 rw [mapLL_setEl,(flat_frs _ _ _).st hl,List.map_cons,List.map_nil]
 have e2:frsA b 7 Q (.rw b 7 Q.length)=.sl 7 false Q:=by simp only [frsA,if_true,true_and]
 rw [e2]
theorem se_err {l:LLR} {k:Int} {nm:ByteArray} {fr:Int} {cl:Bool} {f a b c:Int} {bs:LLR} {e:Int} (h:setE l k nm fr cl f a b c bs=e) (he:e≠0):(setO l k nm fr cl f a b c bs=[]∧True)∧e=setE l k nm fr cl f a b c bs∧True :=
 ⟨⟨if_neg (by rw [h]; exact he),trivial⟩,h.symm,trivial⟩
theorem se_ok {l:LLR} {k:Int} {nm:ByteArray} {fr:Int} {cl:Bool} {f a b c:Int} {bs X:LLR} (h:setE l k nm fr cl f a b c bs=0) (hx:X=setL l k nm fr (pdA fr cl f a b c bs)):((True∧X=setO l k nm fr cl f a b c bs)∧True)∧0=setE l k nm fr cl f a b c bs∧True :=
 ⟨⟨⟨trivial,by unfold setO; rw [if_pos h]; exact hx⟩,trivial⟩,h.symm,trivial⟩
theorem rg_len {l:LLR} (h:rgV l=0):l.length≤60∧∀ i,i < l.length→(hoP l i).length≤8:=by
 unfold rgV at h
 split at h
 ·cases h
 ·rename_i q
  refine ⟨by omega,fun i hi=>?_⟩
  have q1:l.any p1R=false:=by
   cases z:l.any p1R with
   | false=>rfl
   | true=>exact absurd (.inr z) q
  have:=List.any_eq_false.1 q1 (l.getD i []) (by rw [gD_lt hi]; exact List.getElem_mem _)
  unfold p1R s1B at this
  simp only [Bool.or_eq_true,not_or,decide_eq_true_eq] at this
  have h2:=this.2
  show (sPs (l.getD i [])).length≤8
  omega
def gset_s:Sp
 | [.agg [.sl 3 g l],.int .i64 k,.str nm,.agg [.int .i64 fr,.bool cl,.int .i64 f,.int .i64 a,.int .i64 b,.int .i64 c,.sl 2 h bs]]=>some (StsP l∧RdsP bs∧bs.length≤1000,.tup [.agg [.sl 3 false (setO l k nm fr cl f a b c bs)],.int .i64 (setE l k nm fr cl f a b c bs)])
 | _=>none
def gset_T (rgV:LLR→Int) (nmOk:ByteArray→Bool) (setO:LLR→Int→ByteArray→Int→Bool→Int→Int→Int→Int→LLR→LLR) (setE:LLR→Int→ByteArray→Int→Bool→Int→Int→Int→Int→LLR→Int) (p1R:List AV→Bool) (p2R:List AV→Bool) (p3R:List AV→Bool) (p4R:List AV→Bool) (p5R:List AV→Bool) (exK:Int→Bool) (nrm:Int→Int→Int→Int→Int × Int × Int × Int) (vld:Int→Int→Int→Int→Bool) (isN:Int→Int→Int→Int→Bool) (pdV:Int→Int→Bool→Int→Int→Int→Int→LLR→Bool) (nonP:Int→Int→Int→Int→Bool) (iL:Int→ByteArray) (inLo:Int→Int) (inHi:Int→Int) (inD:Int→Int) (inE:Int→Int):Prop :=
  ∀ (g h:Bool) (l bs:List (List AV)) (k fr f a b c:Int) (cl:Bool) (nm:ByteArray),StsP l∧RdsP bs∧bs.length≤(1000:Nat)→True∧True→(-9223372036854775808:Int) ≤
  k∧k≤(9223372036854775807:Int)→nm.size.le (9223372036854775807:Nat)→((-9223372036854775808:Int)≤fr∧fr≤(9223372036854775807:Int))∧True ∧
  ((-9223372036854775808:Int)≤f∧f≤(9223372036854775807:Int))∧((-9223372036854775808:Int)≤a∧a≤(9223372036854775807:Int))∧((-9223372036854775808:Int)≤b∧b
 ≤(9223372036854775807:Int))∧((-9223372036854775808:Int)≤c∧c≤(9223372036854775807:Int))∧True∧True→StsP l∧bif decide ¬rgV l=(0:Int) then (setO l k nm fr cl
  f a b c bs=[]∧True)∧rgV l=setE l k nm fr cl f a b c bs∧True else True∧bif !exK k then (setO l k nm fr cl f a b c bs=[]∧True)∧(4:Int)=setE l k nm fr cl f a b c
  bs∧True else True∧bif !nmOk nm then (setO l k nm fr cl f a b c bs=[]∧True)∧(3:Int)=setE l k nm fr cl f a b c bs∧True else RdsP bs∧bif !pdV k fr cl f a b c bs then
  (setO l k nm fr cl f a b c bs=[]∧True)∧(1:Int)=setE l k nm fr cl f a b c bs∧True else StsP l∧bs.length≤(1000:Nat)∧(((SrcS l∧l.length=l.length)∧mapLL (rnT
  (rnP [(1040:Nat)] [(1:Nat)])) (mapLL (rnT (rnP [(1:Nat)] [(1040:Nat)])) (hol l (stN l nm) (1:Nat)))=hol l (stN l nm) (1:Nat))∧hoP l (stN l nm)=hoP l (stN l nm)) ∧
  bif !stH l nm then bif decide ((60:Int)≤(↑l.length:Int)) then (setO l k nm fr cl f a b c bs=[]∧True)∧(2:Int)=setE l k nm fr cl f a b c bs∧True else (l.length =
  (mapLL (frsA (1040:Nat) (7:Nat) (hoP l (stN l nm))) (mapLL (rnT (rnP [(1:Nat)] [(1040:Nat)])) (mapLL (rnT (rnP [(1040:Nat)] [(1:Nat)])) (mapLL (rnT (rnP [(1:Nat)]
  [(1040:Nat)])) (hol l (stN l nm) (1:Nat)))))).length∧(1:Nat)=(1:Nat)∧[[AV.int IntKind.i64 k,AV.str nm,AV.sl (7:Nat) false [[AV.int IntKind.i64 fr,AV.bool cl,
  AV.int IntKind.i64 f,AV.int IntKind.i64 a,AV.int IntKind.i64 b,AV.int IntKind.i64 c,AV.sl (2:Nat) false bs]]]].length=(1:Nat)∧(0:Int)≤(↑(stN l nm):Int)∧(↑(stN l
  nm):Int)≤(↑l.length:Int)∧l.length≤(900:Nat))∧bif decide (l.length+(1:Nat)=(List.take (↑(stN l nm):Int).toNat (mapLL (frsA (1040:Nat) (7:Nat) (hoP l (stN l
  nm))) (mapLL (rnT (rnP [(1:Nat)] [(1040:Nat)])) (mapLL (rnT (rnP [(1040:Nat)] [(1:Nat)])) (mapLL (rnT (rnP [(1:Nat)] [(1040:Nat)])) (hol l (stN l nm) (1:Nat)))))) ++
  [[AV.int IntKind.i64 k,AV.str nm,AV.sl (7:Nat) false [[AV.int IntKind.i64 fr,AV.bool cl,AV.int IntKind.i64 f,AV.int IntKind.i64 a,AV.int IntKind.i64 b,AV.int IntKind.i64
  c,AV.sl (2:Nat) false bs]]]]++List.drop (↑(stN l nm):Int).toNat (mapLL (frsA (1040:Nat) (7:Nat) (hoP l (stN l nm))) (mapLL (rnT (rnP [(1:Nat)] [(1040:Nat)])) (mapLL
  (rnT (rnP [(1040:Nat)] [(1:Nat)])) (mapLL (rnT (rnP [(1:Nat)] [(1040:Nat)])) (hol l (stN l nm) (1:Nat))))))).length) then ((True∧List.take (↑(stN l nm):Int).toNat
  (mapLL (frsA (1040:Nat) (7:Nat) (hoP l (stN l nm))) (mapLL (rnT (rnP [(1:Nat)] [(1040:Nat)])) (mapLL (rnT (rnP [(1040:Nat)] [(1:Nat)])) (mapLL (rnT (rnP [(1:Nat)]
  [(1040:Nat)])) (hol l (stN l nm) (1:Nat))))))++[[AV.int IntKind.i64 k,AV.str nm,AV.sl (7:Nat) false [[AV.int IntKind.i64 fr,AV.bool cl,AV.int IntKind.i64 f,AV.int
  IntKind.i64 a,AV.int IntKind.i64 b,AV.int IntKind.i64 c,AV.sl (2:Nat) false bs]]]]++List.drop (↑(stN l nm):Int).toNat (mapLL (frsA (1040:Nat) (7:Nat) (hoP l (stN l
  nm))) (mapLL (rnT (rnP [(1:Nat)] [(1040:Nat)])) (mapLL (rnT (rnP [(1040:Nat)] [(1:Nat)])) (mapLL (rnT (rnP [(1:Nat)] [(1040:Nat)])) (hol l (stN l nm) (1:Nat)))))) =
  setO l k nm fr cl f a b c bs)∧True)∧(0:Int)=setE l k nm fr cl f a b c bs∧True else False else bif decide ((0:Int)≤(↑(stN l nm):Int)∧(↑(stN l nm):Int) <
  (↑l.length:Int)) then bif decide (l.length=(mapLL (rnT (rnP [(1:Nat)] [(1040:Nat)])) (mapLL (rnT (rnP [(1040:Nat)] [(1:Nat)])) (mapLL (rnT (rnP [(1:Nat)] [(1040 :
  Nat)])) (hol l (stN l nm) (1:Nat))))).length∧(↑(stN l nm):Int).toNat < (mapLL (rnT (rnP [(1:Nat)] [(1040:Nat)])) (mapLL (rnT (rnP [(1040:Nat)] [(1:Nat)])) (mapLL (rnT
  (rnP [(1:Nat)] [(1040:Nat)])) (hol l (stN l nm) (1:Nat))))).length) then ∃ n,List.take [AV.int IntKind.i64 n].length (List.drop (0:Nat) ((mapLL (rnT (rnP [(1:Nat)]
  [(1040:Nat)])) (mapLL (rnT (rnP [(1040:Nat)] [(1:Nat)])) (mapLL (rnT (rnP [(1:Nat)] [(1040:Nat)])) (hol l (stN l nm) (1:Nat))))).getD (↑(stN l nm):Int).toNat [])) =
  [AV.int IntKind.i64 n]∧bif decide ¬n=k then (setO l k nm fr cl f a b c bs=[]∧True)∧(7:Int)=setE l k nm fr cl f a b c bs∧True else bif decide (l.length=(mapLL (rnT
  (rnP [(1:Nat)] [(1040:Nat)])) (mapLL (rnT (rnP [(1040:Nat)] [(1:Nat)])) (mapLL (rnT (rnP [(1:Nat)] [(1040:Nat)])) (hol l (stN l nm) (1:Nat))))).length∧(↑(stN l nm)
 :Int).toNat < (mapLL (rnT (rnP [(1:Nat)] [(1040:Nat)])) (mapLL (rnT (rnP [(1040:Nat)] [(1:Nat)])) (mapLL (rnT (rnP [(1:Nat)] [(1040:Nat)])) (hol l (stN l nm) (1 :
  Nat))))).length) then ∃ n s n_1,List.take [AV.int IntKind.i64 n,AV.str s,AV.rw (1040:Nat) (7:Nat) n_1].length (List.drop (0:Nat) ((mapLL (rnT (rnP [(1:Nat)] [(1040 :
  Nat)])) (mapLL (rnT (rnP [(1040:Nat)] [(1:Nat)])) (mapLL (rnT (rnP [(1:Nat)] [(1040:Nat)])) (hol l (stN l nm) (1:Nat))))).getD (↑(stN l nm):Int).toNat []))=[AV.int
  IntKind.i64 n,AV.str s,AV.rw (1040:Nat) (7:Nat) n_1]∧(SrcD (hoP l (stN l nm))∧n_1=List.length (hoP l (stN l nm)))∧bif pdH (hoP l (stN l nm)) fr then bif decide
  (l.length=(mapLL (rnT (rnP [(1:Nat)] [(1040:Nat)])) (mapLL (rnT (rnP [(1040:Nat)] [(1:Nat)])) (mapLL (rnT (rnP [(1:Nat)] [(1040:Nat)])) (hol l (stN l nm) (1 :
  Nat))))).length∧(↑(stN l nm):Int).toNat < (mapLL (rnT (rnP [(1:Nat)] [(1040:Nat)])) (mapLL (rnT (rnP [(1040:Nat)] [(1:Nat)])) (mapLL (rnT (rnP [(1:Nat)] [(1040 :
  Nat)])) (hol l (stN l nm) (1:Nat))))).length) then ∃ n,List.take [AV.rw (1040:Nat) (7:Nat) n].length (List.drop (2:Nat) ((mapLL (rnT (rnP [(1:Nat)] [(1040:Nat)]))
  (mapLL (rnT (rnP [(1040:Nat)] [(1:Nat)])) (mapLL (rnT (rnP [(1:Nat)] [(1040:Nat)])) (hol l (stN l nm) (1:Nat))))).getD (↑(stN l nm):Int).toNat []))=[AV.rw (1040 :
  Nat) (7:Nat) n]∧bif decide ((0:Int)≤(↑(pdN (hoP l (stN l nm)) fr):Int)∧(↑(pdN (hoP l (stN l nm)) fr):Int) < (↑n:Int)) then bif decide (n=List.length (hoP l (stN l
  nm))∧(↑(pdN (hoP l (stN l nm)) fr):Int).toNat < List.length (hoP l (stN l nm))) then bif decide (l.length=(mapLL (frsA (1040:Nat) (7:Nat) (setEl (hoP l (stN l nm)) (↑(pdN
  (hoP l (stN l nm)) fr):Int).toNat (0:Nat) [AV.int IntKind.i64 fr,AV.bool cl,AV.int IntKind.i64 f,AV.int IntKind.i64 a,AV.int IntKind.i64 b,AV.int IntKind.i64 c,AV.sl (2 :
  Nat) false bs])) (mapLL (rnT (rnP [(1:Nat)] [(1040:Nat)])) (mapLL (rnT (rnP [(1040:Nat)] [(1:Nat)])) (mapLL (rnT (rnP [(1:Nat)] [(1040:Nat)])) (hol l (stN l nm) (1 :
  Nat)))))).length) then ((True∧mapLL (frsA (1040:Nat) (7:Nat) (setEl (hoP l (stN l nm)) (↑(pdN (hoP l (stN l nm)) fr):Int).toNat (0:Nat) [AV.int IntKind.i64 fr,AV.bool
  cl,AV.int IntKind.i64 f,AV.int IntKind.i64 a,AV.int IntKind.i64 b,AV.int IntKind.i64 c,AV.sl (2:Nat) false bs])) (mapLL (rnT (rnP [(1:Nat)] [(1040:Nat)])) (mapLL (rnT
  (rnP [(1040:Nat)] [(1:Nat)])) (mapLL (rnT (rnP [(1:Nat)] [(1040:Nat)])) (hol l (stN l nm) (1:Nat)))))=setO l k nm fr cl f a b c bs)∧True)∧(0:Int)=setE l k nm fr
  cl f a b c bs∧True else False else False else False else False else bif decide (l.length=(mapLL (rnT (rnP [(1:Nat)] [(1040:Nat)])) (mapLL (rnT (rnP [(1040:Nat)] [(1 :
  Nat)])) (mapLL (rnT (rnP [(1:Nat)] [(1040:Nat)])) (hol l (stN l nm) (1:Nat))))).length∧(↑(stN l nm):Int).toNat < (mapLL (rnT (rnP [(1:Nat)] [(1040:Nat)])) (mapLL (rnT
  (rnP [(1040:Nat)] [(1:Nat)])) (mapLL (rnT (rnP [(1:Nat)] [(1040:Nat)])) (hol l (stN l nm) (1:Nat))))).length) then ∃ n,List.take [AV.rw (1040:Nat) (7:Nat) n].length
  (List.drop (2:Nat) ((mapLL (rnT (rnP [(1:Nat)] [(1040:Nat)])) (mapLL (rnT (rnP [(1040:Nat)] [(1:Nat)])) (mapLL (rnT (rnP [(1:Nat)] [(1040:Nat)])) (hol l (stN l nm) (1
 :Nat))))).getD (↑(stN l nm):Int).toNat []))=[AV.rw (1040:Nat) (7:Nat) n]∧bif decide ((8:Int)≤(↑n:Int)) then (setO l k nm fr cl f a b c bs=[]∧True)∧(2:Int)
 =setE l k nm fr cl f a b c bs∧True else bif decide (l.length=(mapLL (rnT (rnP [(1:Nat)] [(1040:Nat)])) (mapLL (rnT (rnP [(1040:Nat)] [(1:Nat)])) (mapLL (rnT (rnP [(1 :
  Nat)] [(1040:Nat)])) (hol l (stN l nm) (1:Nat))))).length∧(↑(stN l nm):Int).toNat < (mapLL (rnT (rnP [(1:Nat)] [(1040:Nat)])) (mapLL (rnT (rnP [(1040:Nat)] [(1 :
  Nat)])) (mapLL (rnT (rnP [(1:Nat)] [(1040:Nat)])) (hol l (stN l nm) (1:Nat))))).length) then ∃ n,List.take [AV.rw (1040:Nat) (7:Nat) n].length (List.drop (2:Nat)
  ((mapLL (rnT (rnP [(1:Nat)] [(1040:Nat)])) (mapLL (rnT (rnP [(1040:Nat)] [(1:Nat)])) (mapLL (rnT (rnP [(1:Nat)] [(1040:Nat)])) (hol l (stN l nm) (1:Nat))))).getD
  (↑(stN l nm):Int).toNat []))=[AV.rw (1040:Nat) (7:Nat) n]∧(n=List.length (hoP l (stN l nm))∧(1:Nat)=(1:Nat)∧[[AV.int IntKind.i64 fr,AV.bool cl,AV.int
  IntKind.i64 f,AV.int IntKind.i64 a,AV.int IntKind.i64 b,AV.int IntKind.i64 c,AV.sl (2:Nat) false bs]].length=(1:Nat)∧(0:Int)≤(↑(pdN (hoP l (stN l nm)) fr):Int) ∧
  (↑(pdN (hoP l (stN l nm)) fr):Int)≤(↑n:Int)∧n≤(900:Nat))∧bif decide (l.length=(mapLL (rnT (rnP [(1:Nat)] [(1040:Nat)])) (mapLL (rnT (rnP [(1040:Nat)] [(1 :
  Nat)])) (mapLL (rnT (rnP [(1:Nat)] [(1040:Nat)])) (hol l (stN l nm) (1:Nat))))).length∧(↑(stN l nm):Int).toNat < (mapLL (rnT (rnP [(1:Nat)] [(1040:Nat)])) (mapLL (rnT
  (rnP [(1040:Nat)] [(1:Nat)])) (mapLL (rnT (rnP [(1:Nat)] [(1040:Nat)])) (hol l (stN l nm) (1:Nat))))).length) then bif decide (l.length=(mapLL (frsA (1040:Nat) (7 :
  Nat) (List.take (↑(pdN (hoP l (stN l nm)) fr):Int).toNat (hoP l (stN l nm))++[[AV.int IntKind.i64 fr,AV.bool cl,AV.int IntKind.i64 f,AV.int IntKind.i64 a,AV.int IntKind.i64
  b,AV.int IntKind.i64 c,AV.sl (2:Nat) false bs]]++List.drop (↑(pdN (hoP l (stN l nm)) fr):Int).toNat (hoP l (stN l nm)))) (setEl (mapLL (rnT (rnP [(1:Nat)] [(1040 :
  Nat)])) (mapLL (rnT (rnP [(1040:Nat)] [(1:Nat)])) (mapLL (rnT (rnP [(1:Nat)] [(1040:Nat)])) (hol l (stN l nm) (1:Nat))))) (↑(stN l nm):Int).toNat (2:Nat) [AV.rw (1040
 :Nat) (7:Nat) (n+(1:Nat))])).length) then ((True∧mapLL (frsA (1040:Nat) (7:Nat) (List.take (↑(pdN (hoP l (stN l nm)) fr):Int).toNat (hoP l (stN l nm))++[[AV.int
  IntKind.i64 fr,AV.bool cl,AV.int IntKind.i64 f,AV.int IntKind.i64 a,AV.int IntKind.i64 b,AV.int IntKind.i64 c,AV.sl (2:Nat) false bs]]++List.drop (↑(pdN (hoP l (stN l
  nm)) fr):Int).toNat (hoP l (stN l nm)))) (setEl (mapLL (rnT (rnP [(1:Nat)] [(1040:Nat)])) (mapLL (rnT (rnP [(1040:Nat)] [(1:Nat)])) (mapLL (rnT (rnP [(1:Nat)] [(1040 :
  Nat)])) (hol l (stN l nm) (1:Nat))))) (↑(stN l nm):Int).toNat (2:Nat) [AV.rw (1040:Nat) (7:Nat) (n+(1:Nat))])=setO l k nm fr cl f a b c bs)∧True)∧(0:Int) =
  setE l k nm fr cl f a b c bs∧True else False else False else False else False else False else False else False
theorem gset_P:gset_T rgV nmOk setO setE p1R p2R p3R p4R p5R exK nrm vld isN pdV nonP iL inLo inHi inD inE:=by
 unfold gset_T
 intro g h l bs k fr f a b c cl nm ⟨hp,hb,hbl⟩ _
 intros
 have hE:setE l k nm fr cl f a b c bs=setE l k nm fr cl f a b c bs:=rfl
 conv at hE=>rhs; unfold setE
 refine ⟨hp,csx (fun q=>se_err (hE.trans (if_pos q)) q) (fun q=>?_)⟩
 rw [if_neg q] at hE
 have h0:=Decidable.not_not.1 q
 have hz:=rg_zero hp h0
 obtain ⟨l60,p8⟩:=rg_len h0
 refine ⟨trivial,csplit (fun q2=>se_err (hE.trans (if_pos (by simpa using q2))) (by decide)) (fun q2=>?_)⟩
 rw [if_neg (by simpa using q2)] at hE
 refine ⟨trivial,csplit (fun q3=>se_err (hE.trans (if_pos (by simpa using q3))) (by decide)) (fun q3=>?_)⟩
 rw [if_neg (by simpa using q3)] at hE
 refine ⟨hb,csplit (fun q4=>se_err (hE.trans (if_pos (by simpa using q4))) (by decide)) (fun q4=>?_)⟩
 rw [if_neg (by simpa using q4)] at hE
 have X1:mapLL (rnT (rnP [1] [1040])) (hol l (stN l nm) 1)=hol l (stN l nm) 1040:=(flat_rn _).hol hp rfl
 have X2:mapLL (rnT (rnP [1040] [1])) (hol l (stN l nm) 1040)=hol l (stN l nm) 1:=(flat_rn _).hol hp rfl
 have X3:mapLL (frsA 1040 7 (hoP l (stN l nm))) (hol l (stN l nm) 1040)=l:=hol_frs hp _ _
 rw [X1,X2,X1,X3]
 have hiI:stN l nm≤l.length:=fp_le _ _
 have eI:((stN l nm:Nat):Int).toNat=stN l nm:=Int.toNat_natCast _
 rw [eI]
 refine ⟨hp,hbl,⟨⟨⟨hz.src,rfl⟩,rfl⟩,rfl⟩,csplit (fun q5=>?_) (fun q5=>?_)⟩
 ·rw [if_neg (by simpa using q5)] at hE
  refine csx (fun q6=>se_err (hE.trans (if_pos q6)) (by decide)) (fun q6=>?_)
  rw [if_neg q6] at hE
  refine ⟨⟨rfl,rfl,rfl,by omega,by omega,by omega⟩,cd1 ?_ (se_ok hE ?_)⟩
  ·simp only [List.length_append,List.length_take,List.length_drop,List.length_singleton]; omega
  ·unfold setL
   rw [if_neg (by simpa using q5)]; rfl
 ·have q5:stH l nm=true:=by simpa using q5
  rw [if_pos q5] at hE
  have hlt:=stH_lt q5
  obtain ⟨k2,nm2,ps,hrow,hps⟩:=hp.fr (stN l nm) hlt
  have hP:hoP l (stN l nm)=ps:=by unfold hoP; rw [hrow]; rfl
  have hD:seD l nm=ps:=hP
  have hk2:rE (l.getD (stN l nm) [])=k2:=by rw [hrow]; rfl
  have hsrc:SrcD ps:=⟨hps,by rw [← hP]; exact hz.fa _ hlt⟩
  have hl8:ps.length≤8:=hP ▸ p8 _ hlt
  have hL:l.length=(hol l (stN l nm) 1040).length:=(hol_len _ _ _).symm
  have hg:(hol l (stN l nm) 1040).getD (stN l nm) []=[.int .i64 k2,.str nm2,.rw 1040 7 ps.length]:=by
   unfold hol; rw [hP]; exact setEl_at hlt hrow
  have hdn:pdN ps fr≤ps.length:=fp_le _ _
  have eD:((pdN ps fr:Nat):Int).toNat=pdN ps fr:=Int.toNat_natCast _
  rw [hk2,hD] at hE
  rw [hP,eD]
  have hS:setL l k nm fr (pdA fr cl f a b c bs)=setEl l (stN l nm) 2 [.sl 7 false (putP ps fr (pdA fr cl f a b c bs))]:=by unfold setL; rw [if_pos q5,hD]
  refine cd1 (by omega) (cd1 ⟨hL,by omega⟩ ⟨k2,by rw [hg]; rfl,csx (fun q6=>se_err (hE.trans (if_pos q6)) (by decide)) (fun q6=>?_)⟩)
  rw [if_neg q6] at hE
  refine cd1 ⟨hL,by omega⟩ ⟨k2,nm2,ps.length,by rw [hg]; rfl,⟨hsrc,rfl⟩,csplit (fun q7=>?_) (fun q7=>?_)⟩
  ·rw [if_pos q7] at hE
   have hjl:pdN ps fr < ps.length:=by
    have:=q7
    unfold pdH fpB at this
    rw [Bool.and_eq_true] at this
    exact of_decide_eq_true this.1
   refine cd1 ⟨hL,by omega⟩ ⟨ps.length,by rw [hg]; rfl,cd1 (by omega) (cd1 ⟨rfl,by omega⟩ (cd1 (by rw [mapLL_len]; exact hL) (se_ok hE ?_)))⟩
   rw [hS]
   unfold putP
   rw [if_pos q7]
   have:=st_put hp (stN l nm) 1040 (setEl ps (pdN ps fr) 0 (pdA fr cl f a b c bs))
   rw [setEl_len] at this
   unfold hol
   rw [hP]
   exact this
  ·rw [if_neg (by rw [q7]; decide)] at hE
   refine cd1 ⟨hL,by omega⟩ ⟨ps.length,by rw [hg]; rfl,csx (fun q8=>se_err (hE.trans (if_pos q8)) (by decide)) (fun q8=>?_)⟩
   rw [if_neg q8] at hE
   refine cd1 ⟨hL,by omega⟩ ⟨ps.length,by rw [hg]; rfl,⟨rfl,rfl,rfl,by omega,by omega,by omega⟩,cd1 ⟨hL,by omega⟩ (cd1 (by rw [mapLL_len,setEl_len]; exact hL) (se_ok hE ?_))⟩
   rw [hS]
   unfold putP
   rw [if_neg (by rw [q7]; decide)]
   have hq:ps.length+1=(ps.take (pdN ps fr)++[pdA fr cl f a b c bs]++ps.drop (pdN ps fr)).length:=by
    simp only [List.length_append,List.length_take,List.length_drop,List.length_singleton]; omega
   have:=st_put hp (stN l nm) 1040 (ps.take (pdN ps fr)++[pdA fr cl f a b c bs]++ps.drop (pdN ps fr))
   unfold hol
   rw [setEl_twice hlt hrow,hq]
   exact this
def gset_S (rgV:LLR→Int) (nmOk:ByteArray→Bool) (setO:LLR→Int→ByteArray→Int→Bool→Int→Int→Int→Int→LLR→LLR) (setE:LLR→Int→ByteArray→Int→Bool→Int→Int→Int→Int→LLR→Int) (p1R:List AV→Bool) (p2R:List AV→Bool) (p3R:List AV→Bool) (p4R:List AV→Bool) (p5R:List AV→Bool) (exK:Int→Bool) (nrm:Int→Int→Int→Int→Int × Int × Int × Int) (vld:Int→Int→Int→Int→Bool) (isN:Int→Int→Int→Int→Bool) (pdV:Int→Int→Bool→Int→Int→Int→Int→LLR→Bool) (nonP:Int→Int→Int→Int→Bool) (iL:Int→ByteArray) (inLo:Int→Int) (inHi:Int→Int) (inD:Int→Int) (inE:Int→Int):Prop:=∀ (g h:Bool) (l bs:List (List AV)) (k fr f a b c:Int) (cl:Bool) (nm:ByteArray),StsP l∧RdsP bs∧bs.length≤1000→fnK Tryz.prog { glob:=glb,spec:=lk [(28,(gvalidR_s rgV p1R p2R p3R p4R p5R)),(45,(gexists_s exK)),(56,(gname_s nmOk)),(57,(gvalidP_s nrm vld isN pdV nonP iL inLo inHi inD inE)),(59,cloRd_s)],specH:=lk [(60,sinS_s),(62,sinP_s),(58,(gcop_s (Go.Proofs.YtldiagnbagpliaaGreatDoor.stN l nm))),(47,(gstB_s l (Go.Proofs.YtldiagnbagpliaaGreatDoor.stN l nm))),(61,gperB_s)],shape:=[77,84,94,106,114],slz:=[(84,[1040007]),(94,[1040007]),(106,[1040007]),(114,[1040007])],nowf:=true,bst:=[59] } { nt:=119,drop:=drp [(1,393216),(2,524288),(3,6291456),(4,117440512),(5,134217728),(6,3758096384),(7,4294967296),(8,257698037760),(9,274877906944),(10,1649267441664),(11,32985348833280),(12,2216615441596416),(13,2251799813685248),(14,63050394783186944),(15,144115188075855872),(16,590007579982553939968),(17,590295810358705651712),(18,17708874310761169551360),(19,585573443875836006498304),(20,1208925819614629174706176),(21,1235522187646151016549711872),(22,2534063260417173422718507286528),(23,5070602400912917605986812821504),(24,1287933009831881071920650456662016),(25,163557351043847070298710634370433024),(26,166153499473114484112975882535043072),(27,332306998946228968225951765070086144)],act:=fun id=>cond (Nat.beq id 16||Nat.beq id 27) [.frz 1040,.cls 40] [] } (fun _ _=>none) 6 Tryz.f26 [.agg [.sl 3 g l],.int .i64 k,.str nm,.agg [.int .i64 fr,.bool cl,.int .i64 f,.int .i64 a,.int .i64 b,.int .i64 c,.sl 2 h bs]] (.tup [.agg [.sl 3 false (setO l k nm fr cl f a b c bs)],.int .i64 (setE l k nm fr cl f a b c bs)])
theorem gset_e (rgV:LLR→Int) (nmOk:ByteArray→Bool) (setO:LLR→Int→ByteArray→Int→Bool→Int→Int→Int→Int→LLR→LLR) (setE:LLR→Int→ByteArray→Int→Bool→Int→Int→Int→Int→LLR→Int) (p1R:List AV→Bool) (p2R:List AV→Bool) (p3R:List AV→Bool) (p4R:List AV→Bool) (p5R:List AV→Bool) (exK:Int→Bool) (nrm:Int→Int→Int→Int→Int × Int × Int × Int) (vld:Int→Int→Int→Int→Bool) (isN:Int→Int→Int→Int→Bool) (pdV:Int→Int→Bool→Int→Int→Int→Int→LLR→Bool) (nonP:Int→Int→Int→Int→Bool) (iL:Int→ByteArray) (inLo:Int→Int) (inHi:Int→Int) (inD:Int→Int) (inE:Int→Int):gset_T rgV nmOk setO setE p1R p2R p3R p4R p5R exK nrm vld isN pdV nonP iL inLo inHi inD inE=gset_S rgV nmOk setO setE p1R p2R p3R p4R p5R exK nrm vld isN pdV nonP iL inLo inHi inD inE:=by kernel_rfl
theorem gset_v:gset_S rgV nmOk setO setE p1R p2R p3R p4R p5R exK nrm vld isN pdV nonP iL inLo inHi inD inE:=Eq.mp (gset_e ..) (gset_P)
theorem gset_ok:SOK Tryz.prog glb 26 gset_s:=by
 refine ⟨fok Tryz.func26 (by kernel_rfl) (by kernel_rfl),?_⟩
 intro xs pre r h hp
 unfold gset_s at h
 split at h
 ·rename_i g l k nm fr cl f a b c hh bs
  simp only [Option.some.injEq,Prod.mk.injEq] at h
  obtain ⟨h1,h2⟩:=h
  subst h1 h2
  exact fnK_sound tyNil (by exact specOK rfl rfl ⟨gvalidR_ok,gexists_ok glb,gname_ok glb,gvalidP_ok,cloRd_ok glb,trivial⟩ ⟨sinS_ok glb,sinP_ok glb,gcop_ok (stN l nm) glb,gstB_ok l (stN l nm) glb,gperB_ok glb,trivial⟩) (by kernel_rfl) Tryz.func26 rfl (gset_v _ _ _ _ _ _ _ _ _ _ _ _ hp)
 ·cases h
end Go.Proofs.YtldiagnbagpliaaGreatDoor
namespace Go.Proofs.YtldiagnbagpliaaGreatDoor
open Go
set_option linter.unusedVariables false
set_option linter.unusedSimpArgs false
def awN:ByteArray:=⟨#[(48:UInt8),(49:UInt8),(50:UInt8),(51:UInt8),(52:UInt8)]⟩
def awP1:List AV:=pdA 0 false 0 840 0 0 [[.int .i64 1,.int .i64 3]]
def awP2:List AV:=pdA 1000 false 0 0 840 0 []
def awL1:LLR:=[stA 1 awN [awP1]]
def awL2:LLR:=[stA 1 awN [awP1,awP2]]
theorem aw_e1:setO [] 1 ⟨#[(48:UInt8),(49:UInt8),(50:UInt8),(51:UInt8),(52:UInt8)]⟩ 0 false 0 840 0 0 [[.int .i64 1,.int .i64 3]]=awL1:=by kernel_rfl
theorem aw_e2:setO awL1 1 ⟨#[(48:UInt8),(49:UInt8),(50:UInt8),(51:UInt8),(52:UInt8)]⟩ 1000 false 0 0 840 0 []=awL2:=by kernel_rfl
theorem rds_lit1 {e v:Int} (h:rng .i64 e) (h2:rng .i64 v):RdsP [[.int .i64 e,.int .i64 v]]:=rds_add rdsP_nil h h2 (by simp)
theorem aw_s1:StsP awL1:=⟨fun i hi=>by
 have hi:i=0:=by simp [awL1] at hi; exact hi
 subst hi
 refine ⟨1,awN,[awP1],rfl,fun j hj=>?_,by simp⟩
 have hj:j=0:=by simpa using hj
 subst hj
 exact ⟨0,false,0,840,0,0,_,rfl,rds_lit1 (by decide) (by decide),by decide⟩,by simp [awL1]⟩
theorem aw_s2:StsP awL2:=⟨fun i hi=>by
 have hi:i=0:=by simp [awL2] at hi; exact hi
 subst hi
 refine ⟨1,awN,[awP1,awP2],rfl,fun j hj=>?_,by simp⟩
 have hj:j=0∨j=1:=by simp at hj; omega
 rcases hj with rfl | rfl
 ·exact ⟨0,false,0,840,0,0,_,rfl,rds_lit1 (by decide) (by decide),by decide⟩
 ·exact ⟨1000,false,0,0,840,0,_,rfl,rdsP_nil,by decide⟩,by simp [awL2]⟩
theorem sts_nil:StsP []:=⟨fun i h=>by simp at h,by simp⟩
def lawake_s (apE:LLR→Int→ByteArray→Int→Int→Int→Int→Int→LLR→Int) (apX:Nat→LLR→Int→ByteArray→Int→Int→Int) (apP:LLR→ByteArray→Int→List AV) (zI:Int→Int→Int) (zS:Int→LLR→LLR) (unb:LLR→LLR→LLR) (pB:List AV→LLR):Sp
 | []=>some (True,.bool true)
 | _=>none
def lawake_T (apE:LLR→Int→ByteArray→Int→Int→Int→Int→Int→LLR→Int) (apX:Nat→LLR→Int→ByteArray→Int→Int→Int) (apP:LLR→ByteArray→Int→List AV) (zI:Int→Int→Int) (zS:Int→LLR→LLR) (unb:LLR→LLR→LLR) (pB:List AV→LLR) (rgV:LLR→Int) (stN:LLR→ByteArray→Nat) (stH:LLR→ByteArray→Bool) (pI:Nat→List AV→Int) (pC:List AV→Bool) (atR:LLR→Int→List AV) (atB:LLR→Int→Bool) (exK:Int→Bool) (vdE:LLR→Int) (isN:Int→Int→Int→Int→Bool) (zN:Int→ByteArray→ByteArray):Prop :=
  (StsP []∧RdsP [[AV.int IntKind.i64 (1:Int),AV.int IntKind.i64 (3:Int)]]∧(1:Nat)≤(1000:Nat))∧(StsP (setO [] (1:Int) { data:=#[(48:UInt8),(49:UInt8),(50 :
  UInt8),(51:UInt8),(52:UInt8)] } (0:Int) false (0:Int) (840:Int) (0:Int) (0:Int) [[AV.int IntKind.i64 (1:Int),AV.int IntKind.i64 (3:Int)]])∧RdsP []∧(0 :
  Nat)≤(1000:Nat))∧(StsP (setO (setO [] (1:Int) { data:=#[(48:UInt8),(49:UInt8),(50:UInt8),(51:UInt8),(52:UInt8)] } (0:Int) false (0:Int) (840:Int) (0 :
  Int) (0:Int) [[AV.int IntKind.i64 (1:Int),AV.int IntKind.i64 (3:Int)]]) (1:Int) { data:=#[(48:UInt8),(49:UInt8),(50:UInt8),(51:UInt8),(52:UInt8)] } (1000 :
  Int) false (0:Int) (0:Int) (840:Int) (0:Int) [])∧RdsP [[AV.int IntKind.i64 (1:Int),AV.int IntKind.i64 (10132:Int)]]∧(1:Nat)≤(1000:Nat))∧(StsP (setO (setO
  [] (1:Int) { data:=#[(48:UInt8),(49:UInt8),(50:UInt8),(51:UInt8),(52:UInt8)] } (0:Int) false (0:Int) (840:Int) (0:Int) (0:Int) [[AV.int IntKind.i64 (1 :
  Int),AV.int IntKind.i64 (3:Int)]]) (1:Int) { data:=#[(48:UInt8),(49:UInt8),(50:UInt8),(51:UInt8),(52:UInt8)] } (1000:Int) false (0:Int) (0:Int) (840 :
  Int) (0:Int) [])∧RdsP [[AV.int IntKind.i64 (1:Int),AV.int IntKind.i64 (10132:Int)]]∧(1:Nat)≤(1000:Nat))∧bif decide (apE (setO (setO [] (1:Int) { data:=#[(48
 :UInt8),(49:UInt8),(50:UInt8),(51:UInt8),(52:UInt8)] } (0:Int) false (0:Int) (840:Int) (0:Int) (0:Int) [[AV.int IntKind.i64 (1:Int),AV.int IntKind.i64 (3
 :Int)]]) (1:Int) { data:=#[(48:UInt8),(49:UInt8),(50:UInt8),(51:UInt8),(52:UInt8)] } (1000:Int) false (0:Int) (0:Int) (840:Int) (0:Int) []) (1:Int) {
  data:=#[(48:UInt8),(49:UInt8),(50:UInt8),(51:UInt8),(52:UInt8)] } (999:Int) (0:Int) (0:Int) (0:Int) (0:Int) [[AV.int IntKind.i64 (1:Int),AV.int
  IntKind.i64 (10132:Int)]]=(0:Int)) then bif decide (apE (setO (setO [] (1:Int) { data:=#[(48:UInt8),(49:UInt8),(50:UInt8),(51:UInt8),(52:UInt8)] } (0:Int)
  false (0:Int) (840:Int) (0:Int) (0:Int) [[AV.int IntKind.i64 (1:Int),AV.int IntKind.i64 (3:Int)]]) (1:Int) { data:=#[(48:UInt8),(49:UInt8),(50:UInt8),(51
 :UInt8),(52:UInt8)] } (1000:Int) false (0:Int) (0:Int) (840:Int) (0:Int) []) (1:Int) { data:=#[(48:UInt8),(49:UInt8),(50:UInt8),(51:UInt8),(52 :
  UInt8)] } (1000:Int) (0:Int) (0:Int) (0:Int) (0:Int) [[AV.int IntKind.i64 (1:Int),AV.int IntKind.i64 (10132:Int)]]=(0:Int)) then bif decide (zI (apE (setO (setO
  [] (1:Int) { data:=#[(48:UInt8),(49:UInt8),(50:UInt8),(51:UInt8),(52:UInt8)] } (0:Int) false (0:Int) (840:Int) (0:Int) (0:Int) [[AV.int IntKind.i64 (1 :
  Int),AV.int IntKind.i64 (3:Int)]]) (1:Int) { data:=#[(48:UInt8),(49:UInt8),(50:UInt8),(51:UInt8),(52:UInt8)] } (1000:Int) false (0:Int) (0:Int) (840 :
  Int) (0:Int) []) (1:Int) { data:=#[(48:UInt8),(49:UInt8),(50:UInt8),(51:UInt8),(52:UInt8)] } (999:Int) (0:Int) (0:Int) (0:Int) (0:Int) [[AV.int
  IntKind.i64 (1:Int),AV.int IntKind.i64 (10132:Int)]]) (apX (2:Nat) (setO (setO [] (1:Int) { data:=#[(48:UInt8),(49:UInt8),(50:UInt8),(51:UInt8),(52:UInt8)]
  } (0:Int) false (0:Int) (840:Int) (0:Int) (0:Int) [[AV.int IntKind.i64 (1:Int),AV.int IntKind.i64 (3:Int)]]) (1:Int) { data:=#[(48:UInt8),(49:UInt8),(50 :
  UInt8),(51:UInt8),(52:UInt8)] } (1000:Int) false (0:Int) (0:Int) (840:Int) (0:Int) []) (1:Int) { data:=#[(48:UInt8),(49:UInt8),(50:UInt8),(51:UInt8),
  (52:UInt8)] } (999:Int) (0:Int))=(0:Int))&&(decide (zI (apE (setO (setO [] (1:Int) { data:=#[(48:UInt8),(49:UInt8),(50:UInt8),(51:UInt8),(52:UInt8)] }
  (0:Int) false (0:Int) (840:Int) (0:Int) (0:Int) [[AV.int IntKind.i64 (1:Int),AV.int IntKind.i64 (3:Int)]]) (1:Int) { data:=#[(48:UInt8),(49:UInt8),(50 :
  UInt8),(51:UInt8),(52:UInt8)] } (1000:Int) false (0:Int) (0:Int) (840:Int) (0:Int) []) (1:Int) { data:=#[(48:UInt8),(49:UInt8),(50:UInt8),(51:UInt8),
  (52:UInt8)] } (999:Int) (0:Int) (0:Int) (0:Int) (0:Int) [[AV.int IntKind.i64 (1:Int),AV.int IntKind.i64 (10132:Int)]]) (apX (3:Nat) (setO (setO [] (1:Int) {
  data:=#[(48:UInt8),(49:UInt8),(50:UInt8),(51:UInt8),(52:UInt8)] } (0:Int) false (0:Int) (840:Int) (0:Int) (0:Int) [[AV.int IntKind.i64 (1:Int),AV.int
  IntKind.i64 (3:Int)]]) (1:Int) { data:=#[(48:UInt8),(49:UInt8),(50:UInt8),(51:UInt8),(52:UInt8)] } (1000:Int) false (0:Int) (0:Int) (840:Int) (0:Int)
  []) (1:Int) { data:=#[(48:UInt8),(49:UInt8),(50:UInt8),(51:UInt8),(52:UInt8)] } (999:Int) (0:Int))=(840:Int))&&(decide (zI (apE (setO (setO [] (1:Int)
  { data:=#[(48:UInt8),(49:UInt8),(50:UInt8),(51:UInt8),(52:UInt8)] } (0:Int) false (0:Int) (840:Int) (0:Int) (0:Int) [[AV.int IntKind.i64 (1:Int),AV.int
  IntKind.i64 (3:Int)]]) (1:Int) { data:=#[(48:UInt8),(49:UInt8),(50:UInt8),(51:UInt8),(52:UInt8)] } (1000:Int) false (0:Int) (0:Int) (840:Int) (0:Int)
  []) (1:Int) { data:=#[(48:UInt8),(49:UInt8),(50:UInt8),(51:UInt8),(52:UInt8)] } (999:Int) (0:Int) (0:Int) (0:Int) (0:Int) [[AV.int IntKind.i64 (1 :
  Int),AV.int IntKind.i64 (10132:Int)]]) (apX (4:Nat) (setO (setO [] (1:Int) { data:=#[(48:UInt8),(49:UInt8),(50:UInt8),(51:UInt8),(52:UInt8)] } (0:Int)
  false (0:Int) (840:Int) (0:Int) (0:Int) [[AV.int IntKind.i64 (1:Int),AV.int IntKind.i64 (3:Int)]]) (1:Int) { data:=#[(48:UInt8),(49:UInt8),(50:UInt8),(51
 :UInt8),(52:UInt8)] } (1000:Int) false (0:Int) (0:Int) (840:Int) (0:Int) []) (1:Int) { data:=#[(48:UInt8),(49:UInt8),(50:UInt8),(51:UInt8),(52 :
  UInt8)] } (999:Int) (0:Int))=(0:Int))&&(decide (zI (apE (setO (setO [] (1:Int) { data:=#[(48:UInt8),(49:UInt8),(50:UInt8),(51:UInt8),(52:UInt8)] } (0 :
  Int) false (0:Int) (840:Int) (0:Int) (0:Int) [[AV.int IntKind.i64 (1:Int),AV.int IntKind.i64 (3:Int)]]) (1:Int) { data:=#[(48:UInt8),(49:UInt8),(50:UInt8),
  (51:UInt8),(52:UInt8)] } (1000:Int) false (0:Int) (0:Int) (840:Int) (0:Int) []) (1:Int) { data:=#[(48:UInt8),(49:UInt8),(50:UInt8),(51:UInt8),(52 :
  UInt8)] } (999:Int) (0:Int) (0:Int) (0:Int) (0:Int) [[AV.int IntKind.i64 (1:Int),AV.int IntKind.i64 (10132:Int)]]) (apX (5:Nat) (setO (setO [] (1:Int) { data :=
  #[(48:UInt8),(49:UInt8),(50:UInt8),(51:UInt8),(52:UInt8)] } (0:Int) false (0:Int) (840:Int) (0:Int) (0:Int) [[AV.int IntKind.i64 (1:Int),AV.int
  IntKind.i64 (3:Int)]]) (1:Int) { data:=#[(48:UInt8),(49:UInt8),(50:UInt8),(51:UInt8),(52:UInt8)] } (1000:Int) false (0:Int) (0:Int) (840:Int) (0:Int)
  []) (1:Int) { data:=#[(48:UInt8),(49:UInt8),(50:UInt8),(51:UInt8),(52:UInt8)] } (999:Int) (0:Int))=(0:Int))&&true))) then bif decide ((0:Int)≤(0 :
  Int)∧(0:Int) < (↑(List.length (zS (apE (setO (setO [] (1:Int) { data:=#[(48:UInt8),(49:UInt8),(50:UInt8),(51:UInt8),(52:UInt8)] } (0:Int) false (0:Int)
  (840:Int) (0:Int) (0:Int) [[AV.int IntKind.i64 (1:Int),AV.int IntKind.i64 (3:Int)]]) (1:Int) { data:=#[(48:UInt8),(49:UInt8),(50:UInt8),(51:UInt8),(52 :
  UInt8)] } (1000:Int) false (0:Int) (0:Int) (840:Int) (0:Int) []) (1:Int) { data:=#[(48:UInt8),(49:UInt8),(50:UInt8),(51:UInt8),(52:UInt8)] } (999:Int)
  (0:Int) (0:Int) (0:Int) (0:Int) [[AV.int IntKind.i64 (1:Int),AV.int IntKind.i64 (10132:Int)]]) (unb [[AV.int IntKind.i64 (1:Int),AV.int IntKind.i64 (10132:Int)]]
  (pB (apP (setO (setO [] (1:Int) { data:=#[(48:UInt8),(49:UInt8),(50:UInt8),(51:UInt8),(52:UInt8)] } (0:Int) false (0:Int) (840:Int) (0:Int) (0:Int)
  [[AV.int IntKind.i64 (1:Int),AV.int IntKind.i64 (3:Int)]]) (1:Int) { data:=#[(48:UInt8),(49:UInt8),(50:UInt8),(51:UInt8),(52:UInt8)] } (1000:Int) false (0
 :Int) (0:Int) (840:Int) (0:Int) []) { data:=#[(48:UInt8),(49:UInt8),(50:UInt8),(51:UInt8),(52:UInt8)] } (999:Int)))))):Int)) then ∃ n,List.take [AV.int
  IntKind.i64 n].length (List.drop (1:Nat) (List.getD (zS (apE (setO (setO [] (1:Int) { data:=#[(48:UInt8),(49:UInt8),(50:UInt8),(51:UInt8),(52:UInt8)] } (0 :
  Int) false (0:Int) (840:Int) (0:Int) (0:Int) [[AV.int IntKind.i64 (1:Int),AV.int IntKind.i64 (3:Int)]]) (1:Int) { data:=#[(48:UInt8),(49:UInt8),(50:UInt8),
  (51:UInt8),(52:UInt8)] } (1000:Int) false (0:Int) (0:Int) (840:Int) (0:Int) []) (1:Int) { data:=#[(48:UInt8),(49:UInt8),(50:UInt8),(51:UInt8),(52 :
  UInt8)] } (999:Int) (0:Int) (0:Int) (0:Int) (0:Int) [[AV.int IntKind.i64 (1:Int),AV.int IntKind.i64 (10132:Int)]]) (unb [[AV.int IntKind.i64 (1:Int),AV.int
  IntKind.i64 (10132:Int)]] (pB (apP (setO (setO [] (1:Int) { data:=#[(48:UInt8),(49:UInt8),(50:UInt8),(51:UInt8),(52:UInt8)] } (0:Int) false (0:Int) (840 :
  Int) (0:Int) (0:Int) [[AV.int IntKind.i64 (1:Int),AV.int IntKind.i64 (3:Int)]]) (1:Int) { data:=#[(48:UInt8),(49:UInt8),(50:UInt8),(51:UInt8),(52:UInt8)]
  } (1000:Int) false (0:Int) (0:Int) (840:Int) (0:Int) []) { data:=#[(48:UInt8),(49:UInt8),(50:UInt8),(51:UInt8),(52:UInt8)] } (999:Int))))) (0:Nat)
  []))=[AV.int IntKind.i64 n]∧bif decide (n=(10129:Int)) then bif decide (zI (apE (setO (setO [] (1:Int) { data:=#[(48:UInt8),(49:UInt8),(50:UInt8),(51:UInt8),
  (52:UInt8)] } (0:Int) false (0:Int) (840:Int) (0:Int) (0:Int) [[AV.int IntKind.i64 (1:Int),AV.int IntKind.i64 (3:Int)]]) (1:Int) { data:=#[(48:UInt8),(49 :
  UInt8),(50:UInt8),(51:UInt8),(52:UInt8)] } (1000:Int) false (0:Int) (0:Int) (840:Int) (0:Int) []) (1:Int) { data:=#[(48:UInt8),(49:UInt8),(50:UInt8),
  (51:UInt8),(52:UInt8)] } (1000:Int) (0:Int) (0:Int) (0:Int) (0:Int) [[AV.int IntKind.i64 (1:Int),AV.int IntKind.i64 (10132:Int)]]) (apX (2:Nat) (setO (setO []
  (1:Int) { data:=#[(48:UInt8),(49:UInt8),(50:UInt8),(51:UInt8),(52:UInt8)] } (0:Int) false (0:Int) (840:Int) (0:Int) (0:Int) [[AV.int IntKind.i64 (1 :
  Int),AV.int IntKind.i64 (3:Int)]]) (1:Int) { data:=#[(48:UInt8),(49:UInt8),(50:UInt8),(51:UInt8),(52:UInt8)] } (1000:Int) false (0:Int) (0:Int) (840 :
  Int) (0:Int) []) (1:Int) { data:=#[(48:UInt8),(49:UInt8),(50:UInt8),(51:UInt8),(52:UInt8)] } (1000:Int) (0:Int))=(0:Int))&&(decide (zI (apE (setO
  (setO [] (1:Int) { data:=#[(48:UInt8),(49:UInt8),(50:UInt8),(51:UInt8),(52:UInt8)] } (0:Int) false (0:Int) (840:Int) (0:Int) (0:Int) [[AV.int
  IntKind.i64 (1:Int),AV.int IntKind.i64 (3:Int)]]) (1:Int) { data:=#[(48:UInt8),(49:UInt8),(50:UInt8),(51:UInt8),(52:UInt8)] } (1000:Int) false (0:Int) (0
 :Int) (840:Int) (0:Int) []) (1:Int) { data:=#[(48:UInt8),(49:UInt8),(50:UInt8),(51:UInt8),(52:UInt8)] } (1000:Int) (0:Int) (0:Int) (0:Int) (0:Int)
  [[AV.int IntKind.i64 (1:Int),AV.int IntKind.i64 (10132:Int)]]) (apX (3:Nat) (setO (setO [] (1:Int) { data:=#[(48:UInt8),(49:UInt8),(50:UInt8),(51:UInt8),(52
 :UInt8)] } (0:Int) false (0:Int) (840:Int) (0:Int) (0:Int) [[AV.int IntKind.i64 (1:Int),AV.int IntKind.i64 (3:Int)]]) (1:Int) { data:=#[(48:UInt8),(49 :
  UInt8),(50:UInt8),(51:UInt8),(52:UInt8)] } (1000:Int) false (0:Int) (0:Int) (840:Int) (0:Int) []) (1:Int) { data:=#[(48:UInt8),(49:UInt8),(50:UInt8),
  (51:UInt8),(52:UInt8)] } (1000:Int) (0:Int))=(0:Int))&&(decide (zI (apE (setO (setO [] (1:Int) { data:=#[(48:UInt8),(49:UInt8),(50:UInt8),(51:UInt8),
  (52:UInt8)] } (0:Int) false (0:Int) (840:Int) (0:Int) (0:Int) [[AV.int IntKind.i64 (1:Int),AV.int IntKind.i64 (3:Int)]]) (1:Int) { data:=#[(48:UInt8),(49 :
  UInt8),(50:UInt8),(51:UInt8),(52:UInt8)] } (1000:Int) false (0:Int) (0:Int) (840:Int) (0:Int) []) (1:Int) { data:=#[(48:UInt8),(49:UInt8),(50:UInt8),
  (51:UInt8),(52:UInt8)] } (1000:Int) (0:Int) (0:Int) (0:Int) (0:Int) [[AV.int IntKind.i64 (1:Int),AV.int IntKind.i64 (10132:Int)]]) (apX (4:Nat) (setO (setO []
  (1:Int) { data:=#[(48:UInt8),(49:UInt8),(50:UInt8),(51:UInt8),(52:UInt8)] } (0:Int) false (0:Int) (840:Int) (0:Int) (0:Int) [[AV.int IntKind.i64 (1 :
  Int),AV.int IntKind.i64 (3:Int)]]) (1:Int) { data:=#[(48:UInt8),(49:UInt8),(50:UInt8),(51:UInt8),(52:UInt8)] } (1000:Int) false (0:Int) (0:Int) (840 :
  Int) (0:Int) []) (1:Int) { data:=#[(48:UInt8),(49:UInt8),(50:UInt8),(51:UInt8),(52:UInt8)] } (1000:Int) (0:Int))=(840:Int))&&(decide (zI (apE (setO
  (setO [] (1:Int) { data:=#[(48:UInt8),(49:UInt8),(50:UInt8),(51:UInt8),(52:UInt8)] } (0:Int) false (0:Int) (840:Int) (0:Int) (0:Int) [[AV.int
  IntKind.i64 (1:Int),AV.int IntKind.i64 (3:Int)]]) (1:Int) { data:=#[(48:UInt8),(49:UInt8),(50:UInt8),(51:UInt8),(52:UInt8)] } (1000:Int) false (0:Int) (0
 :Int) (840:Int) (0:Int) []) (1:Int) { data:=#[(48:UInt8),(49:UInt8),(50:UInt8),(51:UInt8),(52:UInt8)] } (1000:Int) (0:Int) (0:Int) (0:Int) (0:Int)
  [[AV.int IntKind.i64 (1:Int),AV.int IntKind.i64 (10132:Int)]]) (apX (5:Nat) (setO (setO [] (1:Int) { data:=#[(48:UInt8),(49:UInt8),(50:UInt8),(51:UInt8),(52
 :UInt8)] } (0:Int) false (0:Int) (840:Int) (0:Int) (0:Int) [[AV.int IntKind.i64 (1:Int),AV.int IntKind.i64 (3:Int)]]) (1:Int) { data:=#[(48:UInt8),(49 :
  UInt8),(50:UInt8),(51:UInt8),(52:UInt8)] } (1000:Int) false (0:Int) (0:Int) (840:Int) (0:Int) []) (1:Int) { data:=#[(48:UInt8),(49:UInt8),(50:UInt8),
  (51:UInt8),(52:UInt8)] } (1000:Int) (0:Int))=(0:Int))&&true))) then bif decide ((0:Int)≤(0:Int)∧(0:Int) < (↑(List.length (zS (apE (setO (setO [] (1:Int)
  { data:=#[(48:UInt8),(49:UInt8),(50:UInt8),(51:UInt8),(52:UInt8)] } (0:Int) false (0:Int) (840:Int) (0:Int) (0:Int) [[AV.int IntKind.i64 (1:Int),AV.int
  IntKind.i64 (3:Int)]]) (1:Int) { data:=#[(48:UInt8),(49:UInt8),(50:UInt8),(51:UInt8),(52:UInt8)] } (1000:Int) false (0:Int) (0:Int) (840:Int) (0:Int)
  []) (1:Int) { data:=#[(48:UInt8),(49:UInt8),(50:UInt8),(51:UInt8),(52:UInt8)] } (1000:Int) (0:Int) (0:Int) (0:Int) (0:Int) [[AV.int IntKind.i64 (1 :
  Int),AV.int IntKind.i64 (10132:Int)]]) (unb [[AV.int IntKind.i64 (1:Int),AV.int IntKind.i64 (10132:Int)]] (pB (apP (setO (setO [] (1:Int) { data:=#[(48:UInt8),(49 :
  UInt8),(50:UInt8),(51:UInt8),(52:UInt8)] } (0:Int) false (0:Int) (840:Int) (0:Int) (0:Int) [[AV.int IntKind.i64 (1:Int),AV.int IntKind.i64 (3:Int)]]) (1 :
  Int) { data:=#[(48:UInt8),(49:UInt8),(50:UInt8),(51:UInt8),(52:UInt8)] } (1000:Int) false (0:Int) (0:Int) (840:Int) (0:Int) []) { data:=#[(48:UInt8),
  (49:UInt8),(50:UInt8),(51:UInt8),(52:UInt8)] } (1000:Int)))))):Int)) then ∃ n,List.take [AV.int IntKind.i64 n].length (List.drop (1:Nat) (List.getD (zS (apE (setO
  (setO [] (1:Int) { data:=#[(48:UInt8),(49:UInt8),(50:UInt8),(51:UInt8),(52:UInt8)] } (0:Int) false (0:Int) (840:Int) (0:Int) (0:Int) [[AV.int
  IntKind.i64 (1:Int),AV.int IntKind.i64 (3:Int)]]) (1:Int) { data:=#[(48:UInt8),(49:UInt8),(50:UInt8),(51:UInt8),(52:UInt8)] } (1000:Int) false (0:Int) (0
 :Int) (840:Int) (0:Int) []) (1:Int) { data:=#[(48:UInt8),(49:UInt8),(50:UInt8),(51:UInt8),(52:UInt8)] } (1000:Int) (0:Int) (0:Int) (0:Int) (0:Int)
  [[AV.int IntKind.i64 (1:Int),AV.int IntKind.i64 (10132:Int)]]) (unb [[AV.int IntKind.i64 (1:Int),AV.int IntKind.i64 (10132:Int)]] (pB (apP (setO (setO [] (1:Int) { data
 :=#[(48:UInt8),(49:UInt8),(50:UInt8),(51:UInt8),(52:UInt8)] } (0:Int) false (0:Int) (840:Int) (0:Int) (0:Int) [[AV.int IntKind.i64 (1:Int),AV.int
  IntKind.i64 (3:Int)]]) (1:Int) { data:=#[(48:UInt8),(49:UInt8),(50:UInt8),(51:UInt8),(52:UInt8)] } (1000:Int) false (0:Int) (0:Int) (840:Int) (0:Int)
  []) { data:=#[(48:UInt8),(49:UInt8),(50:UInt8),(51:UInt8),(52:UInt8)] } (1000:Int))))) (0:Nat) []))=[AV.int IntKind.i64 n]∧decide (n=(10132:Int))=true
  else False else false=true else false=true else False else false=true else false=true else false=true
theorem lawake_P:lawake_T apE apX apP zI zS unb pB rgV stN stH pI pC atR atB exK vdE isN zN:=by
 unfold lawake_T
 rw [aw_e1,aw_e2]
 exact ⟨⟨sts_nil,rds_lit1 (by decide) (by decide),by decide⟩,⟨aw_s1,rdsP_nil,by decide⟩,⟨aw_s2,rds_lit1 (by decide) (by decide),by decide⟩,⟨aw_s2,rds_lit1 (by decide) (by decide),by decide⟩,
  c1 (by kernel_rfl) (c1 (by kernel_rfl) (c1 (by kernel_rfl) (c1 (by kernel_rfl) ⟨10129,by kernel_rfl,c1 (by kernel_rfl) (c1 (by kernel_rfl) (c1 (by kernel_rfl) ⟨10132,by kernel_rfl,by kernel_rfl⟩))⟩)))⟩
def lawake_S (apE:LLR→Int→ByteArray→Int→Int→Int→Int→Int→LLR→Int) (apX:Nat→LLR→Int→ByteArray→Int→Int→Int) (apP:LLR→ByteArray→Int→List AV) (zI:Int→Int→Int) (zS:Int→LLR→LLR) (unb:LLR→LLR→LLR) (pB:List AV→LLR) (rgV:LLR→Int) (stN:LLR→ByteArray→Nat) (stH:LLR→ByteArray→Bool) (pI:Nat→List AV→Int) (pC:List AV→Bool) (atR:LLR→Int→List AV) (atB:LLR→Int→Bool) (exK:Int→Bool) (vdE:LLR→Int) (isN:Int→Int→Int→Int→Bool) (zN:Int→ByteArray→ByteArray):Prop:=fnK Tryz.prog { glob:=glb,spec:=lk [(26,gset_s),(16,(gApply_s rgV stN stH pI pC pB atR atB exK vdE isN unb zI zN zS apE apX apP))],specH:=lk [],shape:=[66,80],nowf:=true,nls:=[(24,0,3),(49,6,2)],bst:=[49,29] } { nt:=83,drop:=drp [(1,261632),(2,33292288),(3,234881024),(4,16911433728),(5,17179869184),(6,2164663517184),(7,9671406556914834374393856)],tys:=[26] } (fun _ _=>none) 6 Tryz.f9 [] (.bool true)
theorem lawake_e (apE:LLR→Int→ByteArray→Int→Int→Int→Int→Int→LLR→Int) (apX:Nat→LLR→Int→ByteArray→Int→Int→Int) (apP:LLR→ByteArray→Int→List AV) (zI:Int→Int→Int) (zS:Int→LLR→LLR) (unb:LLR→LLR→LLR) (pB:List AV→LLR) (rgV:LLR→Int) (stN:LLR→ByteArray→Nat) (stH:LLR→ByteArray→Bool) (pI:Nat→List AV→Int) (pC:List AV→Bool) (atR:LLR→Int→List AV) (atB:LLR→Int→Bool) (exK:Int→Bool) (vdE:LLR→Int) (isN:Int→Int→Int→Int→Bool) (zN:Int→ByteArray→ByteArray):lawake_T apE apX apP zI zS unb pB rgV stN stH pI pC atR atB exK vdE isN zN=lawake_S apE apX apP zI zS unb pB rgV stN stH pI pC atR atB exK vdE isN zN:=by kernel_rfl
theorem lawake_v:lawake_S apE apX apP zI zS unb pB rgV stN stH pI pC atR atB exK vdE isN zN:=Eq.mp (lawake_e ..) (lawake_P)
theorem lawake_ok:SOK Tryz.prog glb 9 (lawake_s apE apX apP zI zS unb pB):=by
 refine ⟨fok Tryz.func9 (by kernel_rfl) (by kernel_rfl),?_⟩
 intro xs pre r h hp
 unfold lawake_s at h
 split at h
 ·simp only [Option.some.injEq,Prod.mk.injEq] at h
  obtain ⟨h1,h2⟩:=h
  subst h1 h2
  exact fnK_sound (tyOf (by kernel_rfl)) (by exact specOK rfl rfl ⟨(gset_ok),(gApply_ok),trivial⟩ trivial) (by kernel_rfl) Tryz.func9 rfl (lawake_v  )
 ·cases h
end Go.Proofs.YtldiagnbagpliaaGreatDoor
namespace Go.Proofs.YtldiagnbagpliaaGreatDoor
open Go
set_option linter.unusedVariables false
set_option linter.unusedSimpArgs false
structure RfdP (code:Int) (xs:List (List AV)) (i:Int):Prop where
 flo:0≤i
 fhi:i≤xs.length
 fno:∀ j:Nat,(j:Int) < i→cdP code (xs.getD j [])=false
def rfdL (f:Bool) (xs:List (List AV)) (code:Int):LInv:=⟨Int,fun i=>⟨[(0,.sl 2 f xs),(1,.int .i64 code),(6,.int .i64 i)],[]⟩,RfdP code xs,fun i=>(xs.length - i).toNat,none⟩
def rfind_s:Sp
 | [.sl 2 f xs,.int .i64 code]=>some (RdsP xs,.tup [.int .i64 (fdV xs code),.bool (fdB xs code)])
 | _=>none
def rfind_T:Prop :=
 ∀ (gl:Glob) (f:Bool) (xs:List (List AV)) (code:Int),RdsP xs→True→(-9223372036854775808:Int)≤code∧code≤(9223372036854775807:Int)→(∃ x,RfdP code xs x ∧
 (((bif f then f=true else True)∧xs=xs)∧code=code∧(0:Int)=x∧True)∧True)∧∀ (x:Int),RfdP code xs x→bif decide (x < (↑xs.length:Int)) then bif decide ((0 :
 Int)≤x∧x < (↑xs.length:Int)) then ∃ n,List.take [AV.int IntKind.i64 n].length (List.drop (0:Nat) (xs.getD x.toNat []))=[AV.int IntKind.i64 n]∧bif decide (n=code)
 then bif decide ((0:Int)≤x∧x < (↑xs.length:Int)) then ∃ n,List.take [AV.int IntKind.i64 n].length (List.drop (1:Nat) (xs.getD x.toNat []))=[AV.int IntKind.i64 n]∧n =
 fdV xs code∧true=fdB xs code∧True else False else bif decide (rng IntKind.i64 (x+(1:Int))) then ∃ y,RfdP code xs y∧(rfdL f xs code).m y < (rfdL f xs code).m x∧(((bif
 f then f=true else True)∧xs=xs)∧code=code∧x+(1:Int)=y∧True)∧True else False else False else (0:Int)=fdV xs code∧false=fdB xs code∧True
theorem rfind_P:rfind_T:=by
 unfold rfind_T
 intro gl f xs code hr _ _
 have hs:=hr.sm
 have bf:cond f (f=true) True:=by cases f <;> trivial
 refine ⟨⟨0,⟨by decide,by omega,fun j h=>by omega⟩,⟨⟨bf,rfl⟩,rfl,rfl,trivial⟩,trivial⟩,?_⟩
 rintro i ⟨h0,h1,hn⟩
 refine csx (fun hl=>?_) (fun hl=>?_)
 ·obtain ⟨e,v,he,_⟩:=hr.row i.toNat (by omega)
  have e1:rE (xs.getD i.toNat [])=e:=by rw [he]; rfl
  have e2:rV (xs.getD i.toNat [])=v:=by rw [he]; rfl
  refine cd1 (by omega) ⟨e,by rw [he]; rfl,csx (fun q=>?_) (fun q=>?_)⟩
  ·refine cd1 (by omega) ⟨v,by rw [he]; rfl,?_⟩
   have hc:cdI' code xs=i.toNat:=(idx_some (p:=cdP code) (xs:=xs) (i:=i.toNat) (by omega) (by unfold cdP; rw [e1]; exact decide_eq_true q) (fun j hj=>hn j (by omega))).symm
   have hb:fdB xs code=true:=by unfold fdB; rw [hc]; exact decide_eq_true (by omega)
   unfold fdV
   rw [hb,hc,if_pos rfl,Int.toNat_natCast,e2]
   exact ⟨rfl,rfl,trivial⟩
  ·refine cdI (by omega) ⟨i+1,⟨by omega,by omega,fun j hj=>?_⟩,by simp only [rfdL]; omega,⟨⟨bf,rfl⟩,rfl,rfl,trivial⟩,trivial⟩
   rcases Nat.lt_or_ge j i.toNat with k | k
   ·exact hn j (by omega)
   ·rw [show j=i.toNat by omega]; unfold cdP; rw [e1]; exact decide_eq_false q
 ·have hc:cdI' code xs=-1:=(idx_none fun j hj=>hn j (by omega)).symm
  have hb:fdB xs code=false:=by unfold fdB; rw [hc]; rfl
  unfold fdV
  rw [hb]
  exact ⟨rfl,rfl,trivial⟩
def rfind_S:Prop:=∀ (gl:Glob) (f:Bool) (xs:List (List AV)) (code:Int),RdsP xs→fnK Tryz.prog { glob:=gl,spec:=lk [],specH:=lk [],shape:=[17,24],nowf:=true } { nt:=25,drop:=drp [(2,896),(3,6144),(4,516096),(5,32505856)] } (invs [(2,rfdL f xs code)]) 6 Tryz.f21 [.sl 2 f xs,.int .i64 code] (.tup [.int .i64 (fdV xs code),.bool (fdB xs code)])
theorem rfind_e:rfind_T=rfind_S:=by kernel_rfl
theorem rfind_v:rfind_S:=Eq.mp (rfind_e ..) (rfind_P)
theorem rfind_ok (gl:Glob):SOK Tryz.prog gl 21 rfind_s:=by
 refine ⟨fok Tryz.func21 (by kernel_rfl) (by kernel_rfl),?_⟩
 intro xs pre r h hp
 unfold rfind_s at h
 split at h
 ·simp only [Option.some.injEq,Prod.mk.injEq] at h
  obtain ⟨h1,h2⟩:=h
  subst h1 h2
  exact fnK_sound tyNil (by exact specOK rfl rfl trivial trivial) (by kernel_rfl) Tryz.func21 rfl (rfind_v gl _ _ _ hp)
 ·cases h
def rsame_s (rdC:LLA→LLA→Int) (cmpI:Int→Int→Int) (cmpS:ByteArray→ByteArray→Int):Sp
 | [.agg [.int .i64 k,.str n,.int .i64 t,.int .i64 f,.int .i64 a,.int .i64 b,.int .i64 c,.sl 2 h rd],.agg [.int .i64 k2,.str n2,.int .i64 t2,.int .i64 f2,.int .i64 a2,.int .i64 b2,.int .i64 c2,.sl 2 h2 rd2]]=>some (RdsP rd∧RdsP rd2,.bool (decide (orI (cmpI k k2) (orI (cmpS n n2) (orI (cmpI t t2) (orI (cmpI f f2) (orI (cmpI a a2) (orI (cmpI b b2) (orI (cmpI c c2) (rdC rd rd2)))))))=0)))
 | _=>none
def rsame_T (rdC:LLA→LLA→Int) (cmpI:Int→Int→Int) (cmpS:ByteArray→ByteArray→Int):Prop :=
  ∀ (gl:Glob) (k t f a b c k2 t2 f2 a2 b2 c2:Int) (n n2:ByteArray) (rd rd2:List (List AV)) (h h2:Bool),RdsP rd∧RdsP rd2→((-9223372036854775808:Int)≤k∧k ≤
  (9223372036854775807:Int))∧n.size.le (9223372036854775807:Nat)∧((-9223372036854775808:Int)≤t∧t≤(9223372036854775807:Int))∧((-9223372036854775808:Int)≤f∧f
 ≤(9223372036854775807:Int))∧((-9223372036854775808:Int)≤a∧a≤(9223372036854775807:Int))∧((-9223372036854775808:Int)≤b∧b≤(9223372036854775807:Int)) ∧
  ((-9223372036854775808:Int)≤c∧c≤(9223372036854775807:Int))∧True∧True→((-9223372036854775808:Int)≤k2∧k2≤(9223372036854775807:Int))∧n2.size.le
  (9223372036854775807:Nat)∧((-9223372036854775808:Int)≤t2∧t2≤(9223372036854775807:Int))∧((-9223372036854775808:Int)≤f2∧f2≤(9223372036854775807:Int)) ∧
  ((-9223372036854775808:Int)≤a2∧a2≤(9223372036854775807:Int))∧((-9223372036854775808:Int)≤b2∧b2≤(9223372036854775807:Int))∧((-9223372036854775808:Int)≤c2
 ∧c2≤(9223372036854775807:Int))∧True∧True→(RdsP rd∧RdsP rd2)∧decide (orI (cmpI k k2) (orI (cmpS n n2) (orI (cmpI t t2) (orI (cmpI f f2) (orI (cmpI a a2) (orI (cmpI b
  b2) (orI (cmpI c c2) (rdC rd rd2)))))))=(0:Int))=decide (orI (cmpI k k2) (orI (cmpS n n2) (orI (cmpI t t2) (orI (cmpI f f2) (orI (cmpI a a2) (orI (cmpI b b2) (orI (cmpI c c2)
  (rdC rd rd2)))))))=(0:Int))
theorem rsame_P:rsame_T rdC cmpI cmpS:=by
 unfold rsame_T
 intro gl k t f a b c k2 t2 f2 a2 b2 c2 n n2 rd rd2 h h2 hp _ _
 exact ⟨hp,rfl⟩
def rsame_S (rdC:LLA→LLA→Int) (cmpI:Int→Int→Int) (cmpS:ByteArray→ByteArray→Int):Prop:=∀ (gl:Glob) (k t f a b c k2 t2 f2 a2 b2 c2:Int) (n n2:ByteArray) (rd rd2:List (List AV)) (h h2:Bool),RdsP rd∧RdsP rd2→fnK Tryz.prog { glob:=gl,spec:=lk [(54,(rcmp_s rdC cmpI cmpS))],specH:=lk [],nowf:=true } { nt:=9,drop:=drp [(1,480)] } (fun _ _=>none) 6 Tryz.f18 [.agg [.int .i64 k,.str n,.int .i64 t,.int .i64 f,.int .i64 a,.int .i64 b,.int .i64 c,.sl 2 h rd],.agg [.int .i64 k2,.str n2,.int .i64 t2,.int .i64 f2,.int .i64 a2,.int .i64 b2,.int .i64 c2,.sl 2 h2 rd2]] (.bool (decide (orI (cmpI k k2) (orI (cmpS n n2) (orI (cmpI t t2) (orI (cmpI f f2) (orI (cmpI a a2) (orI (cmpI b b2) (orI (cmpI c c2) (rdC rd rd2)))))))=0)))
theorem rsame_e (rdC:LLA→LLA→Int) (cmpI:Int→Int→Int) (cmpS:ByteArray→ByteArray→Int):rsame_T rdC cmpI cmpS=rsame_S rdC cmpI cmpS:=by kernel_rfl
theorem rsame_v:rsame_S rdC cmpI cmpS:=Eq.mp (rsame_e ..) (rsame_P)
theorem rsame_ok (gl:Glob):SOK Tryz.prog gl 18 (rsame_s rdC cmpI cmpS):=by
 refine ⟨fok Tryz.func18 (by kernel_rfl) (by kernel_rfl),?_⟩
 intro xs pre r h hp
 unfold rsame_s at h
 split at h
 ·simp only [Option.some.injEq,Prod.mk.injEq] at h
  obtain ⟨h1,h2⟩:=h
  subst h1 h2
  exact fnK_sound tyNil (by exact specOK rfl rfl ⟨(rcmp_ok gl),trivial⟩ trivial) (by kernel_rfl) Tryz.func18 rfl (rsame_v gl _ _ _ _ _ _ _ _ _ _ _ _ _ _ _ _ _ _ hp)
 ·cases h
theorem or_same (k t f a b c:Int) (n:ByteArray) (rd:LLA):orI (cmpI k k) (orI (cmpS n n) (orI (cmpI t t) (orI (cmpI f f) (orI (cmpI a a) (orI (cmpI b b) (orI (cmpI c c) (rdC rd rd)))))))=0:=by
 have hc:∀ z:Int,cmpI z z=0:=fun z=>by unfold cmpI; simp
 have hs:cmpS n n=0:=by rw [← lex_nm0]; exact lexI_rfl _
 have hr:rdC rd rd=0:=lexI_rfl _
 rw [hc,hc,hc,hc,hc,hc,hs,hr]
 rfl
theorem StsW.p {l:LLR} {q m:Nat} (h:StsW l q m) (hm:m≤1000000):StsP l:=⟨fun i hi=>by obtain ⟨k,nm,ps,hr,hp,_⟩:=h.fr i hi; exact ⟨k,nm,ps,hr,hp⟩,Nat.le_trans h.fl hm⟩
theorem RdV.p {ys:LLR} (h:RdV 12 ys):RdsP ys∧ys.length≤11:=by
 have hl:=h.flen
 refine ⟨⟨fun i hi=>?_,by omega⟩,by omega⟩
 obtain ⟨e,v,h1,h2,h3,h4⟩:=h.frow i hi
 have hb:=in_bd (c:=e) (by omega)
 refine ⟨e,v,h1,?_,?_⟩ <;> (show _∧_; omega)
theorem ap_zero {l:LLR} {k:Int} {n:ByteArray} {t f a b c:Int} {rd:LLR} (h:apE l k n t f a b c rd=0):rgV l=0∧vdE rd=0∧¬ (k=1∧apI l n t=false):=by
 unfold apE at h
 split at h
 ·rename_i q; exact absurd h q
 ·rename_i q1
  split at h
  ·cases h
  ·split at h
   ·rename_i q; exact absurd h q
   ·rename_i q3
    split at h
    ·cases h
    ·rename_i q4
     exact ⟨Decidable.not_not.1 q1,Decidable.not_not.1 q3,q4⟩
theorem at_err {l:LLR} {n:ByteArray} {t:Int} (h0:rgV l=0) (h:atE l n t≠0):apI l n t=false∧apP l n t=pzR:=by
 have h1:apI l n t=false:=by
  cases q:apI l n t with
  | false=>rfl
  | true=>exact absurd (by unfold atE; rw [if_neg (fun z=>z h0),q]; rfl) h
 refine ⟨h1,?_⟩
 unfold apP
 split
 ·rename_i hs
  unfold atR
  have:atB (sPs (l.getD (stN l n) [])) t=false:=by
   unfold apI at h1
   rw [hs,Bool.true_and] at h1; exact h1
  rw [if_neg (by rw [this]; decide)]
 ·rfl
theorem ap_bias {l:LLR} (hl:StsP l) (n:ByteArray) (t:Int):RdsP (pB (apP l n t)):=by
 unfold apP
 split
 ·rename_i h
  obtain ⟨k,nm,ps,hr,hp⟩:=hl.fr (stN l n) (stH_lt h)
  rw [hr]
  exact at_bias hp
 ·exact rdsP_nil
theorem unb_rds {ys bs:LLR} (hy:RdsP ys):RdsP (unb ys bs):=by
 refine ⟨fun i hi=>?_,Nat.le_trans (unb_len _ _) hy.sm⟩
 rw [gD_lt hi]
 obtain ⟨q,hq,e,_⟩:=unb_mem.1 (List.getElem_mem hi)
 obtain ⟨j,hj,ej⟩:=List.mem_iff_getElem.1 hq
 obtain ⟨a,b,e1,e2,_⟩:=hy.row j hj
 rw [gD_lt hj,ej] at e1
 subst e1
 exact ⟨_,_,e.symm,e2,wrap_rng _ _⟩
theorem apX_1 (i:Nat) (l:LLR) (n:ByteArray) (t x:Int):apX i l 1 n t x=pI i (apP l n t):=if_pos rfl
theorem apX_n {k:Int} (h:¬ k=1) (i:Nat) (l:LLR) (n:ByteArray) (t x:Int):apX i l k n t x=x:=if_neg h
structure CbP (c:Int):Prop where
 flo:1≤c
 fhi:c≤12
def cbL (u v p:List AV):LInv:=⟨Int,fun c=>⟨[(6,.ptr 6 0),(7,.ptr 7 0),(9,.ptr 9 0),(11,.int .i64 c)],[(6,.cells u),(7,.cells v),(9,.cells p)]⟩,CbP,fun c=>(12 - c).toNat,none⟩
structure PfP (l:LLR) (k:Int) (nm:ByteArray) (t:Int) (x:Int × Bool × Int × Int × Int × Int × LLR):Prop where
 fb:x.2.2.2.2.2.2=pB (apP l nm t)
 fk:k=1→x.2.2.1=pI 2 (apP l nm t)∧x.2.2.2.1=pI 3 (apP l nm t)∧x.2.2.2.2.1=pI 4 (apP l nm t)∧x.2.2.2.2.2.1=pI 5 (apP l nm t)
def cb11 (l:LLR) (k:Int) (nm:ByteArray) (t:Int) (u v:List AV):LInv:=⟨Int × Bool × Int × Int × Int × Int × LLR,fun x=>⟨[(6,.ptr 6 0),(7,.ptr 7 0),(9,.ptr 9 0)],[(6,.cells u),(7,.cells v),(9,.cells [.int .i64 x.1,.bool x.2.1,.int .i64 x.2.2.1,.int .i64 x.2.2.2.1,.int .i64 x.2.2.2.2.1,.int .i64 x.2.2.2.2.2.1,.sl 2 false x.2.2.2.2.2.2])]⟩,PfP l k nm t,fun _=>0,none⟩
structure OneU (x:Unit):Prop where
 fx:x=()
def cb15 (c:AV) (u v p:List AV):LInv:=⟨Unit,fun _=>⟨[(6,.ptr 6 0),(7,.ptr 7 0),(9,.ptr 9 0),(11,c)],[(6,.cells u),(7,.cells v),(9,.cells p)]⟩,OneU,fun _=>0,none⟩
def cbJ (id:Nat) (st:St):Option LInv:=cond (Nat.beq id 14) (match lk st.heap 6,lk st.heap 7,lk st.heap 9 with
 | some (.cells u),some (.cells v),some (.cells p)=>some (cbL u v p)
 | _,_,_=>none) (cond (Nat.beq id 100015) (match lk st.tmps 11,lk st.heap 6,lk st.heap 7,lk st.heap 9 with
 | some c,some (.cells u),some (.cells v),some (.cells p)=>some (cb15 c u v p)
 | _,_,_,_=>none) (cond (Nat.beq id 100011) (match lk st.heap 5,lk st.heap 6,lk st.heap 7 with
 | some (.cells [.sl _ _ l]),some (.cells [.int _ k,.str nm,.int _ t,f,a,b,c,ys]),some (.cells v)=>some (cb11 l k nm t [.int .i64 k,.str nm,.int .i64 t,f,a,b,c,ys] v)
 | _,_,_=>none) none))
theorem zI0 (x:Int):zI 0 x=x:=if_pos rfl
theorem zN0 (x:ByteArray):zN 0 x=x:=if_pos rfl
theorem zS0 (x:LLR):zS 0 x=x:=if_pos rfl
theorem zI_e {e:Int} (h:e≠0) (x:Int):zI e x=0:=if_neg h
theorem zN_e {e:Int} (h:e≠0) (x:ByteArray):zN e x=⟨#[]⟩:=if_neg h
theorem zS_e {e:Int} (h:e≠0) (x:LLR):zS e x=[]:=if_neg h
def lbias_s (apE:LLR→Int→ByteArray→Int→Int→Int→Int→Int→LLR→Int) (apX:Nat→LLR→Int→ByteArray→Int→Int→Int) (apP:LLR→ByteArray→Int→List AV) (zI:Int→Int→Int) (zN:Int→ByteArray→ByteArray) (zS:Int→LLR→LLR) (unb:LLR→LLR→LLR) (pB:List AV→LLR) (pI:Nat→List AV→Int) (pC:List AV→Bool) (atZ:LLR→ByteArray→Int→List AV) (atE:LLR→ByteArray→Int→Int) (fdV:LLR→Int→Int) (fdB:LLR→Int→Bool) (vdE:LLR→Int) (rdC:LLR→LLR→Int) (cmpI:Int→Int→Int) (cmpS:ByteArray→ByteArray→Int):Sp
 | [.sl 1 false xs]=>some (IntsA xs,.bool true)
 | _=>none
def lbias_T (apE:LLR→Int→ByteArray→Int→Int→Int→Int→Int→LLR→Int) (apX:Nat→LLR→Int→ByteArray→Int→Int→Int) (apP:LLR→ByteArray→Int→List AV) (zI:Int→Int→Int) (zN:Int→ByteArray→ByteArray) (zS:Int→LLR→LLR) (unb:LLR→LLR→LLR) (pB:List AV→LLR) (pI:Nat→List AV→Int) (pC:List AV→Bool) (atZ:LLR→ByteArray→Int→List AV) (atE:LLR→ByteArray→Int→Int) (fdV:LLR→Int→Int) (fdB:LLR→Int→Bool) (vdE:LLR→Int) (rdC:LLR→LLR→Int) (cmpI:Int→Int→Int) (cmpS:ByteArray→ByteArray→Int) (rgV:LLR→Int) (stN:LLR→ByteArray→Nat) (stH:LLR→ByteArray→Bool) (atR:LLR→Int→List AV) (atB:LLR→Int→Bool) (exK:Int→Bool) (isN:Int→Int→Int→Int→Bool):Prop :=
  ∀ (xs:List (List AV)),(∀ (x:List AV),List.Mem x xs→∃ n,x=[AV.int IntKind.i64 n]∧rng IntKind.i64 n)→True→True∧SrcQ (List.take (2000:Nat) xs) (0:Int)∧∀ (m j
 :Int),MinQ m j→(SrcQ (List.take (2000:Nat) xs) j∧(0:Int)≤m∧m≤(52595999:Int))∧∀ (l:List (List AV)) (j:Int),RegQ l j→(SrcQ (List.take (2000:Nat) xs) j ∧
  (0:Int)≤m∧m≤(52595999:Int))∧∀ (k:Int) (nm:ByteArray) (t f a b c:Int) (ys:List (List AV)) (j:Int),RepQ k nm t f a b c ys j→(StsP l∧RdsP ys∧ys.length ≤
  (1000:Nat))∧bif decide ¬apE l k nm t f a b c ys=(0:Int) then (RdsP (zS (apE l k nm t f a b c ys) (unb ys (pB (apP l nm t))))∧RdsP [])∧bif decide (orI (cmpI (zI (apE l k
  nm t f a b c ys) k) (0:Int)) (orI (cmpS (zN (apE l k nm t f a b c ys) nm) (⟨#[]⟩:ByteArray)) (orI (cmpI (zI (apE l k nm t f a b c ys) t) (0:Int)) (orI (cmpI (zI (apE l k nm t f a
  b c ys) (apX (2:Nat) l k nm t f)) (0:Int)) (orI (cmpI (zI (apE l k nm t f a b c ys) (apX (3:Nat) l k nm t a)) (0:Int)) (orI (cmpI (zI (apE l k nm t f a b c ys) (apX (4 :
  Nat) l k nm t b)) (0:Int)) (orI (cmpI (zI (apE l k nm t f a b c ys) (apX (5:Nat) l k nm t c)) (0:Int)) (rdC (zS (apE l k nm t f a b c ys) (unb ys (pB (apP l nm t))))
  [])))))))=(0:Int)) then True∧true=true else false=true else StsP l∧(bif decide ¬atE l nm t=(0:Int) then ∃ x,PfP l k nm t x∧((0:Nat)=(0:Nat)∧(0:Nat) =
  (0:Nat)∧(0:Nat)=(0:Nat)∧True)∧(k=k∧nm=nm∧t=t∧f=f∧a=a∧b=b∧c=c∧(True∧ys=ys)∧True)∧(zI (apE l k nm t f a b c ys) k=zI (apE l k nm t
  f a b c ys) k∧zN (apE l k nm t f a b c ys) nm=zN (apE l k nm t f a b c ys) nm∧zI (apE l k nm t f a b c ys) t=zI (apE l k nm t f a b c ys) t∧zI (apE l k nm t f a b c ys)
  (apX (2:Nat) l k nm t f)=zI (apE l k nm t f a b c ys) (apX (2:Nat) l k nm t f)∧zI (apE l k nm t f a b c ys) (apX (3:Nat) l k nm t a)=zI (apE l k nm t f a b c ys) (apX
  (3:Nat) l k nm t a)∧zI (apE l k nm t f a b c ys) (apX (4:Nat) l k nm t b)=zI (apE l k nm t f a b c ys) (apX (4:Nat) l k nm t b)∧zI (apE l k nm t f a b c ys) (apX (5 :
  Nat) l k nm t c)=zI (apE l k nm t f a b c ys) (apX (5:Nat) l k nm t c)∧(True∧zS (apE l k nm t f a b c ys) (unb ys (pB (apP l nm t)))=zS (apE l k nm t f a b c ys) (unb ys
  (pB (apP l nm t))))∧True)∧((0:Int)=x.fst∧false=x.snd.fst∧(0:Int)=x.snd.snd.fst∧(0:Int)=x.snd.snd.snd.fst∧(0:Int)=x.snd.snd.snd.snd.fst∧(0:Int) =
  x.snd.snd.snd.snd.snd.fst∧(True∧[]=x.snd.snd.snd.snd.snd.snd)∧True)∧True else ∃ x,PfP l k nm t x∧((0:Nat)=(0:Nat)∧(0:Nat)=(0:Nat)∧(0:Nat)=(0:Nat)
 ∧True)∧(k=k∧nm=nm∧t=t∧f=f∧a=a∧b=b∧c=c∧(True∧ys=ys)∧True)∧(zI (apE l k nm t f a b c ys) k=zI (apE l k nm t f a b c ys) k∧zN (apE l k nm t
  f a b c ys) nm=zN (apE l k nm t f a b c ys) nm∧zI (apE l k nm t f a b c ys) t=zI (apE l k nm t f a b c ys) t∧zI (apE l k nm t f a b c ys) (apX (2:Nat) l k nm t f)=zI
  (apE l k nm t f a b c ys) (apX (2:Nat) l k nm t f)∧zI (apE l k nm t f a b c ys) (apX (3:Nat) l k nm t a)=zI (apE l k nm t f a b c ys) (apX (3:Nat) l k nm t a)∧zI (apE l
  k nm t f a b c ys) (apX (4:Nat) l k nm t b)=zI (apE l k nm t f a b c ys) (apX (4:Nat) l k nm t b)∧zI (apE l k nm t f a b c ys) (apX (5:Nat) l k nm t c)=zI (apE l k nm t
  f a b c ys) (apX (5:Nat) l k nm t c)∧(True∧zS (apE l k nm t f a b c ys) (unb ys (pB (apP l nm t)))=zS (apE l k nm t f a b c ys) (unb ys (pB (apP l nm t))))∧True)∧(pI (0
 :Nat) (atZ l nm t)=x.fst∧pC (atZ l nm t)=x.snd.fst∧pI (2:Nat) (atZ l nm t)=x.snd.snd.fst∧pI (3:Nat) (atZ l nm t)=x.snd.snd.snd.fst∧pI (4:Nat) (atZ l nm t) =
  x.snd.snd.snd.snd.fst∧pI (5:Nat) (atZ l nm t)=x.snd.snd.snd.snd.snd.fst∧(True∧pB (atZ l nm t)=x.snd.snd.snd.snd.snd.snd)∧True)∧True)∧∀ (x:Int × Bool × Int × Int
  × Int × Int × LLR),PfP l k nm t x→bif decide (k=(1:Int)) then bif !(decide (zI (apE l k nm t f a b c ys) (apX (2:Nat) l k nm t f)=x.snd.snd.fst)&&(decide (zI (apE l k
  nm t f a b c ys) (apX (3:Nat) l k nm t a)=x.snd.snd.snd.fst)&&(decide (zI (apE l k nm t f a b c ys) (apX (4:Nat) l k nm t b)=x.snd.snd.snd.snd.fst)&&(decide (zI (apE l
  k nm t f a b c ys) (apX (5:Nat) l k nm t c)=x.snd.snd.snd.snd.snd.fst)&&true)))) then false=true else bif decide ¬k=(1:Int) then bif !(decide (zI (apE l k nm t f a b c
  ys) (apX (2:Nat) l k nm t f)=f)&&(decide (zI (apE l k nm t f a b c ys) (apX (3:Nat) l k nm t a)=a)&&(decide (zI (apE l k nm t f a b c ys) (apX (4:Nat) l k nm t b) =
  b)&&(decide (zI (apE l k nm t f a b c ys) (apX (5:Nat) l k nm t c)=c)&&true)))) then false=true else bif decide ¬zI (apE l k nm t f a b c ys) k=k then false=true else
  bif !decide (zN (apE l k nm t f a b c ys) nm=nm) then false=true else bif decide ¬zI (apE l k nm t f a b c ys) t=t then false=true else RdsP (zS (apE l k nm t f a b c ys)
  (unb ys (pB (apP l nm t))))∧bif decide ¬vdE (zS (apE l k nm t f a b c ys) (unb ys (pB (apP l nm t))))=(0:Int) then false=true else (∃ x_1,CbP x_1∧((0:Nat)=(0:Nat)
 ∧(0:Nat)=(0:Nat)∧(0:Nat)=(0:Nat)∧(1:Int)=x_1∧True)∧(k=k∧nm=nm∧t=t∧f=f∧a=a∧b=b∧c=c∧(True∧ys=ys)∧True)∧(zI (apE l k nm t
  f a b c ys) k=zI (apE l k nm t f a b c ys) k∧zN (apE l k nm t f a b c ys) nm=zN (apE l k nm t f a b c ys) nm∧zI (apE l k nm t f a b c ys) t=zI (apE l k nm t f a b c ys) t
 ∧zI (apE l k nm t f a b c ys) (apX (2:Nat) l k nm t f)=zI (apE l k nm t f a b c ys) (apX (2:Nat) l k nm t f)∧zI (apE l k nm t f a b c ys) (apX (3:Nat) l k nm t a)=zI
  (apE l k nm t f a b c ys) (apX (3:Nat) l k nm t a)∧zI (apE l k nm t f a b c ys) (apX (4:Nat) l k nm t b)=zI (apE l k nm t f a b c ys) (apX (4:Nat) l k nm t b)∧zI (apE l
  k nm t f a b c ys) (apX (5:Nat) l k nm t c)=zI (apE l k nm t f a b c ys) (apX (5:Nat) l k nm t c)∧(True∧zS (apE l k nm t f a b c ys) (unb ys (pB (apP l nm t)))=zS (apE
  l k nm t f a b c ys) (unb ys (pB (apP l nm t))))∧True)∧(x.fst=x.fst∧x.snd.fst=x.snd.fst∧x.snd.snd.fst=x.snd.snd.fst∧x.snd.snd.snd.fst=x.snd.snd.snd.fst ∧
  x.snd.snd.snd.snd.fst=x.snd.snd.snd.snd.fst∧x.snd.snd.snd.snd.snd.fst=x.snd.snd.snd.snd.snd.fst∧(True∧x.snd.snd.snd.snd.snd.snd=x.snd.snd.snd.snd.snd.snd)∧True) ∧
  True)∧∀ (x_1:Int),CbP x_1→bif decide (x_1≤(11:Int)) then (RdsP ys∧RdsP (zS (apE l k nm t f a b c ys) (unb ys (pB (apP l nm t))))∧RdsP x.snd.snd.snd.snd.snd.snd∧bif
  YtldiagnbagpliaaGreatDoor.fdB (zS (apE l k nm t f a b c ys) (unb ys (pB (apP l nm t)))) x_1 then bif !YtldiagnbagpliaaGreatDoor.fdB ys x_1 then false=true else bif decide
  ¬IntKind.i64.wrap (YtldiagnbagpliaaGreatDoor.fdV ys x_1 - YtldiagnbagpliaaGreatDoor.fdV x.snd.snd.snd.snd.snd.snd x_1)=YtldiagnbagpliaaGreatDoor.fdV (zS (apE l k nm t f a b c ys)
  (unb ys (pB (apP l nm t)))) x_1 then false=true else bif YtldiagnbagpliaaGreatDoor.fdB ys x_1 then bif !YtldiagnbagpliaaGreatDoor.fdB (zS (apE l k nm t f a b c ys) (unb ys (pB
  (apP l nm t)))) x_1 then bif !YtldiagnbagpliaaGreatDoor.fdB x.snd.snd.snd.snd.snd.snd x_1 then false=true else bif decide (YtldiagnbagpliaaGreatDoor.fdV x.snd.snd.snd.snd.snd.snd
  x_1=(0:Int)) then false=true else ∃ x_2,OneU x_2∧((0:Nat)=(0:Nat)∧(0:Nat)=(0:Nat)∧(0:Nat)=(0:Nat)∧x_1=x_1∧True)∧(k=k∧nm=nm∧t=t∧f
 =f∧a=a∧b=b∧c=c∧(True∧ys=ys)∧True)∧(zI (apE l k nm t f a b c ys) k=zI (apE l k nm t f a b c ys) k∧zN (apE l k nm t f a b c ys) nm=zN (apE l k nm t f a b
  c ys) nm∧zI (apE l k nm t f a b c ys) t=zI (apE l k nm t f a b c ys) t∧zI (apE l k nm t f a b c ys) (apX (2:Nat) l k nm t f)=zI (apE l k nm t f a b c ys) (apX (2:Nat) l
  k nm t f)∧zI (apE l k nm t f a b c ys) (apX (3:Nat) l k nm t a)=zI (apE l k nm t f a b c ys) (apX (3:Nat) l k nm t a)∧zI (apE l k nm t f a b c ys) (apX (4:Nat) l k nm t
  b)=zI (apE l k nm t f a b c ys) (apX (4:Nat) l k nm t b)∧zI (apE l k nm t f a b c ys) (apX (5:Nat) l k nm t c)=zI (apE l k nm t f a b c ys) (apX (5:Nat) l k nm t c) ∧
  (True∧zS (apE l k nm t f a b c ys) (unb ys (pB (apP l nm t)))=zS (apE l k nm t f a b c ys) (unb ys (pB (apP l nm t))))∧True)∧(x.fst=x.fst∧x.snd.fst=x.snd.fst ∧
  x.snd.snd.fst=x.snd.snd.fst∧x.snd.snd.snd.fst=x.snd.snd.snd.fst∧x.snd.snd.snd.snd.fst=x.snd.snd.snd.snd.fst∧x.snd.snd.snd.snd.snd.fst=x.snd.snd.snd.snd.snd.fst ∧
  (True∧x.snd.snd.snd.snd.snd.snd=x.snd.snd.snd.snd.snd.snd)∧True)∧True else ∃ x_2,OneU x_2∧((0:Nat)=(0:Nat)∧(0:Nat)=(0:Nat)∧(0:Nat)=(0:Nat)∧x_1 =
  x_1∧True)∧(k=k∧nm=nm∧t=t∧f=f∧a=a∧b=b∧c=c∧(True∧ys=ys)∧True)∧(zI (apE l k nm t f a b c ys) k=zI (apE l k nm t f a b c ys) k∧zN (apE l k
  nm t f a b c ys) nm=zN (apE l k nm t f a b c ys) nm∧zI (apE l k nm t f a b c ys) t=zI (apE l k nm t f a b c ys) t∧zI (apE l k nm t f a b c ys) (apX (2:Nat) l k nm t f) =
  zI (apE l k nm t f a b c ys) (apX (2:Nat) l k nm t f)∧zI (apE l k nm t f a b c ys) (apX (3:Nat) l k nm t a)=zI (apE l k nm t f a b c ys) (apX (3:Nat) l k nm t a)∧zI
  (apE l k nm t f a b c ys) (apX (4:Nat) l k nm t b)=zI (apE l k nm t f a b c ys) (apX (4:Nat) l k nm t b)∧zI (apE l k nm t f a b c ys) (apX (5:Nat) l k nm t c)=zI (apE l
  k nm t f a b c ys) (apX (5:Nat) l k nm t c)∧(True∧zS (apE l k nm t f a b c ys) (unb ys (pB (apP l nm t)))=zS (apE l k nm t f a b c ys) (unb ys (pB (apP l nm t))))∧True) ∧
  (x.fst=x.fst∧x.snd.fst=x.snd.fst∧x.snd.snd.fst=x.snd.snd.fst∧x.snd.snd.snd.fst=x.snd.snd.snd.fst∧x.snd.snd.snd.snd.fst=x.snd.snd.snd.snd.fst ∧
  x.snd.snd.snd.snd.snd.fst=x.snd.snd.snd.snd.snd.fst∧(True∧x.snd.snd.snd.snd.snd.snd=x.snd.snd.snd.snd.snd.snd)∧True)∧True else ∃ x_2,OneU x_2∧((0:Nat)=(0:Nat)
 ∧(0:Nat)=(0:Nat)∧(0:Nat)=(0:Nat)∧x_1=x_1∧True)∧(k=k∧nm=nm∧t=t∧f=f∧a=a∧b=b∧c=c∧(True∧ys=ys)∧True)∧(zI (apE l k nm t f a b
  c ys) k=zI (apE l k nm t f a b c ys) k∧zN (apE l k nm t f a b c ys) nm=zN (apE l k nm t f a b c ys) nm∧zI (apE l k nm t f a b c ys) t=zI (apE l k nm t f a b c ys) t∧zI
  (apE l k nm t f a b c ys) (apX (2:Nat) l k nm t f)=zI (apE l k nm t f a b c ys) (apX (2:Nat) l k nm t f)∧zI (apE l k nm t f a b c ys) (apX (3:Nat) l k nm t a)=zI (apE l
  k nm t f a b c ys) (apX (3:Nat) l k nm t a)∧zI (apE l k nm t f a b c ys) (apX (4:Nat) l k nm t b)=zI (apE l k nm t f a b c ys) (apX (4:Nat) l k nm t b)∧zI (apE l k nm t
  f a b c ys) (apX (5:Nat) l k nm t c)=zI (apE l k nm t f a b c ys) (apX (5:Nat) l k nm t c)∧(True∧zS (apE l k nm t f a b c ys) (unb ys (pB (apP l nm t)))=zS (apE l k nm
  t f a b c ys) (unb ys (pB (apP l nm t))))∧True)∧(x.fst=x.fst∧x.snd.fst=x.snd.fst∧x.snd.snd.fst=x.snd.snd.fst∧x.snd.snd.snd.fst=x.snd.snd.snd.fst ∧
  x.snd.snd.snd.snd.fst=x.snd.snd.snd.snd.fst∧x.snd.snd.snd.snd.snd.fst=x.snd.snd.snd.snd.snd.fst∧(True∧x.snd.snd.snd.snd.snd.snd=x.snd.snd.snd.snd.snd.snd)∧True) ∧
  True else bif YtldiagnbagpliaaGreatDoor.fdB ys x_1 then bif !YtldiagnbagpliaaGreatDoor.fdB (zS (apE l k nm t f a b c ys) (unb ys (pB (apP l nm t)))) x_1 then bif
  !YtldiagnbagpliaaGreatDoor.fdB x.snd.snd.snd.snd.snd.snd x_1 then false=true else bif decide (YtldiagnbagpliaaGreatDoor.fdV x.snd.snd.snd.snd.snd.snd x_1=(0:Int)) then false
 =true else ∃ x_2,OneU x_2∧((0:Nat)=(0:Nat)∧(0:Nat)=(0:Nat)∧(0:Nat)=(0:Nat)∧x_1=x_1∧True)∧(k=k∧nm=nm∧t=t∧f=f∧a=a∧b=b∧c=c
 ∧(True∧ys=ys)∧True)∧(zI (apE l k nm t f a b c ys) k=zI (apE l k nm t f a b c ys) k∧zN (apE l k nm t f a b c ys) nm=zN (apE l k nm t f a b c ys) nm∧zI (apE l k nm t
  f a b c ys) t=zI (apE l k nm t f a b c ys) t∧zI (apE l k nm t f a b c ys) (apX (2:Nat) l k nm t f)=zI (apE l k nm t f a b c ys) (apX (2:Nat) l k nm t f)∧zI (apE l k nm
  t f a b c ys) (apX (3:Nat) l k nm t a)=zI (apE l k nm t f a b c ys) (apX (3:Nat) l k nm t a)∧zI (apE l k nm t f a b c ys) (apX (4:Nat) l k nm t b)=zI (apE l k nm t f a
  b c ys) (apX (4:Nat) l k nm t b)∧zI (apE l k nm t f a b c ys) (apX (5:Nat) l k nm t c)=zI (apE l k nm t f a b c ys) (apX (5:Nat) l k nm t c)∧(True∧zS (apE l k nm t f
  a b c ys) (unb ys (pB (apP l nm t)))=zS (apE l k nm t f a b c ys) (unb ys (pB (apP l nm t))))∧True)∧(x.fst=x.fst∧x.snd.fst=x.snd.fst∧x.snd.snd.fst=x.snd.snd.fst ∧
  x.snd.snd.snd.fst=x.snd.snd.snd.fst∧x.snd.snd.snd.snd.fst=x.snd.snd.snd.snd.fst∧x.snd.snd.snd.snd.snd.fst=x.snd.snd.snd.snd.snd.fst∧(True∧x.snd.snd.snd.snd.snd.snd =
  x.snd.snd.snd.snd.snd.snd)∧True)∧True else ∃ x_2,OneU x_2∧((0:Nat)=(0:Nat)∧(0:Nat)=(0:Nat)∧(0:Nat)=(0:Nat)∧x_1=x_1∧True)∧(k=k∧nm=nm∧t =
  t∧f=f∧a=a∧b=b∧c=c∧(True∧ys=ys)∧True)∧(zI (apE l k nm t f a b c ys) k=zI (apE l k nm t f a b c ys) k∧zN (apE l k nm t f a b c ys) nm=zN (apE l k nm t
  f a b c ys) nm∧zI (apE l k nm t f a b c ys) t=zI (apE l k nm t f a b c ys) t∧zI (apE l k nm t f a b c ys) (apX (2:Nat) l k nm t f)=zI (apE l k nm t f a b c ys) (apX (2 :
  Nat) l k nm t f)∧zI (apE l k nm t f a b c ys) (apX (3:Nat) l k nm t a)=zI (apE l k nm t f a b c ys) (apX (3:Nat) l k nm t a)∧zI (apE l k nm t f a b c ys) (apX (4:Nat) l
  k nm t b)=zI (apE l k nm t f a b c ys) (apX (4:Nat) l k nm t b)∧zI (apE l k nm t f a b c ys) (apX (5:Nat) l k nm t c)=zI (apE l k nm t f a b c ys) (apX (5:Nat) l k nm t
  c)∧(True∧zS (apE l k nm t f a b c ys) (unb ys (pB (apP l nm t)))=zS (apE l k nm t f a b c ys) (unb ys (pB (apP l nm t))))∧True)∧(x.fst=x.fst∧x.snd.fst=x.snd.fst ∧
  x.snd.snd.fst=x.snd.snd.fst∧x.snd.snd.snd.fst=x.snd.snd.snd.fst∧x.snd.snd.snd.snd.fst=x.snd.snd.snd.snd.fst∧x.snd.snd.snd.snd.snd.fst=x.snd.snd.snd.snd.snd.fst ∧
  (True∧x.snd.snd.snd.snd.snd.snd=x.snd.snd.snd.snd.snd.snd)∧True)∧True else ∃ x_2,OneU x_2∧((0:Nat)=(0:Nat)∧(0:Nat)=(0:Nat)∧(0:Nat)=(0:Nat)∧x_1 =
  x_1∧True)∧(k=k∧nm=nm∧t=t∧f=f∧a=a∧b=b∧c=c∧(True∧ys=ys)∧True)∧(zI (apE l k nm t f a b c ys) k=zI (apE l k nm t f a b c ys) k∧zN (apE l k
  nm t f a b c ys) nm=zN (apE l k nm t f a b c ys) nm∧zI (apE l k nm t f a b c ys) t=zI (apE l k nm t f a b c ys) t∧zI (apE l k nm t f a b c ys) (apX (2:Nat) l k nm t f) =
  zI (apE l k nm t f a b c ys) (apX (2:Nat) l k nm t f)∧zI (apE l k nm t f a b c ys) (apX (3:Nat) l k nm t a)=zI (apE l k nm t f a b c ys) (apX (3:Nat) l k nm t a)∧zI
  (apE l k nm t f a b c ys) (apX (4:Nat) l k nm t b)=zI (apE l k nm t f a b c ys) (apX (4:Nat) l k nm t b)∧zI (apE l k nm t f a b c ys) (apX (5:Nat) l k nm t c)=zI (apE l
  k nm t f a b c ys) (apX (5:Nat) l k nm t c)∧(True∧zS (apE l k nm t f a b c ys) (unb ys (pB (apP l nm t)))=zS (apE l k nm t f a b c ys) (unb ys (pB (apP l nm t))))∧True) ∧
  (x.fst=x.fst∧x.snd.fst=x.snd.fst∧x.snd.snd.fst=x.snd.snd.fst∧x.snd.snd.snd.fst=x.snd.snd.snd.fst∧x.snd.snd.snd.snd.fst=x.snd.snd.snd.snd.fst ∧
  x.snd.snd.snd.snd.snd.fst=x.snd.snd.snd.snd.snd.fst∧(True∧x.snd.snd.snd.snd.snd.snd=x.snd.snd.snd.snd.snd.snd)∧True)∧True)∧∀ (x_2:PUnit),OneU x_2→∃ y,CbP y ∧
  (cbL [AV.int IntKind.i64 k,AV.str nm,AV.int IntKind.i64 t,AV.int IntKind.i64 f,AV.int IntKind.i64 a,AV.int IntKind.i64 b,AV.int IntKind.i64 c,AV.sl (2:Nat) false ys]
  [AV.int IntKind.i64 (zI (apE l k nm t f a b c ys) k),AV.str (zN (apE l k nm t f a b c ys) nm),AV.int IntKind.i64 (zI (apE l k nm t f a b c ys) t),AV.int IntKind.i64 (zI (apE l k
  nm t f a b c ys) (apX (2:Nat) l k nm t f)),AV.int IntKind.i64 (zI (apE l k nm t f a b c ys) (apX (3:Nat) l k nm t a)),AV.int IntKind.i64 (zI (apE l k nm t f a b c ys) (apX (4
 :Nat) l k nm t b)),AV.int IntKind.i64 (zI (apE l k nm t f a b c ys) (apX (5:Nat) l k nm t c)),AV.sl (2:Nat) false (zS (apE l k nm t f a b c ys) (unb ys (pB (apP l nm t))))]
  [AV.int IntKind.i64 x.fst,AV.bool x.snd.fst,AV.int IntKind.i64 x.snd.snd.fst,AV.int IntKind.i64 x.snd.snd.snd.fst,AV.int IntKind.i64 x.snd.snd.snd.snd.fst,AV.int IntKind.i64
  x.snd.snd.snd.snd.snd.fst,AV.sl (2:Nat) false x.snd.snd.snd.snd.snd.snd]).m y < (cbL [AV.int IntKind.i64 k,AV.str nm,AV.int IntKind.i64 t,AV.int IntKind.i64 f,AV.int
  IntKind.i64 a,AV.int IntKind.i64 b,AV.int IntKind.i64 c,AV.sl (2:Nat) false ys] [AV.int IntKind.i64 (zI (apE l k nm t f a b c ys) k),AV.str (zN (apE l k nm t f a b c ys) nm),
  AV.int IntKind.i64 (zI (apE l k nm t f a b c ys) t),AV.int IntKind.i64 (zI (apE l k nm t f a b c ys) (apX (2:Nat) l k nm t f)),AV.int IntKind.i64 (zI (apE l k nm t f a b c ys)
  (apX (3:Nat) l k nm t a)),AV.int IntKind.i64 (zI (apE l k nm t f a b c ys) (apX (4:Nat) l k nm t b)),AV.int IntKind.i64 (zI (apE l k nm t f a b c ys) (apX (5:Nat) l k nm t
  c)),AV.sl (2:Nat) false (zS (apE l k nm t f a b c ys) (unb ys (pB (apP l nm t))))] [AV.int IntKind.i64 x.fst,AV.bool x.snd.fst,AV.int IntKind.i64 x.snd.snd.fst,AV.int
  IntKind.i64 x.snd.snd.snd.fst,AV.int IntKind.i64 x.snd.snd.snd.snd.fst,AV.int IntKind.i64 x.snd.snd.snd.snd.snd.fst,AV.sl (2:Nat) false x.snd.snd.snd.snd.snd.snd]).m x_1∧((0
 :Nat)=(0:Nat)∧(0:Nat)=(0:Nat)∧(0:Nat)=(0:Nat)∧IntKind.i64.wrap (x_1+(1:Int))=y∧True)∧(k=k∧nm=nm∧t=t∧f=f∧a=a∧b=b∧c=c ∧
  (True∧ys=ys)∧True)∧(zI (apE l k nm t f a b c ys) k=zI (apE l k nm t f a b c ys) k∧zN (apE l k nm t f a b c ys) nm=zN (apE l k nm t f a b c ys) nm∧zI (apE l k nm t f
  a b c ys) t=zI (apE l k nm t f a b c ys) t∧zI (apE l k nm t f a b c ys) (apX (2:Nat) l k nm t f)=zI (apE l k nm t f a b c ys) (apX (2:Nat) l k nm t f)∧zI (apE l k nm t
  f a b c ys) (apX (3:Nat) l k nm t a)=zI (apE l k nm t f a b c ys) (apX (3:Nat) l k nm t a)∧zI (apE l k nm t f a b c ys) (apX (4:Nat) l k nm t b)=zI (apE l k nm t f a b
  c ys) (apX (4:Nat) l k nm t b)∧zI (apE l k nm t f a b c ys) (apX (5:Nat) l k nm t c)=zI (apE l k nm t f a b c ys) (apX (5:Nat) l k nm t c)∧(True∧zS (apE l k nm t f a
  b c ys) (unb ys (pB (apP l nm t)))=zS (apE l k nm t f a b c ys) (unb ys (pB (apP l nm t))))∧True)∧(x.fst=x.fst∧x.snd.fst=x.snd.fst∧x.snd.snd.fst=x.snd.snd.fst ∧
  x.snd.snd.snd.fst=x.snd.snd.snd.fst∧x.snd.snd.snd.snd.fst=x.snd.snd.snd.snd.fst∧x.snd.snd.snd.snd.snd.fst=x.snd.snd.snd.snd.snd.fst∧(True∧x.snd.snd.snd.snd.snd.snd =
  x.snd.snd.snd.snd.snd.snd)∧True)∧True else True∧true=true else bif decide ¬zI (apE l k nm t f a b c ys) k=k then false=true else bif !decide (zN (apE l k nm t f a b c
  ys) nm=nm) then false=true else bif decide ¬zI (apE l k nm t f a b c ys) t=t then false=true else RdsP (zS (apE l k nm t f a b c ys) (unb ys (pB (apP l nm t))))∧bif
  decide ¬vdE (zS (apE l k nm t f a b c ys) (unb ys (pB (apP l nm t))))=(0:Int) then false=true else (∃ x_1,CbP x_1∧((0:Nat)=(0:Nat)∧(0:Nat)=(0:Nat)∧(0 :
  Nat)=(0:Nat)∧(1:Int)=x_1∧True)∧(k=k∧nm=nm∧t=t∧f=f∧a=a∧b=b∧c=c∧(True∧ys=ys)∧True)∧(zI (apE l k nm t f a b c ys) k=zI (apE l k nm
  t f a b c ys) k∧zN (apE l k nm t f a b c ys) nm=zN (apE l k nm t f a b c ys) nm∧zI (apE l k nm t f a b c ys) t=zI (apE l k nm t f a b c ys) t∧zI (apE l k nm t f a b c ys)
  (apX (2:Nat) l k nm t f)=zI (apE l k nm t f a b c ys) (apX (2:Nat) l k nm t f)∧zI (apE l k nm t f a b c ys) (apX (3:Nat) l k nm t a)=zI (apE l k nm t f a b c ys) (apX
  (3:Nat) l k nm t a)∧zI (apE l k nm t f a b c ys) (apX (4:Nat) l k nm t b)=zI (apE l k nm t f a b c ys) (apX (4:Nat) l k nm t b)∧zI (apE l k nm t f a b c ys) (apX (5 :
  Nat) l k nm t c)=zI (apE l k nm t f a b c ys) (apX (5:Nat) l k nm t c)∧(True∧zS (apE l k nm t f a b c ys) (unb ys (pB (apP l nm t)))=zS (apE l k nm t f a b c ys) (unb ys
  (pB (apP l nm t))))∧True)∧(x.fst=x.fst∧x.snd.fst=x.snd.fst∧x.snd.snd.fst=x.snd.snd.fst∧x.snd.snd.snd.fst=x.snd.snd.snd.fst∧x.snd.snd.snd.snd.fst =
  x.snd.snd.snd.snd.fst∧x.snd.snd.snd.snd.snd.fst=x.snd.snd.snd.snd.snd.fst∧(True∧x.snd.snd.snd.snd.snd.snd=x.snd.snd.snd.snd.snd.snd)∧True)∧True)∧∀ (x_1:Int),CbP
  x_1→bif decide (x_1≤(11:Int)) then (RdsP ys∧RdsP (zS (apE l k nm t f a b c ys) (unb ys (pB (apP l nm t))))∧RdsP x.snd.snd.snd.snd.snd.snd∧bif
  YtldiagnbagpliaaGreatDoor.fdB (zS (apE l k nm t f a b c ys) (unb ys (pB (apP l nm t)))) x_1 then bif !YtldiagnbagpliaaGreatDoor.fdB ys x_1 then false=true else bif decide
  ¬IntKind.i64.wrap (YtldiagnbagpliaaGreatDoor.fdV ys x_1 - YtldiagnbagpliaaGreatDoor.fdV x.snd.snd.snd.snd.snd.snd x_1)=YtldiagnbagpliaaGreatDoor.fdV (zS (apE l k nm t f a b c ys)
  (unb ys (pB (apP l nm t)))) x_1 then false=true else bif YtldiagnbagpliaaGreatDoor.fdB ys x_1 then bif !YtldiagnbagpliaaGreatDoor.fdB (zS (apE l k nm t f a b c ys) (unb ys (pB
  (apP l nm t)))) x_1 then bif !YtldiagnbagpliaaGreatDoor.fdB x.snd.snd.snd.snd.snd.snd x_1 then false=true else bif decide (YtldiagnbagpliaaGreatDoor.fdV x.snd.snd.snd.snd.snd.snd
  x_1=(0:Int)) then false=true else ∃ x_2,OneU x_2∧((0:Nat)=(0:Nat)∧(0:Nat)=(0:Nat)∧(0:Nat)=(0:Nat)∧x_1=x_1∧True)∧(k=k∧nm=nm∧t=t∧f
 =f∧a=a∧b=b∧c=c∧(True∧ys=ys)∧True)∧(zI (apE l k nm t f a b c ys) k=zI (apE l k nm t f a b c ys) k∧zN (apE l k nm t f a b c ys) nm=zN (apE l k nm t f a b
  c ys) nm∧zI (apE l k nm t f a b c ys) t=zI (apE l k nm t f a b c ys) t∧zI (apE l k nm t f a b c ys) (apX (2:Nat) l k nm t f)=zI (apE l k nm t f a b c ys) (apX (2:Nat) l
  k nm t f)∧zI (apE l k nm t f a b c ys) (apX (3:Nat) l k nm t a)=zI (apE l k nm t f a b c ys) (apX (3:Nat) l k nm t a)∧zI (apE l k nm t f a b c ys) (apX (4:Nat) l k nm t
  b)=zI (apE l k nm t f a b c ys) (apX (4:Nat) l k nm t b)∧zI (apE l k nm t f a b c ys) (apX (5:Nat) l k nm t c)=zI (apE l k nm t f a b c ys) (apX (5:Nat) l k nm t c) ∧
  (True∧zS (apE l k nm t f a b c ys) (unb ys (pB (apP l nm t)))=zS (apE l k nm t f a b c ys) (unb ys (pB (apP l nm t))))∧True)∧(x.fst=x.fst∧x.snd.fst=x.snd.fst ∧
  x.snd.snd.fst=x.snd.snd.fst∧x.snd.snd.snd.fst=x.snd.snd.snd.fst∧x.snd.snd.snd.snd.fst=x.snd.snd.snd.snd.fst∧x.snd.snd.snd.snd.snd.fst=x.snd.snd.snd.snd.snd.fst ∧
  (True∧x.snd.snd.snd.snd.snd.snd=x.snd.snd.snd.snd.snd.snd)∧True)∧True else ∃ x_2,OneU x_2∧((0:Nat)=(0:Nat)∧(0:Nat)=(0:Nat)∧(0:Nat)=(0:Nat)∧x_1 =
  x_1∧True)∧(k=k∧nm=nm∧t=t∧f=f∧a=a∧b=b∧c=c∧(True∧ys=ys)∧True)∧(zI (apE l k nm t f a b c ys) k=zI (apE l k nm t f a b c ys) k∧zN (apE l k
  nm t f a b c ys) nm=zN (apE l k nm t f a b c ys) nm∧zI (apE l k nm t f a b c ys) t=zI (apE l k nm t f a b c ys) t∧zI (apE l k nm t f a b c ys) (apX (2:Nat) l k nm t f) =
  zI (apE l k nm t f a b c ys) (apX (2:Nat) l k nm t f)∧zI (apE l k nm t f a b c ys) (apX (3:Nat) l k nm t a)=zI (apE l k nm t f a b c ys) (apX (3:Nat) l k nm t a)∧zI
  (apE l k nm t f a b c ys) (apX (4:Nat) l k nm t b)=zI (apE l k nm t f a b c ys) (apX (4:Nat) l k nm t b)∧zI (apE l k nm t f a b c ys) (apX (5:Nat) l k nm t c)=zI (apE l
  k nm t f a b c ys) (apX (5:Nat) l k nm t c)∧(True∧zS (apE l k nm t f a b c ys) (unb ys (pB (apP l nm t)))=zS (apE l k nm t f a b c ys) (unb ys (pB (apP l nm t))))∧True) ∧
  (x.fst=x.fst∧x.snd.fst=x.snd.fst∧x.snd.snd.fst=x.snd.snd.fst∧x.snd.snd.snd.fst=x.snd.snd.snd.fst∧x.snd.snd.snd.snd.fst=x.snd.snd.snd.snd.fst ∧
  x.snd.snd.snd.snd.snd.fst=x.snd.snd.snd.snd.snd.fst∧(True∧x.snd.snd.snd.snd.snd.snd=x.snd.snd.snd.snd.snd.snd)∧True)∧True else ∃ x_2,OneU x_2∧((0:Nat)=(0:Nat)
 ∧(0:Nat)=(0:Nat)∧(0:Nat)=(0:Nat)∧x_1=x_1∧True)∧(k=k∧nm=nm∧t=t∧f=f∧a=a∧b=b∧c=c∧(True∧ys=ys)∧True)∧(zI (apE l k nm t f a b
  c ys) k=zI (apE l k nm t f a b c ys) k∧zN (apE l k nm t f a b c ys) nm=zN (apE l k nm t f a b c ys) nm∧zI (apE l k nm t f a b c ys) t=zI (apE l k nm t f a b c ys) t∧zI
  (apE l k nm t f a b c ys) (apX (2:Nat) l k nm t f)=zI (apE l k nm t f a b c ys) (apX (2:Nat) l k nm t f)∧zI (apE l k nm t f a b c ys) (apX (3:Nat) l k nm t a)=zI (apE l
  k nm t f a b c ys) (apX (3:Nat) l k nm t a)∧zI (apE l k nm t f a b c ys) (apX (4:Nat) l k nm t b)=zI (apE l k nm t f a b c ys) (apX (4:Nat) l k nm t b)∧zI (apE l k nm t
  f a b c ys) (apX (5:Nat) l k nm t c)=zI (apE l k nm t f a b c ys) (apX (5:Nat) l k nm t c)∧(True∧zS (apE l k nm t f a b c ys) (unb ys (pB (apP l nm t)))=zS (apE l k nm
  t f a b c ys) (unb ys (pB (apP l nm t))))∧True)∧(x.fst=x.fst∧x.snd.fst=x.snd.fst∧x.snd.snd.fst=x.snd.snd.fst∧x.snd.snd.snd.fst=x.snd.snd.snd.fst ∧
  x.snd.snd.snd.snd.fst=x.snd.snd.snd.snd.fst∧x.snd.snd.snd.snd.snd.fst=x.snd.snd.snd.snd.snd.fst∧(True∧x.snd.snd.snd.snd.snd.snd=x.snd.snd.snd.snd.snd.snd)∧True) ∧
  True else bif YtldiagnbagpliaaGreatDoor.fdB ys x_1 then bif !YtldiagnbagpliaaGreatDoor.fdB (zS (apE l k nm t f a b c ys) (unb ys (pB (apP l nm t)))) x_1 then bif
  !YtldiagnbagpliaaGreatDoor.fdB x.snd.snd.snd.snd.snd.snd x_1 then false=true else bif decide (YtldiagnbagpliaaGreatDoor.fdV x.snd.snd.snd.snd.snd.snd x_1=(0:Int)) then false
 =true else ∃ x_2,OneU x_2∧((0:Nat)=(0:Nat)∧(0:Nat)=(0:Nat)∧(0:Nat)=(0:Nat)∧x_1=x_1∧True)∧(k=k∧nm=nm∧t=t∧f=f∧a=a∧b=b∧c=c
 ∧(True∧ys=ys)∧True)∧(zI (apE l k nm t f a b c ys) k=zI (apE l k nm t f a b c ys) k∧zN (apE l k nm t f a b c ys) nm=zN (apE l k nm t f a b c ys) nm∧zI (apE l k nm t
  f a b c ys) t=zI (apE l k nm t f a b c ys) t∧zI (apE l k nm t f a b c ys) (apX (2:Nat) l k nm t f)=zI (apE l k nm t f a b c ys) (apX (2:Nat) l k nm t f)∧zI (apE l k nm
  t f a b c ys) (apX (3:Nat) l k nm t a)=zI (apE l k nm t f a b c ys) (apX (3:Nat) l k nm t a)∧zI (apE l k nm t f a b c ys) (apX (4:Nat) l k nm t b)=zI (apE l k nm t f a
  b c ys) (apX (4:Nat) l k nm t b)∧zI (apE l k nm t f a b c ys) (apX (5:Nat) l k nm t c)=zI (apE l k nm t f a b c ys) (apX (5:Nat) l k nm t c)∧(True∧zS (apE l k nm t f
  a b c ys) (unb ys (pB (apP l nm t)))=zS (apE l k nm t f a b c ys) (unb ys (pB (apP l nm t))))∧True)∧(x.fst=x.fst∧x.snd.fst=x.snd.fst∧x.snd.snd.fst=x.snd.snd.fst ∧
  x.snd.snd.snd.fst=x.snd.snd.snd.fst∧x.snd.snd.snd.snd.fst=x.snd.snd.snd.snd.fst∧x.snd.snd.snd.snd.snd.fst=x.snd.snd.snd.snd.snd.fst∧(True∧x.snd.snd.snd.snd.snd.snd =
  x.snd.snd.snd.snd.snd.snd)∧True)∧True else ∃ x_2,OneU x_2∧((0:Nat)=(0:Nat)∧(0:Nat)=(0:Nat)∧(0:Nat)=(0:Nat)∧x_1=x_1∧True)∧(k=k∧nm=nm∧t =
  t∧f=f∧a=a∧b=b∧c=c∧(True∧ys=ys)∧True)∧(zI (apE l k nm t f a b c ys) k=zI (apE l k nm t f a b c ys) k∧zN (apE l k nm t f a b c ys) nm=zN (apE l k nm t
  f a b c ys) nm∧zI (apE l k nm t f a b c ys) t=zI (apE l k nm t f a b c ys) t∧zI (apE l k nm t f a b c ys) (apX (2:Nat) l k nm t f)=zI (apE l k nm t f a b c ys) (apX (2 :
  Nat) l k nm t f)∧zI (apE l k nm t f a b c ys) (apX (3:Nat) l k nm t a)=zI (apE l k nm t f a b c ys) (apX (3:Nat) l k nm t a)∧zI (apE l k nm t f a b c ys) (apX (4:Nat) l
  k nm t b)=zI (apE l k nm t f a b c ys) (apX (4:Nat) l k nm t b)∧zI (apE l k nm t f a b c ys) (apX (5:Nat) l k nm t c)=zI (apE l k nm t f a b c ys) (apX (5:Nat) l k nm t
  c)∧(True∧zS (apE l k nm t f a b c ys) (unb ys (pB (apP l nm t)))=zS (apE l k nm t f a b c ys) (unb ys (pB (apP l nm t))))∧True)∧(x.fst=x.fst∧x.snd.fst=x.snd.fst ∧
  x.snd.snd.fst=x.snd.snd.fst∧x.snd.snd.snd.fst=x.snd.snd.snd.fst∧x.snd.snd.snd.snd.fst=x.snd.snd.snd.snd.fst∧x.snd.snd.snd.snd.snd.fst=x.snd.snd.snd.snd.snd.fst ∧
  (True∧x.snd.snd.snd.snd.snd.snd=x.snd.snd.snd.snd.snd.snd)∧True)∧True else ∃ x_2,OneU x_2∧((0:Nat)=(0:Nat)∧(0:Nat)=(0:Nat)∧(0:Nat)=(0:Nat)∧x_1 =
  x_1∧True)∧(k=k∧nm=nm∧t=t∧f=f∧a=a∧b=b∧c=c∧(True∧ys=ys)∧True)∧(zI (apE l k nm t f a b c ys) k=zI (apE l k nm t f a b c ys) k∧zN (apE l k
  nm t f a b c ys) nm=zN (apE l k nm t f a b c ys) nm∧zI (apE l k nm t f a b c ys) t=zI (apE l k nm t f a b c ys) t∧zI (apE l k nm t f a b c ys) (apX (2:Nat) l k nm t f) =
  zI (apE l k nm t f a b c ys) (apX (2:Nat) l k nm t f)∧zI (apE l k nm t f a b c ys) (apX (3:Nat) l k nm t a)=zI (apE l k nm t f a b c ys) (apX (3:Nat) l k nm t a)∧zI
  (apE l k nm t f a b c ys) (apX (4:Nat) l k nm t b)=zI (apE l k nm t f a b c ys) (apX (4:Nat) l k nm t b)∧zI (apE l k nm t f a b c ys) (apX (5:Nat) l k nm t c)=zI (apE l
  k nm t f a b c ys) (apX (5:Nat) l k nm t c)∧(True∧zS (apE l k nm t f a b c ys) (unb ys (pB (apP l nm t)))=zS (apE l k nm t f a b c ys) (unb ys (pB (apP l nm t))))∧True) ∧
  (x.fst=x.fst∧x.snd.fst=x.snd.fst∧x.snd.snd.fst=x.snd.snd.fst∧x.snd.snd.snd.fst=x.snd.snd.snd.fst∧x.snd.snd.snd.snd.fst=x.snd.snd.snd.snd.fst ∧
  x.snd.snd.snd.snd.snd.fst=x.snd.snd.snd.snd.snd.fst∧(True∧x.snd.snd.snd.snd.snd.snd=x.snd.snd.snd.snd.snd.snd)∧True)∧True)∧∀ (x_2:PUnit),OneU x_2→∃ y,CbP y ∧
  (cbL [AV.int IntKind.i64 k,AV.str nm,AV.int IntKind.i64 t,AV.int IntKind.i64 f,AV.int IntKind.i64 a,AV.int IntKind.i64 b,AV.int IntKind.i64 c,AV.sl (2:Nat) false ys]
  [AV.int IntKind.i64 (zI (apE l k nm t f a b c ys) k),AV.str (zN (apE l k nm t f a b c ys) nm),AV.int IntKind.i64 (zI (apE l k nm t f a b c ys) t),AV.int IntKind.i64 (zI (apE l k
  nm t f a b c ys) (apX (2:Nat) l k nm t f)),AV.int IntKind.i64 (zI (apE l k nm t f a b c ys) (apX (3:Nat) l k nm t a)),AV.int IntKind.i64 (zI (apE l k nm t f a b c ys) (apX (4
 :Nat) l k nm t b)),AV.int IntKind.i64 (zI (apE l k nm t f a b c ys) (apX (5:Nat) l k nm t c)),AV.sl (2:Nat) false (zS (apE l k nm t f a b c ys) (unb ys (pB (apP l nm t))))]
  [AV.int IntKind.i64 x.fst,AV.bool x.snd.fst,AV.int IntKind.i64 x.snd.snd.fst,AV.int IntKind.i64 x.snd.snd.snd.fst,AV.int IntKind.i64 x.snd.snd.snd.snd.fst,AV.int IntKind.i64
  x.snd.snd.snd.snd.snd.fst,AV.sl (2:Nat) false x.snd.snd.snd.snd.snd.snd]).m y < (cbL [AV.int IntKind.i64 k,AV.str nm,AV.int IntKind.i64 t,AV.int IntKind.i64 f,AV.int
  IntKind.i64 a,AV.int IntKind.i64 b,AV.int IntKind.i64 c,AV.sl (2:Nat) false ys] [AV.int IntKind.i64 (zI (apE l k nm t f a b c ys) k),AV.str (zN (apE l k nm t f a b c ys) nm),
  AV.int IntKind.i64 (zI (apE l k nm t f a b c ys) t),AV.int IntKind.i64 (zI (apE l k nm t f a b c ys) (apX (2:Nat) l k nm t f)),AV.int IntKind.i64 (zI (apE l k nm t f a b c ys)
  (apX (3:Nat) l k nm t a)),AV.int IntKind.i64 (zI (apE l k nm t f a b c ys) (apX (4:Nat) l k nm t b)),AV.int IntKind.i64 (zI (apE l k nm t f a b c ys) (apX (5:Nat) l k nm t
  c)),AV.sl (2:Nat) false (zS (apE l k nm t f a b c ys) (unb ys (pB (apP l nm t))))] [AV.int IntKind.i64 x.fst,AV.bool x.snd.fst,AV.int IntKind.i64 x.snd.snd.fst,AV.int
  IntKind.i64 x.snd.snd.snd.fst,AV.int IntKind.i64 x.snd.snd.snd.snd.fst,AV.int IntKind.i64 x.snd.snd.snd.snd.snd.fst,AV.sl (2:Nat) false x.snd.snd.snd.snd.snd.snd]).m x_1∧((0
 :Nat)=(0:Nat)∧(0:Nat)=(0:Nat)∧(0:Nat)=(0:Nat)∧IntKind.i64.wrap (x_1+(1:Int))=y∧True)∧(k=k∧nm=nm∧t=t∧f=f∧a=a∧b=b∧c=c ∧
  (True∧ys=ys)∧True)∧(zI (apE l k nm t f a b c ys) k=zI (apE l k nm t f a b c ys) k∧zN (apE l k nm t f a b c ys) nm=zN (apE l k nm t f a b c ys) nm∧zI (apE l k nm t f
  a b c ys) t=zI (apE l k nm t f a b c ys) t∧zI (apE l k nm t f a b c ys) (apX (2:Nat) l k nm t f)=zI (apE l k nm t f a b c ys) (apX (2:Nat) l k nm t f)∧zI (apE l k nm t
  f a b c ys) (apX (3:Nat) l k nm t a)=zI (apE l k nm t f a b c ys) (apX (3:Nat) l k nm t a)∧zI (apE l k nm t f a b c ys) (apX (4:Nat) l k nm t b)=zI (apE l k nm t f a b
  c ys) (apX (4:Nat) l k nm t b)∧zI (apE l k nm t f a b c ys) (apX (5:Nat) l k nm t c)=zI (apE l k nm t f a b c ys) (apX (5:Nat) l k nm t c)∧(True∧zS (apE l k nm t f a
  b c ys) (unb ys (pB (apP l nm t)))=zS (apE l k nm t f a b c ys) (unb ys (pB (apP l nm t))))∧True)∧(x.fst=x.fst∧x.snd.fst=x.snd.fst∧x.snd.snd.fst=x.snd.snd.fst ∧
  x.snd.snd.snd.fst=x.snd.snd.snd.fst∧x.snd.snd.snd.snd.fst=x.snd.snd.snd.snd.fst∧x.snd.snd.snd.snd.snd.fst=x.snd.snd.snd.snd.snd.fst∧(True∧x.snd.snd.snd.snd.snd.snd =
  x.snd.snd.snd.snd.snd.snd)∧True)∧True else True∧true=true else bif decide ¬k=(1:Int) then bif !(decide (zI (apE l k nm t f a b c ys) (apX (2:Nat) l k nm t f)=f) &&
  (decide (zI (apE l k nm t f a b c ys) (apX (3:Nat) l k nm t a)=a)&&(decide (zI (apE l k nm t f a b c ys) (apX (4:Nat) l k nm t b)=b)&&(decide (zI (apE l k nm t f a b c
  ys) (apX (5:Nat) l k nm t c)=c)&&true)))) then false=true else bif decide ¬zI (apE l k nm t f a b c ys) k=k then false=true else bif !decide (zN (apE l k nm t f a b c
  ys) nm=nm) then false=true else bif decide ¬zI (apE l k nm t f a b c ys) t=t then false=true else RdsP (zS (apE l k nm t f a b c ys) (unb ys (pB (apP l nm t))))∧bif
  decide ¬vdE (zS (apE l k nm t f a b c ys) (unb ys (pB (apP l nm t))))=(0:Int) then false=true else (∃ x_1,CbP x_1∧((0:Nat)=(0:Nat)∧(0:Nat)=(0:Nat)∧(0 :
  Nat)=(0:Nat)∧(1:Int)=x_1∧True)∧(k=k∧nm=nm∧t=t∧f=f∧a=a∧b=b∧c=c∧(True∧ys=ys)∧True)∧(zI (apE l k nm t f a b c ys) k=zI (apE l k nm
  t f a b c ys) k∧zN (apE l k nm t f a b c ys) nm=zN (apE l k nm t f a b c ys) nm∧zI (apE l k nm t f a b c ys) t=zI (apE l k nm t f a b c ys) t∧zI (apE l k nm t f a b c ys)
  (apX (2:Nat) l k nm t f)=zI (apE l k nm t f a b c ys) (apX (2:Nat) l k nm t f)∧zI (apE l k nm t f a b c ys) (apX (3:Nat) l k nm t a)=zI (apE l k nm t f a b c ys) (apX
  (3:Nat) l k nm t a)∧zI (apE l k nm t f a b c ys) (apX (4:Nat) l k nm t b)=zI (apE l k nm t f a b c ys) (apX (4:Nat) l k nm t b)∧zI (apE l k nm t f a b c ys) (apX (5 :
  Nat) l k nm t c)=zI (apE l k nm t f a b c ys) (apX (5:Nat) l k nm t c)∧(True∧zS (apE l k nm t f a b c ys) (unb ys (pB (apP l nm t)))=zS (apE l k nm t f a b c ys) (unb ys
  (pB (apP l nm t))))∧True)∧(x.fst=x.fst∧x.snd.fst=x.snd.fst∧x.snd.snd.fst=x.snd.snd.fst∧x.snd.snd.snd.fst=x.snd.snd.snd.fst∧x.snd.snd.snd.snd.fst =
  x.snd.snd.snd.snd.fst∧x.snd.snd.snd.snd.snd.fst=x.snd.snd.snd.snd.snd.fst∧(True∧x.snd.snd.snd.snd.snd.snd=x.snd.snd.snd.snd.snd.snd)∧True)∧True)∧∀ (x_1:Int),CbP
  x_1→bif decide (x_1≤(11:Int)) then (RdsP ys∧RdsP (zS (apE l k nm t f a b c ys) (unb ys (pB (apP l nm t))))∧RdsP x.snd.snd.snd.snd.snd.snd∧bif
  YtldiagnbagpliaaGreatDoor.fdB (zS (apE l k nm t f a b c ys) (unb ys (pB (apP l nm t)))) x_1 then bif !YtldiagnbagpliaaGreatDoor.fdB ys x_1 then false=true else bif decide
  ¬IntKind.i64.wrap (YtldiagnbagpliaaGreatDoor.fdV ys x_1 - YtldiagnbagpliaaGreatDoor.fdV x.snd.snd.snd.snd.snd.snd x_1)=YtldiagnbagpliaaGreatDoor.fdV (zS (apE l k nm t f a b c ys)
  (unb ys (pB (apP l nm t)))) x_1 then false=true else bif YtldiagnbagpliaaGreatDoor.fdB ys x_1 then bif !YtldiagnbagpliaaGreatDoor.fdB (zS (apE l k nm t f a b c ys) (unb ys (pB
  (apP l nm t)))) x_1 then bif !YtldiagnbagpliaaGreatDoor.fdB x.snd.snd.snd.snd.snd.snd x_1 then false=true else bif decide (YtldiagnbagpliaaGreatDoor.fdV x.snd.snd.snd.snd.snd.snd
  x_1=(0:Int)) then false=true else ∃ x_2,OneU x_2∧((0:Nat)=(0:Nat)∧(0:Nat)=(0:Nat)∧(0:Nat)=(0:Nat)∧x_1=x_1∧True)∧(k=k∧nm=nm∧t=t∧f
 =f∧a=a∧b=b∧c=c∧(True∧ys=ys)∧True)∧(zI (apE l k nm t f a b c ys) k=zI (apE l k nm t f a b c ys) k∧zN (apE l k nm t f a b c ys) nm=zN (apE l k nm t f a b
  c ys) nm∧zI (apE l k nm t f a b c ys) t=zI (apE l k nm t f a b c ys) t∧zI (apE l k nm t f a b c ys) (apX (2:Nat) l k nm t f)=zI (apE l k nm t f a b c ys) (apX (2:Nat) l
  k nm t f)∧zI (apE l k nm t f a b c ys) (apX (3:Nat) l k nm t a)=zI (apE l k nm t f a b c ys) (apX (3:Nat) l k nm t a)∧zI (apE l k nm t f a b c ys) (apX (4:Nat) l k nm t
  b)=zI (apE l k nm t f a b c ys) (apX (4:Nat) l k nm t b)∧zI (apE l k nm t f a b c ys) (apX (5:Nat) l k nm t c)=zI (apE l k nm t f a b c ys) (apX (5:Nat) l k nm t c) ∧
  (True∧zS (apE l k nm t f a b c ys) (unb ys (pB (apP l nm t)))=zS (apE l k nm t f a b c ys) (unb ys (pB (apP l nm t))))∧True)∧(x.fst=x.fst∧x.snd.fst=x.snd.fst ∧
  x.snd.snd.fst=x.snd.snd.fst∧x.snd.snd.snd.fst=x.snd.snd.snd.fst∧x.snd.snd.snd.snd.fst=x.snd.snd.snd.snd.fst∧x.snd.snd.snd.snd.snd.fst=x.snd.snd.snd.snd.snd.fst ∧
  (True∧x.snd.snd.snd.snd.snd.snd=x.snd.snd.snd.snd.snd.snd)∧True)∧True else ∃ x_2,OneU x_2∧((0:Nat)=(0:Nat)∧(0:Nat)=(0:Nat)∧(0:Nat)=(0:Nat)∧x_1 =
  x_1∧True)∧(k=k∧nm=nm∧t=t∧f=f∧a=a∧b=b∧c=c∧(True∧ys=ys)∧True)∧(zI (apE l k nm t f a b c ys) k=zI (apE l k nm t f a b c ys) k∧zN (apE l k
  nm t f a b c ys) nm=zN (apE l k nm t f a b c ys) nm∧zI (apE l k nm t f a b c ys) t=zI (apE l k nm t f a b c ys) t∧zI (apE l k nm t f a b c ys) (apX (2:Nat) l k nm t f) =
  zI (apE l k nm t f a b c ys) (apX (2:Nat) l k nm t f)∧zI (apE l k nm t f a b c ys) (apX (3:Nat) l k nm t a)=zI (apE l k nm t f a b c ys) (apX (3:Nat) l k nm t a)∧zI
  (apE l k nm t f a b c ys) (apX (4:Nat) l k nm t b)=zI (apE l k nm t f a b c ys) (apX (4:Nat) l k nm t b)∧zI (apE l k nm t f a b c ys) (apX (5:Nat) l k nm t c)=zI (apE l
  k nm t f a b c ys) (apX (5:Nat) l k nm t c)∧(True∧zS (apE l k nm t f a b c ys) (unb ys (pB (apP l nm t)))=zS (apE l k nm t f a b c ys) (unb ys (pB (apP l nm t))))∧True) ∧
  (x.fst=x.fst∧x.snd.fst=x.snd.fst∧x.snd.snd.fst=x.snd.snd.fst∧x.snd.snd.snd.fst=x.snd.snd.snd.fst∧x.snd.snd.snd.snd.fst=x.snd.snd.snd.snd.fst ∧
  x.snd.snd.snd.snd.snd.fst=x.snd.snd.snd.snd.snd.fst∧(True∧x.snd.snd.snd.snd.snd.snd=x.snd.snd.snd.snd.snd.snd)∧True)∧True else ∃ x_2,OneU x_2∧((0:Nat)=(0:Nat)
 ∧(0:Nat)=(0:Nat)∧(0:Nat)=(0:Nat)∧x_1=x_1∧True)∧(k=k∧nm=nm∧t=t∧f=f∧a=a∧b=b∧c=c∧(True∧ys=ys)∧True)∧(zI (apE l k nm t f a b
  c ys) k=zI (apE l k nm t f a b c ys) k∧zN (apE l k nm t f a b c ys) nm=zN (apE l k nm t f a b c ys) nm∧zI (apE l k nm t f a b c ys) t=zI (apE l k nm t f a b c ys) t∧zI
  (apE l k nm t f a b c ys) (apX (2:Nat) l k nm t f)=zI (apE l k nm t f a b c ys) (apX (2:Nat) l k nm t f)∧zI (apE l k nm t f a b c ys) (apX (3:Nat) l k nm t a)=zI (apE l
  k nm t f a b c ys) (apX (3:Nat) l k nm t a)∧zI (apE l k nm t f a b c ys) (apX (4:Nat) l k nm t b)=zI (apE l k nm t f a b c ys) (apX (4:Nat) l k nm t b)∧zI (apE l k nm t
  f a b c ys) (apX (5:Nat) l k nm t c)=zI (apE l k nm t f a b c ys) (apX (5:Nat) l k nm t c)∧(True∧zS (apE l k nm t f a b c ys) (unb ys (pB (apP l nm t)))=zS (apE l k nm
  t f a b c ys) (unb ys (pB (apP l nm t))))∧True)∧(x.fst=x.fst∧x.snd.fst=x.snd.fst∧x.snd.snd.fst=x.snd.snd.fst∧x.snd.snd.snd.fst=x.snd.snd.snd.fst ∧
  x.snd.snd.snd.snd.fst=x.snd.snd.snd.snd.fst∧x.snd.snd.snd.snd.snd.fst=x.snd.snd.snd.snd.snd.fst∧(True∧x.snd.snd.snd.snd.snd.snd=x.snd.snd.snd.snd.snd.snd)∧True) ∧
  True else bif YtldiagnbagpliaaGreatDoor.fdB ys x_1 then bif !YtldiagnbagpliaaGreatDoor.fdB (zS (apE l k nm t f a b c ys) (unb ys (pB (apP l nm t)))) x_1 then bif
  !YtldiagnbagpliaaGreatDoor.fdB x.snd.snd.snd.snd.snd.snd x_1 then false=true else bif decide (YtldiagnbagpliaaGreatDoor.fdV x.snd.snd.snd.snd.snd.snd x_1=(0:Int)) then false
 =true else ∃ x_2,OneU x_2∧((0:Nat)=(0:Nat)∧(0:Nat)=(0:Nat)∧(0:Nat)=(0:Nat)∧x_1=x_1∧True)∧(k=k∧nm=nm∧t=t∧f=f∧a=a∧b=b∧c=c
 ∧(True∧ys=ys)∧True)∧(zI (apE l k nm t f a b c ys) k=zI (apE l k nm t f a b c ys) k∧zN (apE l k nm t f a b c ys) nm=zN (apE l k nm t f a b c ys) nm∧zI (apE l k nm t
  f a b c ys) t=zI (apE l k nm t f a b c ys) t∧zI (apE l k nm t f a b c ys) (apX (2:Nat) l k nm t f)=zI (apE l k nm t f a b c ys) (apX (2:Nat) l k nm t f)∧zI (apE l k nm
  t f a b c ys) (apX (3:Nat) l k nm t a)=zI (apE l k nm t f a b c ys) (apX (3:Nat) l k nm t a)∧zI (apE l k nm t f a b c ys) (apX (4:Nat) l k nm t b)=zI (apE l k nm t f a
  b c ys) (apX (4:Nat) l k nm t b)∧zI (apE l k nm t f a b c ys) (apX (5:Nat) l k nm t c)=zI (apE l k nm t f a b c ys) (apX (5:Nat) l k nm t c)∧(True∧zS (apE l k nm t f
  a b c ys) (unb ys (pB (apP l nm t)))=zS (apE l k nm t f a b c ys) (unb ys (pB (apP l nm t))))∧True)∧(x.fst=x.fst∧x.snd.fst=x.snd.fst∧x.snd.snd.fst=x.snd.snd.fst ∧
  x.snd.snd.snd.fst=x.snd.snd.snd.fst∧x.snd.snd.snd.snd.fst=x.snd.snd.snd.snd.fst∧x.snd.snd.snd.snd.snd.fst=x.snd.snd.snd.snd.snd.fst∧(True∧x.snd.snd.snd.snd.snd.snd =
  x.snd.snd.snd.snd.snd.snd)∧True)∧True else ∃ x_2,OneU x_2∧((0:Nat)=(0:Nat)∧(0:Nat)=(0:Nat)∧(0:Nat)=(0:Nat)∧x_1=x_1∧True)∧(k=k∧nm=nm∧t =
  t∧f=f∧a=a∧b=b∧c=c∧(True∧ys=ys)∧True)∧(zI (apE l k nm t f a b c ys) k=zI (apE l k nm t f a b c ys) k∧zN (apE l k nm t f a b c ys) nm=zN (apE l k nm t
  f a b c ys) nm∧zI (apE l k nm t f a b c ys) t=zI (apE l k nm t f a b c ys) t∧zI (apE l k nm t f a b c ys) (apX (2:Nat) l k nm t f)=zI (apE l k nm t f a b c ys) (apX (2 :
  Nat) l k nm t f)∧zI (apE l k nm t f a b c ys) (apX (3:Nat) l k nm t a)=zI (apE l k nm t f a b c ys) (apX (3:Nat) l k nm t a)∧zI (apE l k nm t f a b c ys) (apX (4:Nat) l
  k nm t b)=zI (apE l k nm t f a b c ys) (apX (4:Nat) l k nm t b)∧zI (apE l k nm t f a b c ys) (apX (5:Nat) l k nm t c)=zI (apE l k nm t f a b c ys) (apX (5:Nat) l k nm t
  c)∧(True∧zS (apE l k nm t f a b c ys) (unb ys (pB (apP l nm t)))=zS (apE l k nm t f a b c ys) (unb ys (pB (apP l nm t))))∧True)∧(x.fst=x.fst∧x.snd.fst=x.snd.fst ∧
  x.snd.snd.fst=x.snd.snd.fst∧x.snd.snd.snd.fst=x.snd.snd.snd.fst∧x.snd.snd.snd.snd.fst=x.snd.snd.snd.snd.fst∧x.snd.snd.snd.snd.snd.fst=x.snd.snd.snd.snd.snd.fst ∧
  (True∧x.snd.snd.snd.snd.snd.snd=x.snd.snd.snd.snd.snd.snd)∧True)∧True else ∃ x_2,OneU x_2∧((0:Nat)=(0:Nat)∧(0:Nat)=(0:Nat)∧(0:Nat)=(0:Nat)∧x_1 =
  x_1∧True)∧(k=k∧nm=nm∧t=t∧f=f∧a=a∧b=b∧c=c∧(True∧ys=ys)∧True)∧(zI (apE l k nm t f a b c ys) k=zI (apE l k nm t f a b c ys) k∧zN (apE l k
  nm t f a b c ys) nm=zN (apE l k nm t f a b c ys) nm∧zI (apE l k nm t f a b c ys) t=zI (apE l k nm t f a b c ys) t∧zI (apE l k nm t f a b c ys) (apX (2:Nat) l k nm t f) =
  zI (apE l k nm t f a b c ys) (apX (2:Nat) l k nm t f)∧zI (apE l k nm t f a b c ys) (apX (3:Nat) l k nm t a)=zI (apE l k nm t f a b c ys) (apX (3:Nat) l k nm t a)∧zI
  (apE l k nm t f a b c ys) (apX (4:Nat) l k nm t b)=zI (apE l k nm t f a b c ys) (apX (4:Nat) l k nm t b)∧zI (apE l k nm t f a b c ys) (apX (5:Nat) l k nm t c)=zI (apE l
  k nm t f a b c ys) (apX (5:Nat) l k nm t c)∧(True∧zS (apE l k nm t f a b c ys) (unb ys (pB (apP l nm t)))=zS (apE l k nm t f a b c ys) (unb ys (pB (apP l nm t))))∧True) ∧
  (x.fst=x.fst∧x.snd.fst=x.snd.fst∧x.snd.snd.fst=x.snd.snd.fst∧x.snd.snd.snd.fst=x.snd.snd.snd.fst∧x.snd.snd.snd.snd.fst=x.snd.snd.snd.snd.fst ∧
  x.snd.snd.snd.snd.snd.fst=x.snd.snd.snd.snd.snd.fst∧(True∧x.snd.snd.snd.snd.snd.snd=x.snd.snd.snd.snd.snd.snd)∧True)∧True)∧∀ (x_2:PUnit),OneU x_2→∃ y,CbP y ∧
  (cbL [AV.int IntKind.i64 k,AV.str nm,AV.int IntKind.i64 t,AV.int IntKind.i64 f,AV.int IntKind.i64 a,AV.int IntKind.i64 b,AV.int IntKind.i64 c,AV.sl (2:Nat) false ys]
  [AV.int IntKind.i64 (zI (apE l k nm t f a b c ys) k),AV.str (zN (apE l k nm t f a b c ys) nm),AV.int IntKind.i64 (zI (apE l k nm t f a b c ys) t),AV.int IntKind.i64 (zI (apE l k
  nm t f a b c ys) (apX (2:Nat) l k nm t f)),AV.int IntKind.i64 (zI (apE l k nm t f a b c ys) (apX (3:Nat) l k nm t a)),AV.int IntKind.i64 (zI (apE l k nm t f a b c ys) (apX (4
 :Nat) l k nm t b)),AV.int IntKind.i64 (zI (apE l k nm t f a b c ys) (apX (5:Nat) l k nm t c)),AV.sl (2:Nat) false (zS (apE l k nm t f a b c ys) (unb ys (pB (apP l nm t))))]
  [AV.int IntKind.i64 x.fst,AV.bool x.snd.fst,AV.int IntKind.i64 x.snd.snd.fst,AV.int IntKind.i64 x.snd.snd.snd.fst,AV.int IntKind.i64 x.snd.snd.snd.snd.fst,AV.int IntKind.i64
  x.snd.snd.snd.snd.snd.fst,AV.sl (2:Nat) false x.snd.snd.snd.snd.snd.snd]).m y < (cbL [AV.int IntKind.i64 k,AV.str nm,AV.int IntKind.i64 t,AV.int IntKind.i64 f,AV.int
  IntKind.i64 a,AV.int IntKind.i64 b,AV.int IntKind.i64 c,AV.sl (2:Nat) false ys] [AV.int IntKind.i64 (zI (apE l k nm t f a b c ys) k),AV.str (zN (apE l k nm t f a b c ys) nm),
  AV.int IntKind.i64 (zI (apE l k nm t f a b c ys) t),AV.int IntKind.i64 (zI (apE l k nm t f a b c ys) (apX (2:Nat) l k nm t f)),AV.int IntKind.i64 (zI (apE l k nm t f a b c ys)
  (apX (3:Nat) l k nm t a)),AV.int IntKind.i64 (zI (apE l k nm t f a b c ys) (apX (4:Nat) l k nm t b)),AV.int IntKind.i64 (zI (apE l k nm t f a b c ys) (apX (5:Nat) l k nm t
  c)),AV.sl (2:Nat) false (zS (apE l k nm t f a b c ys) (unb ys (pB (apP l nm t))))] [AV.int IntKind.i64 x.fst,AV.bool x.snd.fst,AV.int IntKind.i64 x.snd.snd.fst,AV.int
  IntKind.i64 x.snd.snd.snd.fst,AV.int IntKind.i64 x.snd.snd.snd.snd.fst,AV.int IntKind.i64 x.snd.snd.snd.snd.snd.fst,AV.sl (2:Nat) false x.snd.snd.snd.snd.snd.snd]).m x_1∧((0
 :Nat)=(0:Nat)∧(0:Nat)=(0:Nat)∧(0:Nat)=(0:Nat)∧IntKind.i64.wrap (x_1+(1:Int))=y∧True)∧(k=k∧nm=nm∧t=t∧f=f∧a=a∧b=b∧c=c ∧
  (True∧ys=ys)∧True)∧(zI (apE l k nm t f a b c ys) k=zI (apE l k nm t f a b c ys) k∧zN (apE l k nm t f a b c ys) nm=zN (apE l k nm t f a b c ys) nm∧zI (apE l k nm t f
  a b c ys) t=zI (apE l k nm t f a b c ys) t∧zI (apE l k nm t f a b c ys) (apX (2:Nat) l k nm t f)=zI (apE l k nm t f a b c ys) (apX (2:Nat) l k nm t f)∧zI (apE l k nm t
  f a b c ys) (apX (3:Nat) l k nm t a)=zI (apE l k nm t f a b c ys) (apX (3:Nat) l k nm t a)∧zI (apE l k nm t f a b c ys) (apX (4:Nat) l k nm t b)=zI (apE l k nm t f a b
  c ys) (apX (4:Nat) l k nm t b)∧zI (apE l k nm t f a b c ys) (apX (5:Nat) l k nm t c)=zI (apE l k nm t f a b c ys) (apX (5:Nat) l k nm t c)∧(True∧zS (apE l k nm t f a
  b c ys) (unb ys (pB (apP l nm t)))=zS (apE l k nm t f a b c ys) (unb ys (pB (apP l nm t))))∧True)∧(x.fst=x.fst∧x.snd.fst=x.snd.fst∧x.snd.snd.fst=x.snd.snd.fst ∧
  x.snd.snd.snd.fst=x.snd.snd.snd.fst∧x.snd.snd.snd.snd.fst=x.snd.snd.snd.snd.fst∧x.snd.snd.snd.snd.snd.fst=x.snd.snd.snd.snd.snd.fst∧(True∧x.snd.snd.snd.snd.snd.snd =
  x.snd.snd.snd.snd.snd.snd)∧True)∧True else True∧true=true else bif decide ¬zI (apE l k nm t f a b c ys) k=k then false=true else bif !decide (zN (apE l k nm t f a b c
  ys) nm=nm) then false=true else bif decide ¬zI (apE l k nm t f a b c ys) t=t then false=true else RdsP (zS (apE l k nm t f a b c ys) (unb ys (pB (apP l nm t))))∧bif
  decide ¬vdE (zS (apE l k nm t f a b c ys) (unb ys (pB (apP l nm t))))=(0:Int) then false=true else (∃ x_1,CbP x_1∧((0:Nat)=(0:Nat)∧(0:Nat)=(0:Nat)∧(0 :
  Nat)=(0:Nat)∧(1:Int)=x_1∧True)∧(k=k∧nm=nm∧t=t∧f=f∧a=a∧b=b∧c=c∧(True∧ys=ys)∧True)∧(zI (apE l k nm t f a b c ys) k=zI (apE l k nm
  t f a b c ys) k∧zN (apE l k nm t f a b c ys) nm=zN (apE l k nm t f a b c ys) nm∧zI (apE l k nm t f a b c ys) t=zI (apE l k nm t f a b c ys) t∧zI (apE l k nm t f a b c ys)
  (apX (2:Nat) l k nm t f)=zI (apE l k nm t f a b c ys) (apX (2:Nat) l k nm t f)∧zI (apE l k nm t f a b c ys) (apX (3:Nat) l k nm t a)=zI (apE l k nm t f a b c ys) (apX
  (3:Nat) l k nm t a)∧zI (apE l k nm t f a b c ys) (apX (4:Nat) l k nm t b)=zI (apE l k nm t f a b c ys) (apX (4:Nat) l k nm t b)∧zI (apE l k nm t f a b c ys) (apX (5 :
  Nat) l k nm t c)=zI (apE l k nm t f a b c ys) (apX (5:Nat) l k nm t c)∧(True∧zS (apE l k nm t f a b c ys) (unb ys (pB (apP l nm t)))=zS (apE l k nm t f a b c ys) (unb ys
  (pB (apP l nm t))))∧True)∧(x.fst=x.fst∧x.snd.fst=x.snd.fst∧x.snd.snd.fst=x.snd.snd.fst∧x.snd.snd.snd.fst=x.snd.snd.snd.fst∧x.snd.snd.snd.snd.fst =
  x.snd.snd.snd.snd.fst∧x.snd.snd.snd.snd.snd.fst=x.snd.snd.snd.snd.snd.fst∧(True∧x.snd.snd.snd.snd.snd.snd=x.snd.snd.snd.snd.snd.snd)∧True)∧True)∧∀ (x_1:Int),CbP
  x_1→bif decide (x_1≤(11:Int)) then (RdsP ys∧RdsP (zS (apE l k nm t f a b c ys) (unb ys (pB (apP l nm t))))∧RdsP x.snd.snd.snd.snd.snd.snd∧bif
  YtldiagnbagpliaaGreatDoor.fdB (zS (apE l k nm t f a b c ys) (unb ys (pB (apP l nm t)))) x_1 then bif !YtldiagnbagpliaaGreatDoor.fdB ys x_1 then false=true else bif decide
  ¬IntKind.i64.wrap (YtldiagnbagpliaaGreatDoor.fdV ys x_1 - YtldiagnbagpliaaGreatDoor.fdV x.snd.snd.snd.snd.snd.snd x_1)=YtldiagnbagpliaaGreatDoor.fdV (zS (apE l k nm t f a b c ys)
  (unb ys (pB (apP l nm t)))) x_1 then false=true else bif YtldiagnbagpliaaGreatDoor.fdB ys x_1 then bif !YtldiagnbagpliaaGreatDoor.fdB (zS (apE l k nm t f a b c ys) (unb ys (pB
  (apP l nm t)))) x_1 then bif !YtldiagnbagpliaaGreatDoor.fdB x.snd.snd.snd.snd.snd.snd x_1 then false=true else bif decide (YtldiagnbagpliaaGreatDoor.fdV x.snd.snd.snd.snd.snd.snd
  x_1=(0:Int)) then false=true else ∃ x_2,OneU x_2∧((0:Nat)=(0:Nat)∧(0:Nat)=(0:Nat)∧(0:Nat)=(0:Nat)∧x_1=x_1∧True)∧(k=k∧nm=nm∧t=t∧f
 =f∧a=a∧b=b∧c=c∧(True∧ys=ys)∧True)∧(zI (apE l k nm t f a b c ys) k=zI (apE l k nm t f a b c ys) k∧zN (apE l k nm t f a b c ys) nm=zN (apE l k nm t f a b
  c ys) nm∧zI (apE l k nm t f a b c ys) t=zI (apE l k nm t f a b c ys) t∧zI (apE l k nm t f a b c ys) (apX (2:Nat) l k nm t f)=zI (apE l k nm t f a b c ys) (apX (2:Nat) l
  k nm t f)∧zI (apE l k nm t f a b c ys) (apX (3:Nat) l k nm t a)=zI (apE l k nm t f a b c ys) (apX (3:Nat) l k nm t a)∧zI (apE l k nm t f a b c ys) (apX (4:Nat) l k nm t
  b)=zI (apE l k nm t f a b c ys) (apX (4:Nat) l k nm t b)∧zI (apE l k nm t f a b c ys) (apX (5:Nat) l k nm t c)=zI (apE l k nm t f a b c ys) (apX (5:Nat) l k nm t c) ∧
  (True∧zS (apE l k nm t f a b c ys) (unb ys (pB (apP l nm t)))=zS (apE l k nm t f a b c ys) (unb ys (pB (apP l nm t))))∧True)∧(x.fst=x.fst∧x.snd.fst=x.snd.fst ∧
  x.snd.snd.fst=x.snd.snd.fst∧x.snd.snd.snd.fst=x.snd.snd.snd.fst∧x.snd.snd.snd.snd.fst=x.snd.snd.snd.snd.fst∧x.snd.snd.snd.snd.snd.fst=x.snd.snd.snd.snd.snd.fst ∧
  (True∧x.snd.snd.snd.snd.snd.snd=x.snd.snd.snd.snd.snd.snd)∧True)∧True else ∃ x_2,OneU x_2∧((0:Nat)=(0:Nat)∧(0:Nat)=(0:Nat)∧(0:Nat)=(0:Nat)∧x_1 =
  x_1∧True)∧(k=k∧nm=nm∧t=t∧f=f∧a=a∧b=b∧c=c∧(True∧ys=ys)∧True)∧(zI (apE l k nm t f a b c ys) k=zI (apE l k nm t f a b c ys) k∧zN (apE l k
  nm t f a b c ys) nm=zN (apE l k nm t f a b c ys) nm∧zI (apE l k nm t f a b c ys) t=zI (apE l k nm t f a b c ys) t∧zI (apE l k nm t f a b c ys) (apX (2:Nat) l k nm t f) =
  zI (apE l k nm t f a b c ys) (apX (2:Nat) l k nm t f)∧zI (apE l k nm t f a b c ys) (apX (3:Nat) l k nm t a)=zI (apE l k nm t f a b c ys) (apX (3:Nat) l k nm t a)∧zI
  (apE l k nm t f a b c ys) (apX (4:Nat) l k nm t b)=zI (apE l k nm t f a b c ys) (apX (4:Nat) l k nm t b)∧zI (apE l k nm t f a b c ys) (apX (5:Nat) l k nm t c)=zI (apE l
  k nm t f a b c ys) (apX (5:Nat) l k nm t c)∧(True∧zS (apE l k nm t f a b c ys) (unb ys (pB (apP l nm t)))=zS (apE l k nm t f a b c ys) (unb ys (pB (apP l nm t))))∧True) ∧
  (x.fst=x.fst∧x.snd.fst=x.snd.fst∧x.snd.snd.fst=x.snd.snd.fst∧x.snd.snd.snd.fst=x.snd.snd.snd.fst∧x.snd.snd.snd.snd.fst=x.snd.snd.snd.snd.fst ∧
  x.snd.snd.snd.snd.snd.fst=x.snd.snd.snd.snd.snd.fst∧(True∧x.snd.snd.snd.snd.snd.snd=x.snd.snd.snd.snd.snd.snd)∧True)∧True else ∃ x_2,OneU x_2∧((0:Nat)=(0:Nat)
 ∧(0:Nat)=(0:Nat)∧(0:Nat)=(0:Nat)∧x_1=x_1∧True)∧(k=k∧nm=nm∧t=t∧f=f∧a=a∧b=b∧c=c∧(True∧ys=ys)∧True)∧(zI (apE l k nm t f a b
  c ys) k=zI (apE l k nm t f a b c ys) k∧zN (apE l k nm t f a b c ys) nm=zN (apE l k nm t f a b c ys) nm∧zI (apE l k nm t f a b c ys) t=zI (apE l k nm t f a b c ys) t∧zI
  (apE l k nm t f a b c ys) (apX (2:Nat) l k nm t f)=zI (apE l k nm t f a b c ys) (apX (2:Nat) l k nm t f)∧zI (apE l k nm t f a b c ys) (apX (3:Nat) l k nm t a)=zI (apE l
  k nm t f a b c ys) (apX (3:Nat) l k nm t a)∧zI (apE l k nm t f a b c ys) (apX (4:Nat) l k nm t b)=zI (apE l k nm t f a b c ys) (apX (4:Nat) l k nm t b)∧zI (apE l k nm t
  f a b c ys) (apX (5:Nat) l k nm t c)=zI (apE l k nm t f a b c ys) (apX (5:Nat) l k nm t c)∧(True∧zS (apE l k nm t f a b c ys) (unb ys (pB (apP l nm t)))=zS (apE l k nm
  t f a b c ys) (unb ys (pB (apP l nm t))))∧True)∧(x.fst=x.fst∧x.snd.fst=x.snd.fst∧x.snd.snd.fst=x.snd.snd.fst∧x.snd.snd.snd.fst=x.snd.snd.snd.fst ∧
  x.snd.snd.snd.snd.fst=x.snd.snd.snd.snd.fst∧x.snd.snd.snd.snd.snd.fst=x.snd.snd.snd.snd.snd.fst∧(True∧x.snd.snd.snd.snd.snd.snd=x.snd.snd.snd.snd.snd.snd)∧True) ∧
  True else bif YtldiagnbagpliaaGreatDoor.fdB ys x_1 then bif !YtldiagnbagpliaaGreatDoor.fdB (zS (apE l k nm t f a b c ys) (unb ys (pB (apP l nm t)))) x_1 then bif
  !YtldiagnbagpliaaGreatDoor.fdB x.snd.snd.snd.snd.snd.snd x_1 then false=true else bif decide (YtldiagnbagpliaaGreatDoor.fdV x.snd.snd.snd.snd.snd.snd x_1=(0:Int)) then false
 =true else ∃ x_2,OneU x_2∧((0:Nat)=(0:Nat)∧(0:Nat)=(0:Nat)∧(0:Nat)=(0:Nat)∧x_1=x_1∧True)∧(k=k∧nm=nm∧t=t∧f=f∧a=a∧b=b∧c=c
 ∧(True∧ys=ys)∧True)∧(zI (apE l k nm t f a b c ys) k=zI (apE l k nm t f a b c ys) k∧zN (apE l k nm t f a b c ys) nm=zN (apE l k nm t f a b c ys) nm∧zI (apE l k nm t
  f a b c ys) t=zI (apE l k nm t f a b c ys) t∧zI (apE l k nm t f a b c ys) (apX (2:Nat) l k nm t f)=zI (apE l k nm t f a b c ys) (apX (2:Nat) l k nm t f)∧zI (apE l k nm
  t f a b c ys) (apX (3:Nat) l k nm t a)=zI (apE l k nm t f a b c ys) (apX (3:Nat) l k nm t a)∧zI (apE l k nm t f a b c ys) (apX (4:Nat) l k nm t b)=zI (apE l k nm t f a
  b c ys) (apX (4:Nat) l k nm t b)∧zI (apE l k nm t f a b c ys) (apX (5:Nat) l k nm t c)=zI (apE l k nm t f a b c ys) (apX (5:Nat) l k nm t c)∧(True∧zS (apE l k nm t f
  a b c ys) (unb ys (pB (apP l nm t)))=zS (apE l k nm t f a b c ys) (unb ys (pB (apP l nm t))))∧True)∧(x.fst=x.fst∧x.snd.fst=x.snd.fst∧x.snd.snd.fst=x.snd.snd.fst ∧
  x.snd.snd.snd.fst=x.snd.snd.snd.fst∧x.snd.snd.snd.snd.fst=x.snd.snd.snd.snd.fst∧x.snd.snd.snd.snd.snd.fst=x.snd.snd.snd.snd.snd.fst∧(True∧x.snd.snd.snd.snd.snd.snd =
  x.snd.snd.snd.snd.snd.snd)∧True)∧True else ∃ x_2,OneU x_2∧((0:Nat)=(0:Nat)∧(0:Nat)=(0:Nat)∧(0:Nat)=(0:Nat)∧x_1=x_1∧True)∧(k=k∧nm=nm∧t =
  t∧f=f∧a=a∧b=b∧c=c∧(True∧ys=ys)∧True)∧(zI (apE l k nm t f a b c ys) k=zI (apE l k nm t f a b c ys) k∧zN (apE l k nm t f a b c ys) nm=zN (apE l k nm t
  f a b c ys) nm∧zI (apE l k nm t f a b c ys) t=zI (apE l k nm t f a b c ys) t∧zI (apE l k nm t f a b c ys) (apX (2:Nat) l k nm t f)=zI (apE l k nm t f a b c ys) (apX (2 :
  Nat) l k nm t f)∧zI (apE l k nm t f a b c ys) (apX (3:Nat) l k nm t a)=zI (apE l k nm t f a b c ys) (apX (3:Nat) l k nm t a)∧zI (apE l k nm t f a b c ys) (apX (4:Nat) l
  k nm t b)=zI (apE l k nm t f a b c ys) (apX (4:Nat) l k nm t b)∧zI (apE l k nm t f a b c ys) (apX (5:Nat) l k nm t c)=zI (apE l k nm t f a b c ys) (apX (5:Nat) l k nm t
  c)∧(True∧zS (apE l k nm t f a b c ys) (unb ys (pB (apP l nm t)))=zS (apE l k nm t f a b c ys) (unb ys (pB (apP l nm t))))∧True)∧(x.fst=x.fst∧x.snd.fst=x.snd.fst ∧
  x.snd.snd.fst=x.snd.snd.fst∧x.snd.snd.snd.fst=x.snd.snd.snd.fst∧x.snd.snd.snd.snd.fst=x.snd.snd.snd.snd.fst∧x.snd.snd.snd.snd.snd.fst=x.snd.snd.snd.snd.snd.fst ∧
  (True∧x.snd.snd.snd.snd.snd.snd=x.snd.snd.snd.snd.snd.snd)∧True)∧True else ∃ x_2,OneU x_2∧((0:Nat)=(0:Nat)∧(0:Nat)=(0:Nat)∧(0:Nat)=(0:Nat)∧x_1 =
  x_1∧True)∧(k=k∧nm=nm∧t=t∧f=f∧a=a∧b=b∧c=c∧(True∧ys=ys)∧True)∧(zI (apE l k nm t f a b c ys) k=zI (apE l k nm t f a b c ys) k∧zN (apE l k
  nm t f a b c ys) nm=zN (apE l k nm t f a b c ys) nm∧zI (apE l k nm t f a b c ys) t=zI (apE l k nm t f a b c ys) t∧zI (apE l k nm t f a b c ys) (apX (2:Nat) l k nm t f) =
  zI (apE l k nm t f a b c ys) (apX (2:Nat) l k nm t f)∧zI (apE l k nm t f a b c ys) (apX (3:Nat) l k nm t a)=zI (apE l k nm t f a b c ys) (apX (3:Nat) l k nm t a)∧zI
  (apE l k nm t f a b c ys) (apX (4:Nat) l k nm t b)=zI (apE l k nm t f a b c ys) (apX (4:Nat) l k nm t b)∧zI (apE l k nm t f a b c ys) (apX (5:Nat) l k nm t c)=zI (apE l
  k nm t f a b c ys) (apX (5:Nat) l k nm t c)∧(True∧zS (apE l k nm t f a b c ys) (unb ys (pB (apP l nm t)))=zS (apE l k nm t f a b c ys) (unb ys (pB (apP l nm t))))∧True) ∧
  (x.fst=x.fst∧x.snd.fst=x.snd.fst∧x.snd.snd.fst=x.snd.snd.fst∧x.snd.snd.snd.fst=x.snd.snd.snd.fst∧x.snd.snd.snd.snd.fst=x.snd.snd.snd.snd.fst ∧
  x.snd.snd.snd.snd.snd.fst=x.snd.snd.snd.snd.snd.fst∧(True∧x.snd.snd.snd.snd.snd.snd=x.snd.snd.snd.snd.snd.snd)∧True)∧True)∧∀ (x_2:PUnit),OneU x_2→∃ y,CbP y ∧
  (cbL [AV.int IntKind.i64 k,AV.str nm,AV.int IntKind.i64 t,AV.int IntKind.i64 f,AV.int IntKind.i64 a,AV.int IntKind.i64 b,AV.int IntKind.i64 c,AV.sl (2:Nat) false ys]
  [AV.int IntKind.i64 (zI (apE l k nm t f a b c ys) k),AV.str (zN (apE l k nm t f a b c ys) nm),AV.int IntKind.i64 (zI (apE l k nm t f a b c ys) t),AV.int IntKind.i64 (zI (apE l k
  nm t f a b c ys) (apX (2:Nat) l k nm t f)),AV.int IntKind.i64 (zI (apE l k nm t f a b c ys) (apX (3:Nat) l k nm t a)),AV.int IntKind.i64 (zI (apE l k nm t f a b c ys) (apX (4
 :Nat) l k nm t b)),AV.int IntKind.i64 (zI (apE l k nm t f a b c ys) (apX (5:Nat) l k nm t c)),AV.sl (2:Nat) false (zS (apE l k nm t f a b c ys) (unb ys (pB (apP l nm t))))]
  [AV.int IntKind.i64 x.fst,AV.bool x.snd.fst,AV.int IntKind.i64 x.snd.snd.fst,AV.int IntKind.i64 x.snd.snd.snd.fst,AV.int IntKind.i64 x.snd.snd.snd.snd.fst,AV.int IntKind.i64
  x.snd.snd.snd.snd.snd.fst,AV.sl (2:Nat) false x.snd.snd.snd.snd.snd.snd]).m y < (cbL [AV.int IntKind.i64 k,AV.str nm,AV.int IntKind.i64 t,AV.int IntKind.i64 f,AV.int
  IntKind.i64 a,AV.int IntKind.i64 b,AV.int IntKind.i64 c,AV.sl (2:Nat) false ys] [AV.int IntKind.i64 (zI (apE l k nm t f a b c ys) k),AV.str (zN (apE l k nm t f a b c ys) nm),
  AV.int IntKind.i64 (zI (apE l k nm t f a b c ys) t),AV.int IntKind.i64 (zI (apE l k nm t f a b c ys) (apX (2:Nat) l k nm t f)),AV.int IntKind.i64 (zI (apE l k nm t f a b c ys)
  (apX (3:Nat) l k nm t a)),AV.int IntKind.i64 (zI (apE l k nm t f a b c ys) (apX (4:Nat) l k nm t b)),AV.int IntKind.i64 (zI (apE l k nm t f a b c ys) (apX (5:Nat) l k nm t
  c)),AV.sl (2:Nat) false (zS (apE l k nm t f a b c ys) (unb ys (pB (apP l nm t))))] [AV.int IntKind.i64 x.fst,AV.bool x.snd.fst,AV.int IntKind.i64 x.snd.snd.fst,AV.int
  IntKind.i64 x.snd.snd.snd.fst,AV.int IntKind.i64 x.snd.snd.snd.snd.fst,AV.int IntKind.i64 x.snd.snd.snd.snd.snd.fst,AV.sl (2:Nat) false x.snd.snd.snd.snd.snd.snd]).m x_1∧((0
 :Nat)=(0:Nat)∧(0:Nat)=(0:Nat)∧(0:Nat)=(0:Nat)∧IntKind.i64.wrap (x_1+(1:Int))=y∧True)∧(k=k∧nm=nm∧t=t∧f=f∧a=a∧b=b∧c=c ∧
  (True∧ys=ys)∧True)∧(zI (apE l k nm t f a b c ys) k=zI (apE l k nm t f a b c ys) k∧zN (apE l k nm t f a b c ys) nm=zN (apE l k nm t f a b c ys) nm∧zI (apE l k nm t f
  a b c ys) t=zI (apE l k nm t f a b c ys) t∧zI (apE l k nm t f a b c ys) (apX (2:Nat) l k nm t f)=zI (apE l k nm t f a b c ys) (apX (2:Nat) l k nm t f)∧zI (apE l k nm t
  f a b c ys) (apX (3:Nat) l k nm t a)=zI (apE l k nm t f a b c ys) (apX (3:Nat) l k nm t a)∧zI (apE l k nm t f a b c ys) (apX (4:Nat) l k nm t b)=zI (apE l k nm t f a b
  c ys) (apX (4:Nat) l k nm t b)∧zI (apE l k nm t f a b c ys) (apX (5:Nat) l k nm t c)=zI (apE l k nm t f a b c ys) (apX (5:Nat) l k nm t c)∧(True∧zS (apE l k nm t f a
  b c ys) (unb ys (pB (apP l nm t)))=zS (apE l k nm t f a b c ys) (unb ys (pB (apP l nm t))))∧True)∧(x.fst=x.fst∧x.snd.fst=x.snd.fst∧x.snd.snd.fst=x.snd.snd.fst ∧
  x.snd.snd.snd.fst=x.snd.snd.snd.fst∧x.snd.snd.snd.snd.fst=x.snd.snd.snd.snd.fst∧x.snd.snd.snd.snd.snd.fst=x.snd.snd.snd.snd.snd.fst∧(True∧x.snd.snd.snd.snd.snd.snd =
  x.snd.snd.snd.snd.snd.snd)∧True)∧True else True∧true=true
theorem lbias_P:lbias_T apE apX apP zI zN zS unb pB pI pC atZ atE fdV fdB vdE rdC cmpI cmpS rgV stN stH atR atB exK isN:=by
 unfold lbias_T
 intro xs hz _
 have hs:SrcI (List.take 2000 xs):=SrcI.take hz
 refine ⟨trivial,⟨hs,by decide⟩,fun m j q1=>⟨⟨⟨hs,q1.fj⟩,q1.fm⟩,fun l j q2=>⟨⟨⟨hs,q2.fj⟩,q1.fm⟩,fun k nm t f a b c ys j q3=>?_⟩⟩⟩
 have hl:=q2.fr.p (by decide)
 obtain ⟨hy,hy1⟩:=q3.fr.p
 refine ⟨⟨hl,hy,by omega⟩,csx (fun he=>?_) (fun he=>?_)⟩
 ·rw [zS_e he,zI_e he,zN_e he,zI_e he,zI_e he,zI_e he,zI_e he,zI_e he]
  exact ⟨⟨rdsP_nil,rdsP_nil⟩,cd1 (or_same 0 0 0 0 0 0 ⟨#[]⟩ []) ⟨trivial,rfl⟩⟩
 have h0:=Decidable.not_not.1 he
 obtain ⟨r0,v0,nk⟩:=ap_zero h0
 rw [h0,zS0]
 simp only [zI0,zN0]
 refine ⟨hl,csx (fun q=>?_) (fun q=>?_),?_⟩
 ·obtain ⟨e1,e2⟩:=at_err r0 q
  exact ⟨(0,false,0,0,0,0,[]),⟨by rw [e2]; rfl,fun z=>absurd ⟨z,e1⟩ nk⟩,by (repeat' (first | exact trivial | exact rfl | assumption | apply And.intro))⟩
 ·have e1:atZ l nm t=apP l nm t:=if_pos (Decidable.not_not.1 q)
  refine ⟨(pI 0 (atZ l nm t),pC (atZ l nm t),pI 2 (atZ l nm t),pI 3 (atZ l nm t),pI 4 (atZ l nm t),pI 5 (atZ l nm t),pB (atZ l nm t)),⟨by simp only [e1],fun _=>by simp [e1]⟩,by (repeat' (first | exact trivial | exact rfl | assumption | apply And.intro))⟩
 rintro ⟨x1,x2,x3,x4,x5,x6,bs⟩ ⟨hb,hk⟩
 simp only at hb hk
 dsimp only
 have hbs:RdsP bs:=hb ▸ ap_bias hl nm t
 rw [← hb]
 have hu:RdsP (unb ys bs):=unb_rds hy
 have w1:∀ z:Int,1≤z→z≤11→IntKind.i64.wrap (z+1)=z+1:=fun z _ _=>wrap_eq (by show _∧_; omega)
 refine csx (fun k1=>?_) (fun k1=>?_)
 ·have h2:=hk k1
  subst k1
  rw [apX_1,apX_1,apX_1,apX_1,← h2.1,← h2.2.1,← h2.2.2.1,← h2.2.2.2]
  refine csplit (fun z=>by simp at z) (fun _=>csx (fun z=>absurd rfl z) (fun _=>?_))
  refine csx (fun z=>absurd trivial z) (fun _=>csplit (fun z=>by simp at z) (fun _=>csx (fun z=>absurd trivial z) (fun _=>⟨hu,csx (fun z=>absurd (unb_ok v0) z) (fun _=>⟨⟨1,⟨by decide,by decide⟩,by (repeat' (first | exact trivial | exact rfl | assumption | apply And.intro))⟩,?_⟩)⟩)))
  rintro n ⟨n1,n2⟩
  refine csx (fun hn=>⟨⟨hy,hu,hbs,csplit (fun u=>?_) (fun u=>?_)⟩,fun _ _=>⟨n+1,⟨by omega,by omega⟩,by simp only [cbL]; omega,⟨trivial,trivial,trivial,w1 n n1 hn,trivial⟩,by (repeat' (first | exact trivial | exact rfl | assumption | apply And.intro))⟩⟩) (fun _=>by (repeat' (first | exact trivial | exact rfl | assumption | apply And.intro)))
  ·obtain ⟨u1,u2⟩:=unb_is v0 u
   refine csplit (fun z=>by rw [u1] at z; cases z) (fun _=>csx (fun z=>absurd u2 z) (fun _=>csplit (fun _=>csplit (fun z=>by rw [u] at z; cases z) (fun _=>⟨(),⟨rfl⟩,by (repeat' (first | exact trivial | exact rfl | assumption | apply And.intro))⟩)) (fun _=>⟨(),⟨rfl⟩,by (repeat' (first | exact trivial | exact rfl | assumption | apply And.intro))⟩)))
  ·refine csplit (fun o=>csplit (fun _=>?_) (fun _=>⟨(),⟨rfl⟩,by (repeat' (first | exact trivial | exact rfl | assumption | apply And.intro))⟩)) (fun _=>⟨(),⟨rfl⟩,by (repeat' (first | exact trivial | exact rfl | assumption | apply And.intro))⟩)
   obtain ⟨u1,u2⟩:=unb_not v0 hy o u
   exact csplit (fun z=>by rw [u1] at z; cases z) (fun _=>csx (fun z=>absurd z u2) (fun _=>⟨(),⟨rfl⟩,by (repeat' (first | exact trivial | exact rfl | assumption | apply And.intro))⟩))
 ·rw [apX_n k1,apX_n k1,apX_n k1,apX_n k1]
  refine csx (fun _=>csplit (fun z=>by simp at z) (fun _=>?_)) (fun z=>absurd k1 z)
  refine csx (fun z=>absurd trivial z) (fun _=>csplit (fun z=>by simp at z) (fun _=>csx (fun z=>absurd trivial z) (fun _=>⟨hu,csx (fun z=>absurd (unb_ok v0) z) (fun _=>⟨⟨1,⟨by decide,by decide⟩,by (repeat' (first | exact trivial | exact rfl | assumption | apply And.intro))⟩,?_⟩)⟩)))
  rintro n ⟨n1,n2⟩
  refine csx (fun hn=>⟨⟨hy,hu,hbs,csplit (fun u=>?_) (fun u=>?_)⟩,fun _ _=>⟨n+1,⟨by omega,by omega⟩,by simp only [cbL]; omega,⟨trivial,trivial,trivial,w1 n n1 hn,trivial⟩,by (repeat' (first | exact trivial | exact rfl | assumption | apply And.intro))⟩⟩) (fun _=>by (repeat' (first | exact trivial | exact rfl | assumption | apply And.intro)))
  ·obtain ⟨u1,u2⟩:=unb_is v0 u
   refine csplit (fun z=>by rw [u1] at z; cases z) (fun _=>csx (fun z=>absurd u2 z) (fun _=>csplit (fun _=>csplit (fun z=>by rw [u] at z; cases z) (fun _=>⟨(),⟨rfl⟩,by (repeat' (first | exact trivial | exact rfl | assumption | apply And.intro))⟩)) (fun _=>⟨(),⟨rfl⟩,by (repeat' (first | exact trivial | exact rfl | assumption | apply And.intro))⟩)))
  ·refine csplit (fun o=>csplit (fun _=>?_) (fun _=>⟨(),⟨rfl⟩,by (repeat' (first | exact trivial | exact rfl | assumption | apply And.intro))⟩)) (fun _=>⟨(),⟨rfl⟩,by (repeat' (first | exact trivial | exact rfl | assumption | apply And.intro))⟩)
   obtain ⟨u1,u2⟩:=unb_not v0 hy o u
   exact csplit (fun z=>by rw [u1] at z; cases z) (fun _=>csx (fun z=>absurd z u2) (fun _=>⟨(),⟨rfl⟩,by (repeat' (first | exact trivial | exact rfl | assumption | apply And.intro))⟩))
def lbias_S (apE:LLR→Int→ByteArray→Int→Int→Int→Int→Int→LLR→Int) (apX:Nat→LLR→Int→ByteArray→Int→Int→Int) (apP:LLR→ByteArray→Int→List AV) (zI:Int→Int→Int) (zN:Int→ByteArray→ByteArray) (zS:Int→LLR→LLR) (unb:LLR→LLR→LLR) (pB:List AV→LLR) (pI:Nat→List AV→Int) (pC:List AV→Bool) (atZ:LLR→ByteArray→Int→List AV) (atE:LLR→ByteArray→Int→Int) (fdV:LLR→Int→Int) (fdB:LLR→Int→Bool) (vdE:LLR→Int) (rdC:LLR→LLR→Int) (cmpI:Int→Int→Int) (cmpS:ByteArray→ByteArray→Int) (rgV:LLR→Int) (stN:LLR→ByteArray→Nat) (stH:LLR→ByteArray→Bool) (atR:LLR→Int→List AV) (atB:LLR→Int→Bool) (exK:Int→Bool) (isN:Int→Int→Int→Int→Bool):Prop:=∀ (xs:List (List AV)),IntsA xs→fnK Tryz.prog { glob:=glb,spec:=lk [(16,(gApply_s rgV stN stH pI pC pB atR atB exK vdE isN unb zI zN zS apE apX apP)),(19,(gAt_s rgV stN stH pI pC pB atR atB atZ atE)),(18,(rsame_s rdC cmpI cmpS)),(20,(rvalid_s vdE)),(21,rfind_s),(9,(lawake_s apE apX apP zI zS unb pB))],specH:=lk [(10,newsrc_s)],specQ:=lk [(11,qminute_s),(12,qregistry_s),(13,qreport_s)],nowf:=true,wrap:=true,nls:=[(29,7,2),(49,6,2)] } { nt:=156,drop:=drp [(1,786432),(2,3145728),(3,29360128),(4,234881024),(5,16911433728),(6,17179869184),(7,4329327034368),(8,2247401767174144),(9,2251799813685248),(10,9007199254740992),(11,5070602400912899591588303339520),(14,10141204801825835211973625643008),(15,121694457621910022543683507716096),(16,20606928157310097150730407306592256),(17,2637686804135692435293492135243808768),(18,337623910929368631717566993311207522304),(19,22835962743012991175994112047817314750355734528),(21,45671926166590716193865151022383844364247891968)],tys:=[26] } (cbJ) 6 Tryz.f4 [.sl 1 false xs] (.bool true)
theorem lbias_e (apE:LLR→Int→ByteArray→Int→Int→Int→Int→Int→LLR→Int) (apX:Nat→LLR→Int→ByteArray→Int→Int→Int) (apP:LLR→ByteArray→Int→List AV) (zI:Int→Int→Int) (zN:Int→ByteArray→ByteArray) (zS:Int→LLR→LLR) (unb:LLR→LLR→LLR) (pB:List AV→LLR) (pI:Nat→List AV→Int) (pC:List AV→Bool) (atZ:LLR→ByteArray→Int→List AV) (atE:LLR→ByteArray→Int→Int) (fdV:LLR→Int→Int) (fdB:LLR→Int→Bool) (vdE:LLR→Int) (rdC:LLR→LLR→Int) (cmpI:Int→Int→Int) (cmpS:ByteArray→ByteArray→Int) (rgV:LLR→Int) (stN:LLR→ByteArray→Nat) (stH:LLR→ByteArray→Bool) (atR:LLR→Int→List AV) (atB:LLR→Int→Bool) (exK:Int→Bool) (isN:Int→Int→Int→Int→Bool):lbias_T apE apX apP zI zN zS unb pB pI pC atZ atE fdV fdB vdE rdC cmpI cmpS rgV stN stH atR atB exK isN=lbias_S apE apX apP zI zN zS unb pB pI pC atZ atE fdV fdB vdE rdC cmpI cmpS rgV stN stH atR atB exK isN:=by kernel_rfl
theorem lbias_v:lbias_S apE apX apP zI zN zS unb pB pI pC atZ atE fdV fdB vdE rdC cmpI cmpS rgV stN stH atR atB exK isN:=Eq.mp (lbias_e ..) (lbias_P)
theorem lbias_ok:SOK Tryz.prog glb 4 (lbias_s apE apX apP zI zN zS unb pB pI pC atZ atE fdV fdB vdE rdC cmpI cmpS):=by
 refine ⟨fok Tryz.func4 (by kernel_rfl) (by kernel_rfl),?_⟩
 intro xs pre r h hp
 unfold lbias_s at h
 split at h
 ·simp only [Option.some.injEq,Prod.mk.injEq] at h
  obtain ⟨h1,h2⟩:=h
  subst h1 h2
  exact fnK_sound (tyOf (by kernel_rfl)) (by exact specOK rfl rfl ⟨(gApply_ok),(gAt_ok),(rsame_ok glb),(rvalid_ok glb),(rfind_ok glb),(lawake_ok),trivial⟩ ⟨(newsrc_ok glb),trivial⟩ (d:=qsOf rfl ⟨(qminute_ok glb),(qregistry_ok glb),(qreport_ok glb),trivial⟩)) (by kernel_rfl) Tryz.func4 rfl (lbias_v  _ hp)
 ·cases h
end Go.Proofs.YtldiagnbagpliaaGreatDoor
namespace Go.Proofs.YtldiagnbagpliaaGreatDoor
open Go
open Go.ChangeShapes Go.WideShapes
open Go.RowKit (Below)
set_option linter.unusedVariables false
set_option linter.unusedSimpArgs false
def pinAll (w:World):Pin:=fun b o=>match w.cell? ⟨b,o,none⟩ with | some v=>cond v.oneCell' (some v) none | none=>none
theorem pinAll_some {w:World} {b o:Nat} {v:Value} (h:w.cell? ⟨b,o,none⟩=some v) (k:v.oneCell'=true):pinAll w b o=some v:=by simp [pinAll,h,k]
theorem agree_all (w:World):Agree (pinAll w) w:=by
 intro b o v h
 unfold pinAll at h
 split at h
 ·next u e =>
  cases hk:u.oneCell' with
  | true=>rw [hk] at h; simp only [cond_true,Option.some.injEq] at h; subst h; exact ⟨e,hk⟩
  | false=>rw [hk] at h; cases h
 ·cases h
def tiles (P:Program):List Field→Nat→Nat→Bool
 | [],o,n=>Nat.beq o n
 | f::fs,o,n=>Nat.beq f.offset o&&tiles P fs (o+P.cellsOf f.type) n
def supp (P:Program):Nat→TypeId→Bool
 | 0,_=>false
 | n+1,t=>match P.underlying t with
  | some .bool=>true
  | some (.int _)=>true
  | some .string=>true
  | some (.slice e)=>Nat.blt 0 (P.cellsOf e)&&supp P n e
  | some (.struct fs)=>tiles P fs.toList 0 (P.cellsOf t)&&fs.toList.all fun f=>supp P n f.type
  | some (.array m e)=>Nat.beq (m*P.cellsOf e) (P.cellsOf t)&&supp P n e
  | _=>false
def ShF (P:Program) (sh:TypeId→List AV→Prop):List Field→List AV→Prop
 | [],cs=>cs=[]
 | f::fs,cs=>∃ ys zs,sh f.type ys∧ShF P sh fs zs∧cs=ys++zs
def ShE (sh:List AV→Prop):Nat→List AV→Prop
 | 0,cs=>cs=[]
 | n+1,cs=>∃ ys zs,sh ys∧ShE sh n zs∧cs=ys++zs
def Sh (P:Program):Nat→TypeId→List AV→Prop
 | 0,_,_=>False
 | n+1,t,cs=>match P.underlying t with
  | some .bool=>∃ b,cs=[.bool b]
  | some (.int k)=>∃ z,rng k z∧cs=[.int k z]
  | some .string=>∃ s:ByteArray,s.size≤9223372036854775807∧cs=[.str s]
  | some (.slice e)=>∃ xs:List (List AV),xs.length≤9223372036854775807∧(∀ x ∈ xs,Sh P n e x)∧cs=[.sl (P.cellsOf e) false xs]
  | some (.struct fs)=>ShF P (Sh P n) fs.toList cs
  | some (.array m e)=>ShE (Sh P n e) m cs
  | _=>False
theorem shF_of {P:Program} {S:Pin} {sh:TypeId→List AV→Prop} {vs:List Value}:∀ (fs:List Field) (o tot:Nat),tiles P fs o tot=true→vs.length=tot →
  (∀ f ∈ fs,∃ ys,sh f.type ys∧allOne ys=true∧CVl S ys noNm ((vs.drop f.offset).take (P.cellsOf f.type)))→∃ cs,ShF P sh fs cs∧allOne cs=true∧CVl S cs noNm (vs.drop o)
 | [],o,tot,ht,hl,_=>by
  simp only [tiles] at ht
  have:=Nat.eq_of_beq_eq_true ht
  exact ⟨[],rfl,rfl,by simp only [CVl]; exact List.drop_eq_nil_of_le (by omega)⟩
 | f::fs,o,tot,ht,hl,h=>by
  simp only [tiles,Bool.and_eq_true] at ht
  obtain ⟨ho,ht⟩:=ht
  have ho:=Nat.eq_of_beq_eq_true ho
  obtain ⟨ys,h1,h2,h3⟩:=h f (List.mem_cons_self ..)
  obtain ⟨zs,k1,k2,k3⟩:=shF_of fs _ tot ht hl (fun g hg=>h g (List.mem_cons_of_mem _ hg))
  refine ⟨ys++zs,⟨ys,zs,h1,k1,rfl⟩,allOne_append h2 k2,?_⟩
  rw [ho] at h3
  have e:vs.drop o=(vs.drop o).take (P.cellsOf f.type)++vs.drop (o+P.cellsOf f.type):=by
   rw [← List.drop_drop]; exact (List.take_append_drop _ _).symm
  rw [e]
  exact CVl.append h3 k3
where allOne_append:∀ {xs ys:List AV},allOne xs=true→allOne ys=true→allOne (xs++ys)=true
 | [],ys,_,h=>h
 | x::xs,ys,h,k=>by
  simp only [allOne,Bool.and_eq_true,List.cons_append] at h ⊢
  exact ⟨h.1,allOne_append h.2 k⟩
theorem shE_of {S:Pin} {sh:List AV→Prop} {s:Nat}:∀ (n:Nat) (vs:List Value),vs.length=n*s→(∀ i,i < n→∃ ys,sh ys∧allOne ys=true∧CVl S ys noNm ((vs.drop (i*s)).take s)) →
  ∃ cs,ShE sh n cs∧allOne cs=true∧CVl S cs noNm vs
 | 0,vs,hl,_=>⟨[],rfl,rfl,by simp only [CVl]; exact List.eq_nil_of_length_eq_zero (by omega)⟩
 | n+1,vs,hl,h=>by
  obtain ⟨ys,h1,h2,h3⟩:=h 0 (by omega)
  have hl':vs.length=n*s+s:=by rw [hl,Nat.succ_mul]
  obtain ⟨zs,k1,k2,k3⟩:=shE_of n (vs.drop s) (by rw [List.length_drop,hl',Nat.add_sub_cancel]) (fun i hi=>by
   obtain ⟨q,q1,q2,q3⟩:=h (i+1) (by omega)
   refine ⟨q,q1,q2,?_⟩
   rw [List.drop_drop,show s+i*s=(i+1)*s by rw [Nat.succ_mul]; omega]
   exact q3)
  refine ⟨ys++zs,⟨ys,zs,h1,k1,rfl⟩,shF_of.allOne_append h2 k2,?_⟩
  rw [Nat.zero_mul,List.drop_zero] at h3
  have e:vs=vs.take s++vs.drop s:=(List.take_append_drop _ _).symm
  rw [e]
  exact CVl.append h3 k3
theorem list_of {α:Type} {p:Nat→α→Prop}:∀ (n:Nat),(∀ i,i < n→∃ x,p i x)→∃ xs:List α,xs.length=n∧∀ i x,xs[i]?=some x→p i x
 | 0,_=>⟨[],rfl,by simp⟩
 | n+1,h=>by
  obtain ⟨xs,h1,h2⟩:=list_of n (fun i hi=>h i (by omega))
  obtain ⟨x,hx⟩:=h n (by omega)
  refine ⟨xs++[x],by simp [h1],fun i y hy=>?_⟩
  rcases Nat.lt_or_ge i xs.length with hi | hi
  ·rw [List.getElem?_append_left hi] at hy; exact h2 i y hy
  ·rw [List.getElem?_append_right hi] at hy
   rcases Nat.eq_zero_or_pos (i - xs.length) with h0 | h0
   ·rw [h0] at hy
    simp only [List.getElem?_cons_zero,Option.some.injEq] at hy
    rw [← hy,show i=n by omega]; exact hx
   ·rw [List.getElem?_eq_none (by simp; omega)] at hy; cases hy
section
variable {H:Type} {enc:TypeId × Value→H} {P:Program} {w:World} {base:Nat} {held:Bool}
theorem rng_wf {k:IntKind} {z:Int} (h:(Lit.int k z).wf=true):rng k z:=by
 rw [rng_iff]
 simp only [Lit.wf,Bool.and_eq_true,decide_eq_true_eq] at h
 exact h
theorem in_of_trod:∀ (n:Nat) (t:TypeId) (fuel:Nat) (vs:List Value) (x:DataW H × List MemPlace),supp P n t=true→DataW.trod enc P w base (fun _=>true) held fuel t vs=some x →
  ∃ cs,Sh P n t cs∧allOne cs=true∧CVl (pinAll w) cs noNm vs
 | 0,t,_,_,_,hs,_=>by simp [supp] at hs
 | n+1,t,fuel,vs,x,hs,h=>by
  unfold supp at hs
  unfold Sh
  split at hs
  ·next ht =>
   obtain ⟨b,rfl,_⟩:=DataW.trod_bool ht h
   exact ⟨[.bool b],⟨b,rfl⟩,rfl,_,_,rfl,rfl,rfl⟩
  ·next k ht =>
   obtain ⟨z,rfl,_,hw⟩:=DataW.trod_int ht h
   exact ⟨[.int k z],⟨z,rng_wf hw,rfl⟩,rfl,_,_,rfl,⟨rfl,rng_wf hw⟩,rfl⟩
  ·next ht =>
   obtain ⟨s,rfl,_,hw⟩:=DataW.trod_string ht h
   exact ⟨[.str s],⟨s,hw,rfl⟩,rfl,_,_,rfl,⟨rfl,hw⟩,rfl⟩
  ·next e ht =>
   simp only [Bool.and_eq_true] at hs
   have hs0:0 < P.cellsOf e:=by have:=hs.1; simp [Nat.blt] at this; omega
   rcases DataW.trod_slice ht h with ⟨rfl,_⟩ | ⟨a,len,cap,elems,rest,m,_,rfl,_,hb,hl,hc,hlen,hel,hsp,hns⟩
   ·refine ⟨[.sl (P.cellsOf e) false []],⟨[],by simp,by simp,rfl⟩,rfl,_,_,rfl,⟨none,0,rfl,by simp,by simp,(fun h=>by cases h),(fun _=>rfl),(fun a ha=>by cases ha)⟩,rfl⟩
   ·have each:∀ i,i < len→∃ x,(Sh P n e x)∧∃ cs',w.cells? base (a.add (i*P.cellsOf e)) (P.cellsOf e)=some cs'∧allOne x=true∧CVl (pinAll w) x noNm cs':=by
     intro i hi
     have h1:=hel i hi
     have hx:elems[i]?=some (elems[i]'(by omega)):=List.getElem?_eq_getElem (by omega)
     rw [hx,Option.bind_eq_some_iff] at h1
     obtain ⟨cs',h2,h3⟩:=h1
     obtain ⟨y,k1,k2,k3⟩:=in_of_trod n e m cs' _ hs.2 h3
     exact ⟨y,k1,cs',h2,k2,k3⟩
    obtain ⟨xs,hx1,hx2⟩:=list_of len each
    have hmem:∀ x ∈ xs,Sh P n e x:=by
     intro x hx
     obtain ⟨i,hi⟩:=List.getElem?_of_mem hx
     exact (hx2 i x hi).1
    refine ⟨[.sl (P.cellsOf e) false xs],⟨xs,by unfold maxLen at hc; omega,hmem,rfl⟩,rfl,_,_,rfl,⟨some a,cap,by rw [hx1],by omega,hc,(fun h=>by cases h),(fun h=>by cases h),fun a' ha=>?_⟩,rfl⟩
    cases ha
    have key:∀ (j:Nat) (x:List AV),xs[j]?=some x→∃ cs':List Value,cs'.length=P.cellsOf e∧CVl (pinAll w) x noNm cs'∧allOne x=true∧∀ i,i < P.cellsOf e→w.cell? ((a.add (j*P.cellsOf e)).add i)=cs'[i]?:=by
     intro j x hj
     obtain ⟨_,cs',h2,h3,h4⟩:=hx2 j x hj
     obtain ⟨_,q1,q2⟩:=World.cells?_some h2
     exact ⟨cs',q1,h4,h3,q2⟩
    have spot:cap≠0→a.spot=none:=by
     intro h0
     have h1:∃ cs',w.cells? base (a.add (0*P.cellsOf e)) (P.cellsOf e)=some cs':=by
      rcases Nat.eq_zero_or_pos len with hl0 | hl0
      ·obtain ⟨hr,hr2⟩:=hsp rfl
       have h1:=hr2 0 (by omega)
       have hx:rest[0]?=some (rest[0]'(by omega)):=List.getElem?_eq_getElem (by omega)
       rw [hx,Option.bind_eq_some_iff] at h1
       obtain ⟨cs',h2,_⟩:=h1
       exact ⟨cs',by rw [← h2,hl0]⟩
      ·have h1:=hel 0 hl0
       have hx:elems[0]?=some (elems[0]'(by omega)):=List.getElem?_eq_getElem (by omega)
       rw [hx,Option.bind_eq_some_iff] at h1
       obtain ⟨cs',h2,_⟩:=h1
       exact ⟨cs',h2⟩
     obtain ⟨cs',h2⟩:=h1
     obtain ⟨_,q1,q2⟩:=World.cells?_some h2
     have h3:=q2 0 hs0
     rw [List.getElem?_eq_getElem (by omega)] at h3
     have h4:=World.cell?_spot h3
     simpa [Addr.add] using h4
    refine ⟨spot,CE.mk fun j x hj=>?_⟩
    obtain ⟨cs',k1,k2,k3,k4⟩:=key j x hj
    have hxl:x.length=P.cellsOf e:=by rw [← k1]; exact (CVl.len k2).symm
    refine ⟨hxl,CC.mk fun i y hy=>?_⟩
    obtain ⟨u,hu,hcv⟩:=CVl.get k2 hy
    have hi:i < P.cellsOf e:=by have:=(List.getElem?_eq_some_iff.1 hy).1; omega
    have hj':j < len:=by have:=(List.getElem?_eq_some_iff.1 hj).1; omega
    have hsp:=spot (by omega)
    obtain ⟨b,o,sp⟩:=a
    simp only at hsp
    subst hsp
    have h5:=k4 i hi
    rw [add_none,add_none,hu] at h5
    exact ⟨u,pinAll_some h5 (allOne_cv k2 k3 u (List.mem_of_getElem? hu)),hcv⟩
  ·next fs ht =>
   simp only [Bool.and_eq_true,List.all_eq_true] at hs
   obtain ⟨xs,m,_,_,hl,hxl,hf⟩:=DataW.trod_struct ht h
   obtain ⟨cs,k1,k2,k3⟩:=shF_of (S:=pinAll w) (sh:=Sh P n) (vs:=vs) fs.toList 0 _ hs.1 hl (fun f hfm=>by
    obtain ⟨i,hi⟩:=List.getElem?_of_mem hfm
    have h1:=hf i f (by simpa using hi)
    have hi':i < fs.size:=by have:=(List.getElem?_eq_some_iff.1 hi).1; simpa using this
    rw [List.getElem?_eq_getElem (by omega:i < xs.length)] at h1
    exact in_of_trod n f.type m _ _ (hs.2 f hfm) h1)
   exact ⟨cs,k1,k2,by simpa using k3⟩
  ·next m e ht =>
   simp only [Bool.and_eq_true] at hs
   obtain ⟨xs,q,_,_,hl,hxl,hf⟩:=DataW.trod_array ht h
   have hsz:=Nat.eq_of_beq_eq_true hs.1
   exact shE_of (S:=pinAll w) (sh:=Sh P n e) (s:=P.cellsOf e) m vs (by omega) (fun i hi=>by
    have h1:=hf i hi
    rw [List.getElem?_eq_getElem (by omega:i < xs.length)] at h1
    exact in_of_trod n e q _ _ hs.2 h1)
  ·cases hs
def mkA (P:Program) (t:TypeId) (cs:List AV):AV:=cond (isAg P t) (.agg cs) (match cs with | [x]=>x | _=>.dead)
def ShAll (P:Program):List TypeId→(List AV→Prop)→Prop
 | [],K=>K []
 | t::ts,K=>∀ cs,Sh P 50 t cs→ShAll P ts fun xs=>K (mkA P t cs::xs)
theorem in_one {r:Reach} {b0 n:Nat} {t:TypeId} {v:Value} {fuel:Nat} {x:DataW H × List MemPlace} (hs:supp P n t=true) (hv:Value.okWide P w r b0 t v) (h:DataW.trod enc P w base (fun _=>true) held fuel t v.cells.toList=some x) :
  ∃ cs,Sh P n t cs∧CV (pinAll w) (mkA P t cs) noNm v:=by
 obtain ⟨cs,h1,h2,h3⟩:=in_of_trod n t fuel _ x hs h
 refine ⟨cs,h1,?_⟩
 have one:isAg P t=false→v.cells=#[v]→CV (pinAll w) (mkA P t cs) noNm v:=by
  intro ha hc
  rw [hc] at h3
  unfold mkA
  rw [ha]
  match cs,h3 with
  | [y],h3 =>
   simp only [CVl] at h3
   obtain ⟨u,us,e,hy,hn⟩:=h3
   simp at e
   rw [e.1]; exact hy
  | [],h3=>simp [CVl] at h3
  | _::_::_,h3 =>
   simp [CVl] at h3
   obtain ⟨u,us,⟨_,e⟩,_,u',us',e',_⟩:=h3
   rw [e] at e'; cases e'
 have agg:isAg P t=true→∀ us,v=.agg us→CV (pinAll w) (mkA P t cs) noNm v:=by
  intro ha us e
  subst e
  unfold mkA
  rw [ha]
  exact ⟨us,rfl,h3⟩
 unfold Value.okWide at hv
 cases n with
 | zero=>simp [supp] at hs
 | succ n =>
  unfold supp at hs
  split at hs
  ·next ht =>
   rw [ht] at hv
   simp only [Cell.okWide,Cell.ok,ht] at hv
   refine one (by unfold isAg; rw [ht]) ?_
   split at hv <;> first | rfl | (split at hv <;> first | rfl | cases hv) | cases hv
  ·next k ht =>
   rw [ht] at hv
   simp only [Cell.okWide,Cell.ok,ht] at hv
   refine one (by unfold isAg; rw [ht]) ?_
   split at hv <;> first | rfl | (split at hv <;> first | rfl | cases hv) | cases hv
  ·next ht =>
   rw [ht] at hv
   simp only [Cell.okWide,Cell.ok,ht] at hv
   refine one (by unfold isAg; rw [ht]) ?_
   split at hv <;> first | rfl | (split at hv <;> first | rfl | cases hv) | cases hv
  ·next e ht =>
   rw [ht] at hv
   simp only [Cell.okWide,Cell.ok,ht] at hv
   refine one (by unfold isAg; rw [ht]) ?_
   split at hv <;> first | rfl | (split at hv <;> first | rfl | cases hv) | cases hv
  ·next fs ht =>
   rw [ht] at hv
   obtain ⟨us,e,_⟩:=hv
   exact agg (by unfold isAg; rw [ht]) us e
  ·next m e ht =>
   rw [ht] at hv
   obtain ⟨us,e,_⟩:=hv
   exact agg (by unfold isAg; rw [ht]) us e
  ·cases hs
theorem in_all {r:Reach} {b0:Nat}:∀ (ts:List TypeId) (vs:List Value) (ds:List (DataW H)) (ps:List MemPlace) (K:List AV→Prop),(ts.all fun t=>supp P 50 t)=true→DataW.TrodAll enc P w base (fun _=>true) held ts vs ds ps →
  (∀ (j:Nat) t v,ts[j]?=some t→vs[j]?=some v→Value.okWide P w r b0 t v)→ShAll P ts K→∃ xs,K xs∧CVl (pinAll w) xs noNm vs
 | [],[],[],ps,K,_,h,_,hK=>⟨[],hK,by simp only [CVl]⟩
 | t::ts,v::vs,d::ds,ps,K,hs,h,hv,hK=>by
  simp only [List.all_cons,Bool.and_eq_true] at hs
  obtain ⟨p,q,⟨fuel,h1⟩,h2,_⟩:=h
  obtain ⟨cs,k1,k2⟩:=in_one hs.1 (hv 0 t v rfl rfl) h1
  obtain ⟨xs,q1,q2⟩:=in_all ts vs ds q (fun xs=>K (mkA P t cs::xs)) hs.2 h2 (fun j t v ht hv'=>hv (j+1) t v (by simpa using ht) (by simpa using hv')) (hK cs k1)
  exact ⟨_,q1,by simp only [CVl]; exact ⟨v,vs,rfl,k2,q2⟩⟩
 | [],v::vs,ds,ps,K,_,h,_,_=>by cases ds <;> simp [DataW.TrodAll] at h
 | [],[],d::ds,ps,K,_,h,_,_=>by simp [DataW.TrodAll] at h
 | t::ts,[],ds,ps,K,_,h,_,_=>by cases ds <;> simp [DataW.TrodAll] at h
 | t::ts,v::vs,[],ps,K,_,h,_,_=>by simp [DataW.TrodAll] at h
theorem law_calls {gl:Glob} {f:FuncId} {r:Reach} {b0:Nat} {ts:List TypeId} {args:Array Value} {ds:List (DataW H)} {ps:List MemPlace} (hs:(ts.all fun t=>supp P 50 t)=true) (hg:GOKg gl (pinAll w))
  (h:ShAll P ts fun xs=>PureC P gl f xs (.bool true)) (hA:DataW.TrodAll enc P w base (fun _=>true) held ts args.toList ds ps)
  (hv:∀ (j:Nat) t v,ts[j]?=some t→args.toList[j]?=some v→Value.okWide P w r b0 t v) :
  Calls P f args w fun e w'=>e=.returned (.bool true)∧Below w.heap.size w w':=by
 obtain ⟨xs,h1,h2⟩:=in_all ts _ ds ps _ hs hA hv h
 refine (h1 w (pinAll w) args hg (agree_all w) h2).mono fun e w' h=>?_
 obtain ⟨u,S',h3,h4,_,_,_,h5⟩:=h
 simp only [CV] at h5
 exact ⟨by rw [h3,h5],h4⟩
theorem trodAll_stay (hl:laidOutB P=true) {w':World} (hb:Below w.heap.size w w'):∀ (ts:List TypeId) (vs:List Value) (ds:List (DataW H)) (ps:List MemPlace),(ts.all fun t=>P.readableRec t&&decide (t < P.types.size))=true →
  DataW.TrodAll enc P w 0 (fun _=>true) true ts vs ds ps→DataW.TrodAll enc P w' 0 (fun b=>decide (b < w.heap.size)) true ts vs ds ps
 | [],[],[],ps,_,h=>h
 | t::ts,v::vs,d::ds,ps,hs,h=>by
  simp only [List.all_cons,Bool.and_eq_true,decide_eq_true_eq] at hs
  obtain ⟨p,q,h1,h2,h3⟩:=h
  have hlt:∀ x ∈ p,x.block < w.heap.size:=by obtain ⟨m,hm⟩:=h1; exact DataW.trod_lt m _ _ _ hm
  exact ⟨p,q,Below.trod hl hs.1.1 hs.1.2 h1 hb hlt,trodAll_stay hl hb ts vs ds q hs.2 h2,h3⟩
 | [],v::vs,ds,ps,_,h=>by cases ds <;> simp [DataW.TrodAll] at h
 | [],[],d::ds,ps,_,h=>by simp [DataW.TrodAll] at h
 | t::ts,[],ds,ps,_,h=>by cases ds <;> simp [DataW.TrodAll] at h
 | t::ts,v::vs,[],ps,_,h=>by simp [DataW.TrodAll] at h
def suppG (P:Program):Nat→TypeId→Bool
 | 0,_=>false
 | n+1,t=>match P.underlying t with
  | some .bool=>true
  | some (.int _)=>true
  | some .string=>true
  | some (.struct fs)=>tiles P fs.toList 0 (P.cellsOf t)&&fs.toList.all fun f=>suppG P n f.type
  | some (.array m e)=>Nat.beq (m*P.cellsOf e) (P.cellsOf t)&&suppG P n e
  | _=>false
mutual
def flatD:DataW H→List AV
 | .lit (.bool b)=>[.bool b]
 | .lit (.int k z)=>[.int k z]
 | .lit (.string l)=>[.str ⟨l.toArray⟩]
 | .agg ds=>flatDs ds
 | _=>[.dead]
def flatDs:List (DataW H)→List AV
 | []=>[]
 | d::ds=>flatD d++flatDs ds
end
theorem flatF {S:Pin} {vs:List Value}:∀ (fs:List Field) (ds:List (DataW H)) (o tot:Nat),tiles P fs o tot=true→vs.length=tot→ds.length=fs.length →
  (∀ (i:Nat) (f:Field) (d:DataW H),fs[i]?=some f→ds[i]?=some d→CVl S (flatD d) noNm ((vs.drop f.offset).take (P.cellsOf f.type)))→CVl S (flatDs ds) noNm (vs.drop o)
 | [],[],o,tot,ht,hl,_,_=>by
  simp only [tiles] at ht
  have:=Nat.eq_of_beq_eq_true ht
  simp only [flatDs,CVl]; exact List.drop_eq_nil_of_le (by omega)
 | f::fs,d::ds,o,tot,ht,hl,hd,h=>by
  simp only [tiles,Bool.and_eq_true] at ht
  obtain ⟨ho,ht⟩:=ht
  have ho:=Nat.eq_of_beq_eq_true ho
  have h1:=h 0 f d rfl rfl
  have h2:=flatF fs ds _ tot ht hl (by simpa using hd) (fun i g d' hg hd'=>h (i+1) g d' (by simpa using hg) (by simpa using hd'))
  rw [ho] at h1
  have e:vs.drop o=(vs.drop o).take (P.cellsOf f.type)++vs.drop (o+P.cellsOf f.type):=by
   rw [← List.drop_drop]; exact (List.take_append_drop _ _).symm
  rw [e]
  simp only [flatDs]
  exact CVl.append h1 h2
 | [],_::_,_,_,_,_,hd,_=>by simp at hd
 | _::_,[],_,_,_,_,hd,_=>by simp at hd
theorem flatE {S:Pin} {s:Nat}:∀ (ds:List (DataW H)) (vs:List Value),vs.length=ds.length*s→(∀ (i:Nat) (d:DataW H),ds[i]?=some d→CVl S (flatD d) noNm ((vs.drop (i*s)).take s))→CVl S (flatDs ds) noNm vs
 | [],vs,hl,_=>by simp only [flatDs,CVl]; exact List.eq_nil_of_length_eq_zero (by simpa using hl)
 | d::ds,vs,hl,h=>by
  have h1:=h 0 d rfl
  have hl':vs.length=ds.length*s+s:=by rw [hl,List.length_cons,Nat.succ_mul]
  have h2:=flatE (S:=S) (s:=s) ds (vs.drop s) (by rw [List.length_drop]; omega) (fun i d' hd=>by
   have:=h (i+1) d' (by simpa using hd)
   rw [List.drop_drop,show s+i*s=(i+1)*s by rw [Nat.succ_mul]; omega]
   exact this)
  rw [Nat.zero_mul,List.drop_zero] at h1
  have e:vs=vs.take s++vs.drop s:=(List.take_append_drop _ _).symm
  rw [e]
  simp only [flatDs]
  exact CVl.append h1 h2
theorem flat_of_trod {S:Pin} {spare:Nat→Bool}:∀ (n:Nat) (t:TypeId) (fuel:Nat) (vs:List Value) (x:DataW H × List MemPlace),suppG P n t=true→DataW.trod enc P w base spare held fuel t vs=some x→CVl S (flatD x.1) noNm vs
 | 0,t,_,_,_,hs,_=>by simp [suppG] at hs
 | n+1,t,fuel,vs,x,hs,h=>by
  unfold suppG at hs
  split at hs
  ·next ht =>
   obtain ⟨b,rfl,rfl⟩:=DataW.trod_bool ht h
   exact ⟨_,_,rfl,rfl,rfl⟩
  ·next k ht =>
   obtain ⟨z,rfl,rfl,hw⟩:=DataW.trod_int ht h
   exact ⟨_,_,rfl,⟨rfl,rng_wf hw⟩,rfl⟩
  ·next ht =>
   obtain ⟨s,rfl,rfl,hw⟩:=DataW.trod_string ht h
   exact ⟨_,_,rfl,⟨by simp,by simpa using hw⟩,rfl⟩
  ·next fs ht =>
   simp only [Bool.and_eq_true,List.all_eq_true] at hs
   obtain ⟨xs,m,_,rfl,hl,hxl,hf⟩:=DataW.trod_struct ht h
   have:=flatF (S:=S) (vs:=vs) fs.toList (xs.map (·.1)) 0 _ hs.1 hl (by simpa using hxl) (fun i f d hi hd=>by
    have h1:=hf i f (by simpa using hi)
    rw [List.getElem?_map] at hd
    cases hx:xs[i]? with
    | none=>rw [hx] at hd; cases hd
    | some y =>
     rw [hx] at hd h1
     simp only [Option.map_some,Option.some.injEq] at hd
     subst hd
     exact flat_of_trod n f.type m _ _ (hs.2 f (List.mem_of_getElem? hi)) h1)
   simpa [flatD] using this
  ·next m e ht =>
   simp only [Bool.and_eq_true] at hs
   obtain ⟨xs,q,_,rfl,hl,hxl,hf⟩:=DataW.trod_array ht h
   have hsz:=Nat.eq_of_beq_eq_true hs.1
   have:=flatE (S:=S) (s:=P.cellsOf e) (xs.map (·.1)) vs (by simp only [List.length_map]; rw [hxl]; omega) (fun i d hd=>by
    rw [List.getElem?_map] at hd
    cases hx:xs[i]? with
    | none=>rw [hx] at hd; cases hd
    | some y =>
     have hi:i < m:=by have:=(List.getElem?_eq_some_iff.1 hx).1; omega
     have h1:=hf i hi
     rw [hx] at hd h1
     simp only [Option.map_some,Option.some.injEq] at hd
     subst hd
     exact flat_of_trod n e q _ _ hs.2 h1)
   simpa [flatD] using this
  ·cases hs
end
theorem intsA_of {xs:List (List AV)} (h:∀ x ∈ xs,∃ z,rng .i64 z∧x=[.int .i64 z]):IntsA xs:=fun x hx=>by
 obtain ⟨z,h1,h2⟩:=h x hx
 exact ⟨z,h2,h1⟩
theorem glob_cells {W:World} {g:Nat} {cs:Array Value} {az:List AV} (hc:∀ i,W.cell? ⟨g,i,none⟩=cs[i]?) (h:CVl (pinAll W) az noNm cs.toList) (h1:allOne az=true):CC (pinAll W) az g 0:=by
 refine CC.mk fun j x hx=>?_
 obtain ⟨u,hu,hcv⟩:=CVl.get h hx
 have h2:=hc j
 rw [show cs[j]?=some u by simpa using hu] at h2
 rw [Nat.zero_add]
 exact ⟨u,pinAll_some h2 (allOne_cv h h1 u (List.mem_of_getElem? hu)),hcv⟩
end Go.Proofs.YtldiagnbagpliaaGreatDoor
