/- Walks: the law ScoreTables. -/
import Derived.Test.YtjllgdpnbllnjaaScJ
import Derived.Test.YtjllgdpnbllnjaaScG
import Derived.Test.YtjllgdpnbllnjaaArgs
import Derived.Deep.RegionHeld3
import Derived.Deep.DeepCutAuto
namespace Go.Proofs.Ytjllgdpnbllnjaa
open Go.RowKit

def Cut3 (w wx : World) (h a m o : Int) (s : Value) : Prop := ∃ g h' a' m' o', s = .pointer (some ⟨g, 0, none⟩) ∧ Blk wx g 23 #[.int .i64 h', .int .i64 a', .int .i64 m', .int .i64 o'] ∧ w.heap.size < g ∧ I64 h' ∧ I64 a' ∧ I64 m' ∧ I64 o' ∧ Blk wx w.heap.size 23 #[.int .i64 h, .int .i64 a, .int .i64 m, .int .i64 o] ∧ Below w.heap.size w wx
theorem kmod_i64 (x n : Int) (h : 1 ≤ n ∧ n ≤ 100000) : I64 (kmod x n) := by
  have := kmod_range x n h.1; unfold I64; omega
theorem rows12 {wr : World} {g : Nat} {h a m o h' a' m' o' : Int} (K : Blk wr g 23 #[.int .i64 h, .int .i64 a, .int .i64 m, .int .i64 o, .int .i64 h', .int .i64 a', .int .i64 m', .int .i64 o', .int .i64 h', .int .i64 a', .int .i64 m', .int .i64 o]) (gh : I64 h) (ga : I64 a) (gm : I64 m) (go : I64 o) (gh' : I64 h') (ga' : I64 a') (gm' : I64 m') (go' : I64 o') {k : Nat} (hk : k < 3) :
    ∃ H A M O, Hid (I64 H ∧ I64 A ∧ I64 M ∧ I64 O) ∧ wr.cell? ⟨g, k * 4, none⟩ = some (.int .i64 H) ∧ wr.cell? ⟨g, k * 4 + 1, none⟩ = some (.int .i64 A) ∧ wr.cell? ⟨g, k * 4 + 2, none⟩ = some (.int .i64 M) ∧ wr.cell? ⟨g, k * 4 + 3, none⟩ = some (.int .i64 O) := by
  have hk' : k = 0 ∨ k = 1 ∨ k = 2 := by omega
  rcases hk' with rfl | rfl | rfl
  · exact ⟨h, a, m, o, hidI ⟨gh, ga, gm, go⟩, K.cell _, K.cell _, K.cell _, K.cell _⟩
  · exact ⟨h', a', m', o', hidI ⟨gh', ga', gm', go'⟩, K.cell _, K.cell _, K.cell _, K.cell _⟩
  · exact ⟨h', a', m', o, hidI ⟨gh', ga', gm', go⟩, K.cell _, K.cell _, K.cell _, K.cell _⟩
theorem con_any {P : Int × Int × Int} {f : FuncId} {args : Array Value} {r : Int × Int × Int} (H : ∀ W, Calls Try.prog f args W fun e w' => FRes W w' e P) (hr : P = r) : Hid (∀ W, Calls Try.prog f args W fun e w' => FRes W w' e r) := hr ▸ hidI H
set_option maxHeartbeats 4000000 in
set_option maxRecDepth 100000 in
theorem tables_any (h a m o : Int) (w : World) (gh : I64 h) (ga : I64 a) (gm : I64 m) (go : I64 o) :
    Calls Try.prog 3 #[.agg #[.int .i64 h, .int .i64 a, .int .i64 m, .int .i64 o]] w fun e w' => e = .returned (.bool true) ∧ Below w.heap.size w w' := by
  replace gh := Lib.hid gh
  replace ga := Lib.hid ga
  replace gm := Lib.hid gm
  replace go := Lib.hid go
  go_enter Try.func3, Try.ntmps3
  go_wp2_with fail
  refine (awake_any _).mono ?_
  rintro e w1 ⟨rfl, hb⟩
  have K0 := Lib.hid (blk_next (Blk.new w 23 #[.int .i64 h, .int .i64 a, .int .i64 m, .int .i64 o]) hb)
  have X := Lib.hid (ext_next (below_box w (.cells #[.int .i64 h, .int .i64 a, .int .i64 m, .int .i64 o] 23)) hb)
  clear hb
  have c0 : w1.cell? ⟨w.heap.size, 0, none⟩ = some (.int .i64 h) := by rw [K0.out.cell]; rfl
  have c1 : w1.cell? ⟨w.heap.size, 1, none⟩ = some (.int .i64 a) := by rw [K0.out.cell]; rfl
  have c2 : w1.cell? ⟨w.heap.size, 2, none⟩ = some (.int .i64 m) := by rw [K0.out.cell]; rfl
  have c3 : w1.cell? ⟨w.heap.size, 3, none⟩ = some (.int .i64 o) := by rw [K0.out.cell]; rfl
  have hlt : w.heap.size < w1.heap.size := K0.out.lt
  go_upto_region 3 with fail
  have CB : Hid (∀ V, Below w1.heap.size w1 V → V.cell? ⟨w.heap.size, 0, none⟩ = some (.int .i64 h) ∧ V.cell? ⟨w.heap.size, 1, none⟩ = some (.int .i64 a) ∧ V.cell? ⟨w.heap.size, 2, none⟩ = some (.int .i64 m) ∧ V.cell? ⟨w.heap.size, 3, none⟩ = some (.int .i64 o)) := hidI (fun V hV => by
        rw [(blk_next K0.out hV).cell, (blk_next K0.out hV).cell, (blk_next K0.out hV).cell, (blk_next K0.out hV).cell]; exact ⟨rfl, rfl, rfl, rfl⟩)
  go_cut [3] (fun s wx => Cut3 w wx h a m o s)
  case first =>
    go_region_held3 (fun w' => w'.cell? ⟨w.heap.size, 0, none⟩ = some (.int .i64 h) ∧ w'.cell? ⟨w.heap.size, 1, none⟩ = some (.int .i64 a) ∧ w'.cell? ⟨w.heap.size, 2, none⟩ = some (.int .i64 m) ∧ w'.cell? ⟨w.heap.size, 3, none⟩ = some (.int .i64 o))
      (first | exact CB.out _ (by repeat (first | exact Below.refl _ _ | refine ext_drew ?_ | refine ext_alloc ?_ _ | refine Below.setCell ?_ (by simp <;> omega) _)) | go_keep)
      ((go_at_call 10; refine (mod_any _ _ _ (by first | exact gh.out | exact ga.out | exact gm.out | exact go.out) (by omega)).mono ?_; rintro e w2 ⟨rfl, rfl⟩))
    all_goals
      go_wp2_with fail
      go_meet
      exact ⟨_, _, _, _, _, rfl, (blk_new _ _ rfl).drew, hlt, kmod_i64 _ _ (by omega), kmod_i64 _ _ (by omega), kmod_i64 _ _ (by omega), kmod_i64 _ _ (by omega), (K0.out.alloc _).drew, ext_drew (ext_alloc X.out _)⟩
  case rest =>
  clear c0 c1 c2 c3 CB K0 X
  obtain ⟨g, h', a', m', o', rfl, KS, hwg, gh', ga', gm', go', K0, X⟩ := hcut
  replace gh' := Lib.hid gh'
  replace ga' := Lib.hid ga'
  replace gm' := Lib.hid gm'
  replace go' := Lib.hid go'
  replace KS := Lib.hid KS
  replace K0 := Lib.hid K0
  replace X := Lib.hid X
  have s0 : wc.cell? ⟨g, 0, none⟩ = some (.int .i64 h') := by rw [KS.out.cell]; rfl
  have s1 : wc.cell? ⟨g, 1, none⟩ = some (.int .i64 a') := by rw [KS.out.cell]; rfl
  have s2 : wc.cell? ⟨g, 2, none⟩ = some (.int .i64 m') := by rw [KS.out.cell]; rfl
  have s3 : wc.cell? ⟨g, 3, none⟩ = some (.int .i64 o') := by rw [KS.out.cell]; rfl
  have c0 : wc.cell? ⟨w.heap.size, 0, none⟩ = some (.int .i64 h) := by rw [K0.out.cell]; rfl
  have c1 : wc.cell? ⟨w.heap.size, 1, none⟩ = some (.int .i64 a) := by rw [K0.out.cell]; rfl
  have c2 : wc.cell? ⟨w.heap.size, 2, none⟩ = some (.int .i64 m) := by rw [K0.out.cell]; rfl
  have c3 : wc.cell? ⟨w.heap.size, 3, none⟩ = some (.int .i64 o) := by rw [K0.out.cell]; rfl
  have hgc : g < wc.heap.size := KS.out.lt
  have hwc : w.heap.size < wc.heap.size := K0.out.lt
  have KR := Lib.hid (blk_new (W := wc.alloc (.cells #[.int .i64 h', .int .i64 a', .int .i64 m', .int .i64 o] 23)) (g := wc.heap.size + 1) 23 #[.int .i64 h, .int .i64 a, .int .i64 m, .int .i64 o, .int .i64 h', .int .i64 a', .int .i64 m', .int .i64 o', .int .i64 h', .int .i64 a', .int .i64 m', .int .i64 o] (by simp))
  have XR := Lib.hid (ext_alloc (ext_alloc X.out (.cells #[.int .i64 h', .int .i64 a', .int .i64 m', .int .i64 o] 23)) (.cells #[.int .i64 h, .int .i64 a, .int .i64 m, .int .i64 o, .int .i64 h', .int .i64 a', .int .i64 m', .int .i64 o', .int .i64 h', .int .i64 a', .int .i64 m', .int .i64 o] 23))
  go_wp2_with fail
  generalize (wc.alloc (.cells #[.int .i64 h', .int .i64 a', .int .i64 m', .int .i64 o] 23)).alloc (.cells #[.int .i64 h, .int .i64 a, .int .i64 m, .int .i64 o, .int .i64 h', .int .i64 a', .int .i64 m', .int .i64 o', .int .i64 h', .int .i64 a', .int .i64 m', .int .i64 o] 23) = W0 at KR XR ⊢
  go_loopw [47] (fun i wr => ∃ k : Nat, k ≤ 3 ∧ i = .int .i64 k ∧ Hid (Blk wr (wc.heap.size + 1) 23 #[.int .i64 h, .int .i64 a, .int .i64 m, .int .i64 o, .int .i64 h', .int .i64 a', .int .i64 m', .int .i64 o', .int .i64 h', .int .i64 a', .int .i64 m', .int .i64 o]) ∧ Hid (Below w.heap.size w wr)) (fun i _ => 3 - (intOf i).toNat)
  case atStart => exact ⟨0, by omega, rfl, KR, XR⟩
  case round =>
    obtain ⟨k, hk, rfl, KR', XR'⟩ := hrel
    clear KR XR KS K0 X s0 s1 s2 s3 c0 c1 c2 c3
    by_cases hk3 : k < 3
    case neg =>
      have hk' : k = 3 := by omega
      subst hk'
      go_wp2
      go_ret
      exact ⟨rfl, XR'.out⟩
    case pos =>
    obtain ⟨H, B, M, O, hq, r0, r1, r2, r3⟩ := rows12 KR'.out gh.out ga.out gm.out go.out gh'.out ga'.out gm'.out go'.out hk3
    have hrr : wc.heap.size + 1 < wr.heap.size := KR'.out.lt
    obtain ⟨⟨e0, n0, d0⟩, hs0⟩ : ∃ r, ofS 0 H B M O = r := ⟨_, rfl⟩
    have P0 := con_any (fun W => detection_any H B M O W) hs0
    have Q0 := con_any (fun W => rdetection_any H B M O W hq.out.1 hq.out.2.1 hq.out.2.2.1 hq.out.2.2.2) hs0
    clear hs0
    obtain ⟨⟨e1, n1, d1⟩, hs1⟩ : ∃ r, ofS 1 H B M O = r := ⟨_, rfl⟩
    have P1 := con_any (fun W => falsealarm_any H B M O W) hs1
    have Q1 := con_any (fun W => rfalsealarm_any H B M O W hq.out.1 hq.out.2.1 hq.out.2.2.1 hq.out.2.2.2) hs1
    clear hs1
    obtain ⟨⟨e2, n2, d2⟩, hs2⟩ : ∃ r, ofS 2 H B M O = r := ⟨_, rfl⟩
    have P2 := con_any (fun W => threat_any H B M O W) hs2
    have Q2 := con_any (fun W => rthreat_any H B M O W hq.out.1 hq.out.2.1 hq.out.2.2.1 hq.out.2.2.2) hs2
    clear hs2
    obtain ⟨⟨e3, n3, d3⟩, hs3⟩ : ∃ r, ofS 3 H B M O = r := ⟨_, rfl⟩
    have P3 := con_any (fun W => heidke_any H B M O W) hs3
    have Q3 := con_any (fun W => rheidke_any H B M O W hq.out.1 hq.out.2.1 hq.out.2.2.1 hq.out.2.2.2) hs3
    clear hs3
    have KX := Lib.hid (blk_new (W := wr) (g := wr.heap.size) 23 #[.int .i64 H, .int .i64 B, .int .i64 M, .int .i64 O] rfl)
    replace KR' := Lib.hid (KR'.out.alloc (.cells #[.int .i64 H, .int .i64 B, .int .i64 M, .int .i64 O] 23))
    replace XR' := Lib.hid (ext_alloc XR'.out (.cells #[.int .i64 H, .int .i64 B, .int .i64 M, .int .i64 O] 23))
    go_wp2_with fail
    refine (P0.out _).mono ?_
    rintro e v0 ⟨rfl, hb⟩
    replace KX := Lib.hid (blk_next KX.out hb)
    replace KR' := Lib.hid (blk_next KR'.out hb)
    replace XR' := Lib.hid (ext_next XR'.out hb)
    clear hb
    clear r0 r1 r2 r3 hrr
    have x0 : v0.cell? ⟨wr.heap.size, 0, none⟩ = some (.int .i64 H) := by rw [KX.out.cell]; rfl
    have x1 : v0.cell? ⟨wr.heap.size, 1, none⟩ = some (.int .i64 B) := by rw [KX.out.cell]; rfl
    have x2 : v0.cell? ⟨wr.heap.size, 2, none⟩ = some (.int .i64 M) := by rw [KX.out.cell]; rfl
    have x3 : v0.cell? ⟨wr.heap.size, 3, none⟩ = some (.int .i64 O) := by rw [KX.out.cell]; rfl
    have hx : wr.heap.size < v0.heap.size := KX.out.lt
    go_wp2_with fail
    replace KX := Lib.hid (KX.out.alloc (.cells #[.int .i64 n0, .int .i64 d0] 28))
    replace KR' := Lib.hid (KR'.out.alloc (.cells #[.int .i64 n0, .int .i64 d0] 28))
    have KF0 := Lib.hid (blk_new (W := v0) (g := v0.heap.size) 28 #[.int .i64 n0, .int .i64 d0] rfl)
    replace XR' := Lib.hid (ext_alloc XR'.out (.cells #[.int .i64 n0, .int .i64 d0] 28))
    refine (Q0.out _).mono ?_
    rintro e v1 ⟨rfl, hb⟩
    replace KX := Lib.hid (blk_next KX.out hb)
    replace KR' := Lib.hid (blk_next KR'.out hb)
    replace KF0 := Lib.hid (blk_next KF0.out hb)
    replace XR' := Lib.hid (ext_next XR'.out hb)
    clear hb
    clear x0 x1 x2 x3 hx
    have x0 : v1.cell? ⟨wr.heap.size, 0, none⟩ = some (.int .i64 H) := by rw [KX.out.cell]; rfl
    have x1 : v1.cell? ⟨wr.heap.size, 1, none⟩ = some (.int .i64 B) := by rw [KX.out.cell]; rfl
    have x2 : v1.cell? ⟨wr.heap.size, 2, none⟩ = some (.int .i64 M) := by rw [KX.out.cell]; rfl
    have x3 : v1.cell? ⟨wr.heap.size, 3, none⟩ = some (.int .i64 O) := by rw [KX.out.cell]; rfl
    have hx : wr.heap.size < v1.heap.size := KX.out.lt
    go_wp2_with fail
    replace KX := Lib.hid (KX.out.alloc (.cells #[.int .i64 n0, .int .i64 d0] 28))
    replace KR' := Lib.hid (KR'.out.alloc (.cells #[.int .i64 n0, .int .i64 d0] 28))
    replace KF0 := Lib.hid (KF0.out.alloc (.cells #[.int .i64 n0, .int .i64 d0] 28))
    have KF1 := Lib.hid (blk_new (W := v1) (g := v1.heap.size) 28 #[.int .i64 n0, .int .i64 d0] rfl)
    replace XR' := Lib.hid (ext_alloc XR'.out (.cells #[.int .i64 n0, .int .i64 d0] 28))
    refine (P1.out _).mono ?_
    rintro e v2 ⟨rfl, hb⟩
    replace KX := Lib.hid (blk_next KX.out hb)
    replace KR' := Lib.hid (blk_next KR'.out hb)
    replace KF0 := Lib.hid (blk_next KF0.out hb)
    replace KF1 := Lib.hid (blk_next KF1.out hb)
    replace XR' := Lib.hid (ext_next XR'.out hb)
    clear hb
    clear x0 x1 x2 x3 hx
    have x0 : v2.cell? ⟨wr.heap.size, 0, none⟩ = some (.int .i64 H) := by rw [KX.out.cell]; rfl
    have x1 : v2.cell? ⟨wr.heap.size, 1, none⟩ = some (.int .i64 B) := by rw [KX.out.cell]; rfl
    have x2 : v2.cell? ⟨wr.heap.size, 2, none⟩ = some (.int .i64 M) := by rw [KX.out.cell]; rfl
    have x3 : v2.cell? ⟨wr.heap.size, 3, none⟩ = some (.int .i64 O) := by rw [KX.out.cell]; rfl
    have hx : wr.heap.size < v2.heap.size := KX.out.lt
    go_wp2_with fail
    replace KX := Lib.hid (KX.out.alloc (.cells #[.int .i64 n1, .int .i64 d1] 28))
    replace KR' := Lib.hid (KR'.out.alloc (.cells #[.int .i64 n1, .int .i64 d1] 28))
    replace KF0 := Lib.hid (KF0.out.alloc (.cells #[.int .i64 n1, .int .i64 d1] 28))
    replace KF1 := Lib.hid (KF1.out.alloc (.cells #[.int .i64 n1, .int .i64 d1] 28))
    have KF2 := Lib.hid (blk_new (W := v2) (g := v2.heap.size) 28 #[.int .i64 n1, .int .i64 d1] rfl)
    replace XR' := Lib.hid (ext_alloc XR'.out (.cells #[.int .i64 n1, .int .i64 d1] 28))
    refine (Q1.out _).mono ?_
    rintro e v3 ⟨rfl, hb⟩
    replace KX := Lib.hid (blk_next KX.out hb)
    replace KR' := Lib.hid (blk_next KR'.out hb)
    replace KF0 := Lib.hid (blk_next KF0.out hb)
    replace KF1 := Lib.hid (blk_next KF1.out hb)
    replace KF2 := Lib.hid (blk_next KF2.out hb)
    replace XR' := Lib.hid (ext_next XR'.out hb)
    clear hb
    clear x0 x1 x2 x3 hx
    have x0 : v3.cell? ⟨wr.heap.size, 0, none⟩ = some (.int .i64 H) := by rw [KX.out.cell]; rfl
    have x1 : v3.cell? ⟨wr.heap.size, 1, none⟩ = some (.int .i64 B) := by rw [KX.out.cell]; rfl
    have x2 : v3.cell? ⟨wr.heap.size, 2, none⟩ = some (.int .i64 M) := by rw [KX.out.cell]; rfl
    have x3 : v3.cell? ⟨wr.heap.size, 3, none⟩ = some (.int .i64 O) := by rw [KX.out.cell]; rfl
    have hx : wr.heap.size < v3.heap.size := KX.out.lt
    go_wp2_with fail
    replace KX := Lib.hid (KX.out.alloc (.cells #[.int .i64 n1, .int .i64 d1] 28))
    replace KR' := Lib.hid (KR'.out.alloc (.cells #[.int .i64 n1, .int .i64 d1] 28))
    replace KF0 := Lib.hid (KF0.out.alloc (.cells #[.int .i64 n1, .int .i64 d1] 28))
    replace KF1 := Lib.hid (KF1.out.alloc (.cells #[.int .i64 n1, .int .i64 d1] 28))
    replace KF2 := Lib.hid (KF2.out.alloc (.cells #[.int .i64 n1, .int .i64 d1] 28))
    have KF3 := Lib.hid (blk_new (W := v3) (g := v3.heap.size) 28 #[.int .i64 n1, .int .i64 d1] rfl)
    replace XR' := Lib.hid (ext_alloc XR'.out (.cells #[.int .i64 n1, .int .i64 d1] 28))
    refine (P2.out _).mono ?_
    rintro e v4 ⟨rfl, hb⟩
    replace KX := Lib.hid (blk_next KX.out hb)
    replace KR' := Lib.hid (blk_next KR'.out hb)
    replace KF0 := Lib.hid (blk_next KF0.out hb)
    replace KF1 := Lib.hid (blk_next KF1.out hb)
    replace KF2 := Lib.hid (blk_next KF2.out hb)
    replace KF3 := Lib.hid (blk_next KF3.out hb)
    replace XR' := Lib.hid (ext_next XR'.out hb)
    clear hb
    clear x0 x1 x2 x3 hx
    have x0 : v4.cell? ⟨wr.heap.size, 0, none⟩ = some (.int .i64 H) := by rw [KX.out.cell]; rfl
    have x1 : v4.cell? ⟨wr.heap.size, 1, none⟩ = some (.int .i64 B) := by rw [KX.out.cell]; rfl
    have x2 : v4.cell? ⟨wr.heap.size, 2, none⟩ = some (.int .i64 M) := by rw [KX.out.cell]; rfl
    have x3 : v4.cell? ⟨wr.heap.size, 3, none⟩ = some (.int .i64 O) := by rw [KX.out.cell]; rfl
    have hx : wr.heap.size < v4.heap.size := KX.out.lt
    go_wp2_with fail
    replace KX := Lib.hid (KX.out.alloc (.cells #[.int .i64 n2, .int .i64 d2] 28))
    replace KR' := Lib.hid (KR'.out.alloc (.cells #[.int .i64 n2, .int .i64 d2] 28))
    replace KF0 := Lib.hid (KF0.out.alloc (.cells #[.int .i64 n2, .int .i64 d2] 28))
    replace KF1 := Lib.hid (KF1.out.alloc (.cells #[.int .i64 n2, .int .i64 d2] 28))
    replace KF2 := Lib.hid (KF2.out.alloc (.cells #[.int .i64 n2, .int .i64 d2] 28))
    replace KF3 := Lib.hid (KF3.out.alloc (.cells #[.int .i64 n2, .int .i64 d2] 28))
    have KF4 := Lib.hid (blk_new (W := v4) (g := v4.heap.size) 28 #[.int .i64 n2, .int .i64 d2] rfl)
    replace XR' := Lib.hid (ext_alloc XR'.out (.cells #[.int .i64 n2, .int .i64 d2] 28))
    refine (Q2.out _).mono ?_
    rintro e v5 ⟨rfl, hb⟩
    replace KX := Lib.hid (blk_next KX.out hb)
    replace KR' := Lib.hid (blk_next KR'.out hb)
    replace KF0 := Lib.hid (blk_next KF0.out hb)
    replace KF1 := Lib.hid (blk_next KF1.out hb)
    replace KF2 := Lib.hid (blk_next KF2.out hb)
    replace KF3 := Lib.hid (blk_next KF3.out hb)
    replace KF4 := Lib.hid (blk_next KF4.out hb)
    replace XR' := Lib.hid (ext_next XR'.out hb)
    clear hb
    clear x0 x1 x2 x3 hx
    have x0 : v5.cell? ⟨wr.heap.size, 0, none⟩ = some (.int .i64 H) := by rw [KX.out.cell]; rfl
    have x1 : v5.cell? ⟨wr.heap.size, 1, none⟩ = some (.int .i64 B) := by rw [KX.out.cell]; rfl
    have x2 : v5.cell? ⟨wr.heap.size, 2, none⟩ = some (.int .i64 M) := by rw [KX.out.cell]; rfl
    have x3 : v5.cell? ⟨wr.heap.size, 3, none⟩ = some (.int .i64 O) := by rw [KX.out.cell]; rfl
    have hx : wr.heap.size < v5.heap.size := KX.out.lt
    go_wp2_with fail
    replace KX := Lib.hid (KX.out.alloc (.cells #[.int .i64 n2, .int .i64 d2] 28))
    replace KR' := Lib.hid (KR'.out.alloc (.cells #[.int .i64 n2, .int .i64 d2] 28))
    replace KF0 := Lib.hid (KF0.out.alloc (.cells #[.int .i64 n2, .int .i64 d2] 28))
    replace KF1 := Lib.hid (KF1.out.alloc (.cells #[.int .i64 n2, .int .i64 d2] 28))
    replace KF2 := Lib.hid (KF2.out.alloc (.cells #[.int .i64 n2, .int .i64 d2] 28))
    replace KF3 := Lib.hid (KF3.out.alloc (.cells #[.int .i64 n2, .int .i64 d2] 28))
    replace KF4 := Lib.hid (KF4.out.alloc (.cells #[.int .i64 n2, .int .i64 d2] 28))
    have KF5 := Lib.hid (blk_new (W := v5) (g := v5.heap.size) 28 #[.int .i64 n2, .int .i64 d2] rfl)
    replace XR' := Lib.hid (ext_alloc XR'.out (.cells #[.int .i64 n2, .int .i64 d2] 28))
    refine (P3.out _).mono ?_
    rintro e v6 ⟨rfl, hb⟩
    replace KX := Lib.hid (blk_next KX.out hb)
    replace KR' := Lib.hid (blk_next KR'.out hb)
    replace KF0 := Lib.hid (blk_next KF0.out hb)
    replace KF1 := Lib.hid (blk_next KF1.out hb)
    replace KF2 := Lib.hid (blk_next KF2.out hb)
    replace KF3 := Lib.hid (blk_next KF3.out hb)
    replace KF4 := Lib.hid (blk_next KF4.out hb)
    replace KF5 := Lib.hid (blk_next KF5.out hb)
    replace XR' := Lib.hid (ext_next XR'.out hb)
    clear hb
    clear x0 x1 x2 x3 hx
    have x0 : v6.cell? ⟨wr.heap.size, 0, none⟩ = some (.int .i64 H) := by rw [KX.out.cell]; rfl
    have x1 : v6.cell? ⟨wr.heap.size, 1, none⟩ = some (.int .i64 B) := by rw [KX.out.cell]; rfl
    have x2 : v6.cell? ⟨wr.heap.size, 2, none⟩ = some (.int .i64 M) := by rw [KX.out.cell]; rfl
    have x3 : v6.cell? ⟨wr.heap.size, 3, none⟩ = some (.int .i64 O) := by rw [KX.out.cell]; rfl
    have hx : wr.heap.size < v6.heap.size := KX.out.lt
    go_wp2_with fail
    replace KX := Lib.hid (KX.out.alloc (.cells #[.int .i64 n3, .int .i64 d3] 28))
    replace KR' := Lib.hid (KR'.out.alloc (.cells #[.int .i64 n3, .int .i64 d3] 28))
    replace KF0 := Lib.hid (KF0.out.alloc (.cells #[.int .i64 n3, .int .i64 d3] 28))
    replace KF1 := Lib.hid (KF1.out.alloc (.cells #[.int .i64 n3, .int .i64 d3] 28))
    replace KF2 := Lib.hid (KF2.out.alloc (.cells #[.int .i64 n3, .int .i64 d3] 28))
    replace KF3 := Lib.hid (KF3.out.alloc (.cells #[.int .i64 n3, .int .i64 d3] 28))
    replace KF4 := Lib.hid (KF4.out.alloc (.cells #[.int .i64 n3, .int .i64 d3] 28))
    replace KF5 := Lib.hid (KF5.out.alloc (.cells #[.int .i64 n3, .int .i64 d3] 28))
    have KF6 := Lib.hid (blk_new (W := v6) (g := v6.heap.size) 28 #[.int .i64 n3, .int .i64 d3] rfl)
    replace XR' := Lib.hid (ext_alloc XR'.out (.cells #[.int .i64 n3, .int .i64 d3] 28))
    refine (Q3.out _).mono ?_
    rintro e v7 ⟨rfl, hb⟩
    replace KX := Lib.hid (blk_next KX.out hb)
    replace KR' := Lib.hid (blk_next KR'.out hb)
    replace KF0 := Lib.hid (blk_next KF0.out hb)
    replace KF1 := Lib.hid (blk_next KF1.out hb)
    replace KF2 := Lib.hid (blk_next KF2.out hb)
    replace KF3 := Lib.hid (blk_next KF3.out hb)
    replace KF4 := Lib.hid (blk_next KF4.out hb)
    replace KF5 := Lib.hid (blk_next KF5.out hb)
    replace KF6 := Lib.hid (blk_next KF6.out hb)
    replace XR' := Lib.hid (ext_next XR'.out hb)
    clear hb
    clear x0 x1 x2 x3 hx
    have x0 : v7.cell? ⟨wr.heap.size, 0, none⟩ = some (.int .i64 H) := by rw [KX.out.cell]; rfl
    have x1 : v7.cell? ⟨wr.heap.size, 1, none⟩ = some (.int .i64 B) := by rw [KX.out.cell]; rfl
    have x2 : v7.cell? ⟨wr.heap.size, 2, none⟩ = some (.int .i64 M) := by rw [KX.out.cell]; rfl
    have x3 : v7.cell? ⟨wr.heap.size, 3, none⟩ = some (.int .i64 O) := by rw [KX.out.cell]; rfl
    have hx : wr.heap.size < v7.heap.size := KX.out.lt
    have f0a : v7.cell? ⟨v0.heap.size, 0, none⟩ = some (.int .i64 n0) := by rw [KF0.out.cell]; rfl
    have f0b : v7.cell? ⟨v0.heap.size, 1, none⟩ = some (.int .i64 d0) := by rw [KF0.out.cell]; rfl
    have g0 : v0.heap.size < v7.heap.size := KF0.out.lt
    have f1a : v7.cell? ⟨v1.heap.size, 0, none⟩ = some (.int .i64 n0) := by rw [KF1.out.cell]; rfl
    have f1b : v7.cell? ⟨v1.heap.size, 1, none⟩ = some (.int .i64 d0) := by rw [KF1.out.cell]; rfl
    have g1 : v1.heap.size < v7.heap.size := KF1.out.lt
    have f2a : v7.cell? ⟨v2.heap.size, 0, none⟩ = some (.int .i64 n1) := by rw [KF2.out.cell]; rfl
    have f2b : v7.cell? ⟨v2.heap.size, 1, none⟩ = some (.int .i64 d1) := by rw [KF2.out.cell]; rfl
    have g2 : v2.heap.size < v7.heap.size := KF2.out.lt
    have f3a : v7.cell? ⟨v3.heap.size, 0, none⟩ = some (.int .i64 n1) := by rw [KF3.out.cell]; rfl
    have f3b : v7.cell? ⟨v3.heap.size, 1, none⟩ = some (.int .i64 d1) := by rw [KF3.out.cell]; rfl
    have g3 : v3.heap.size < v7.heap.size := KF3.out.lt
    have f4a : v7.cell? ⟨v4.heap.size, 0, none⟩ = some (.int .i64 n2) := by rw [KF4.out.cell]; rfl
    have f4b : v7.cell? ⟨v4.heap.size, 1, none⟩ = some (.int .i64 d2) := by rw [KF4.out.cell]; rfl
    have g4 : v4.heap.size < v7.heap.size := KF4.out.lt
    have f5a : v7.cell? ⟨v5.heap.size, 0, none⟩ = some (.int .i64 n2) := by rw [KF5.out.cell]; rfl
    have f5b : v7.cell? ⟨v5.heap.size, 1, none⟩ = some (.int .i64 d2) := by rw [KF5.out.cell]; rfl
    have g5 : v5.heap.size < v7.heap.size := KF5.out.lt
    have f6a : v7.cell? ⟨v6.heap.size, 0, none⟩ = some (.int .i64 n3) := by rw [KF6.out.cell]; rfl
    have f6b : v7.cell? ⟨v6.heap.size, 1, none⟩ = some (.int .i64 d3) := by rw [KF6.out.cell]; rfl
    have g6 : v6.heap.size < v7.heap.size := KF6.out.lt
    go_wp2
    go_roundw
    case rel => exact ⟨k + 1, by omega, by go_num, hidI (KR'.out.alloc _), hidI (ext_alloc XR'.out _)⟩
    case measure => simp [intOf]; omega
theorem tables_wf (h a m o : Int) (w : World) (gh : (Lit.int .i64 h).wf = true) (ga : (Lit.int .i64 a).wf = true) (gm : (Lit.int .i64 m).wf = true) (go : (Lit.int .i64 o).wf = true) :
    Calls Try.prog 3 #[.agg #[.int .i64 h, .int .i64 a, .int .i64 m, .int .i64 o]] w fun e w' => e = .returned (.bool true) ∧ Below w.heap.size w w' := tables_any h a m o w (i64_wf gh) (i64_wf ga) (i64_wf gm) (i64_wf go)
end Go.Proofs.Ytjllgdpnbllnjaa
