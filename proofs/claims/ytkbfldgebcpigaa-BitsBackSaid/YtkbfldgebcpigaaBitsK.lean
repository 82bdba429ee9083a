/- The walks of the reference's width, All, Append. -/
import Derived.Test.YtkbfldgebcpigaaBitsJ
import Derived.Test.YtkbfldgebcpigaaPads
namespace Go.Proofs.Ytkbfldgebcpigaa
open Go.RowKit

set_option maxHeartbeats 400000 in
theorem rwidth_any (n : Int) (w : World) :
    Calls Try.prog 34 #[.int .i64 n] w fun e w' => e = .returned (.bool (widthB n)) ∧ w = w' := by
  by_cases h1 : 1 ≤ n
  · by_cases h2 : n ≤ 24
    · go_enter Try.func34, Try.ntmps34
      go_wp2
      go_ret
      exact ⟨by simp [widthB, h1, h2], rfl⟩
    · go_enter Try.func34, Try.ntmps34
      go_wp2
      go_ret
      exact ⟨ret_bool (by simp [widthB]; omega), rfl⟩
  · go_enter Try.func34, Try.ntmps34
    go_wp2
    go_ret
    exact ⟨ret_bool (by simp [widthB]; omega), rfl⟩

theorem i64s_snoc (l : List Nat) (x : Nat) : i64s (l ++ [x]) = i64s l ++ [.int .i64 ((x : Nat) : Int)] := by simp [i64s]
theorem unpack_succ (bs : List Nat) (k : Nat) : unpack bs (k + 1) = unpack bs k ++ [bitOf bs k] := by simp [unpack, List.range_succ]

set_option maxHeartbeats 1000000 in
theorem rall_any (A : Option Addr) (n c m : Nat) (bs : List Nat) (w : World) (hr : Rd w w.heap.size A (u8s bs)) (hl : bs.length = n) (hn : n ≤ 140737488355328) (hB : Bytes bs) (hm : m ≤ 40000) (hmn : m ≤ 8 * n) :
    Calls Try.prog 35 #[.agg #[.slice A n c, .int .i64 (m : Nat)]] w fun e w' => ∃ v, e = .returned v ∧ w'.ownsRow w.heap.size 3 1 v m (i64s (unpack bs m)) ∧ Below w.heap.size w w' := by
  obtain ⟨i0, hi, hz0, hz1, hz2⟩ := info_parts info_int
  have C2 := Lib.hid (fun (W : World) (hb : Below w.heap.size w W) (i : Int) (h0 : 0 ≤ i) (h1 : i < 8 * (n : Int)) => at_any A n c m i bs W (rd_ext hr hb) hl hn hB h0 h1)
  have HX := Lib.hid (below_box w (.cells #[.slice A n c, .int .i64 (m : Nat)] 28))
  have K1 := Lib.hid (Blk.new w 28 #[.slice A n c, .int .i64 (m : Nat)])
  clear hr hl hB
  go_enter Try.func35, Try.ntmps35
  go_wp2
  go_loopw [3, 4] (fun v i wr => ∃ k : Nat, k ≤ m ∧ i = .int .i64 k ∧ wr.ownsRow w.heap.size 3 1 v k (i64s (unpack bs k)) ∧ Blk wr w.heap.size 28 #[.slice A n c, .int .i64 (m : Nat)] ∧ Below w.heap.size w wr) (fun _ i _ => m - (intOf i).toNat)
  case atStart => exact ⟨0, Nat.zero_le _, rfl, World.ownsRow_nil _ _ _ _, K1.out, HX.out⟩
  case round =>
    obtain ⟨k, hk, rfl, hown, k1, x1⟩ := hrel
    clear K1 HX
    obtain ⟨-, A4, c4, rfl, -, -, -⟩ := own_slice hown
    have j0 : wr.cell? ⟨w.heap.size, 0, none⟩ = some (.slice A n c) := by rw [k1.cell]; rfl
    have j1 : wr.cell? ⟨w.heap.size, 1, none⟩ = some (.int .i64 (m : Nat)) := by rw [k1.cell]; rfl
    have K1 := Lib.hid k1
    have X1 := Lib.hid x1
    have HO := Lib.hid hown
    clear k1 x1 hown
    by_cases hlt : k < m
    · have US := Lib.hid (unpack_succ bs k)
      go_wp2_with fail
      refine (C2.out _ X1.out k (by omega) (by omega)).mono ?_
      rintro e w2 ⟨rfl, hb2⟩
      rw [Int.toNat_natCast]
      generalize bitOf bs k = x at US ⊢
      have K1 := Lib.hid (blk_next K1.out hb2)
      have X1 := Lib.hid (ext_next X1.out hb2)
      have HO := Lib.hid (World.ownsRow.kept HO.out (grown_below hb2 none) (by cases A4 <;> simp [Value.ownBlock]))
      clear hb2 j0 j1
      go_wp2_with (at_builtin; refine wpList_append_own _ rfl (.tmp 11) (.tmp 15) 22 rfl w.heap.size 3 i0 (.int .i64 0) 1 8 Try.underlying22 hi hz0 hz1 hz2 rfl (by decide) _ _ _ rfl (HO.out.alloc _) ⟨w2.heap.size, 0, none⟩ 1 1 [.int .i64 x] rfl rfl ?c1 ?c2 ?c3 ?c4 ?c5 ?_)
      case c1 =>
        intro j u hj
        match j, hj with
        | 0, hj => simp at hj; subst hj; simp [Addr.add]
      case c2 => intro u hu; simp at hu; subst hu; rfl
      case c3 => unfold maxLen; omega
      case c4 => omega
      case c5 => have := X1.out.size; simp; omega
      intro v1 w4 hown4 hgrow4 _
      have K1 := Lib.hid ((K1.out.alloc (.cells #[.int .i64 x] 3)).grown hgrow4 (fun e => own_blk_ne HO.out K1.out (by decide) e.symm))
      have X1 := Lib.hid ((ext_alloc X1.out (.cells #[.int .i64 x] 3)).grown hgrow4 (by have := X1.out.size; simp; omega) (fun k hk => (HO.out.lt _ hk).1))
      have HO4 := Lib.hid hown4
      clear hown4 hgrow4
      go_wp2
      go_roundw
      case rel =>
        refine ⟨k + 1, by omega, by go_num, ?_, K1.out, X1.out⟩
        rw [US.out, i64s_snoc]
        exact HO4.out
      case measure => simp [intOf]; omega
    · have hkm : k = m := by omega
      subst hkm
      go_wp2
      go_ret
      exact ⟨_, rfl, HO.out, X1.out⟩
end Go.Proofs.Ytkbfldgebcpigaa
