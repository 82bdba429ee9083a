/- Walks of package bits: bit, copied, writer.write. -/
import Derived.Test.YtkbfldgebcpigaaBitsA
import Derived.Outline
import Derived.Laws.CopyOwn
namespace Go.Proofs.Ytkbfldgebcpigaa
open Go.RowKit

theorem info_u8 : (Try.prog.info? 5).map (fun i => (i.zero, i.size, i.bytes)) = some (some (.int .u8 0), 1, 1) := by kernel_rfl
theorem size_u8 : (Try.prog.info? 5).map (·.size) = some 1 := by kernel_rfl

/-- The slice value v, made by the call, is the row of the cells xs and nothing else is known of its room. -/
theorem own_slice {w : World} {base e n : Nat} {v : Value} {xs : List Value} (h : w.ownsRow base e 1 v n xs) : xs.length = n ∧ ∃ A c, v = .slice A n c ∧ n ≤ c ∧ c ≤ maxLen ∧ (A = none → c = 0) := by
  refine ⟨by simpa using h.1, ?_⟩
  rcases h.2 with ⟨rfl, rfl⟩ | ⟨g, cap, cur, rfl, _, _, h1, h2, _⟩
  · exact ⟨none, 0, rfl, Nat.le_refl _, by unfold maxLen; omega, fun _ => rfl⟩
  · exact ⟨some ⟨g, 0, none⟩, cap, rfl, h1, h2, (fun h => by cases h)⟩
theorem own_at {w : World} {base e n : Nat} {v : Value} {xs : List Value} (h : w.ownsRow base e 1 v n xs) (hn : 0 < n) : ∃ g c, v = .slice (some ⟨g, 0, none⟩) n c ∧ base ≤ g ∧ g < w.heap.size ∧ (∀ j u, xs[j]? = some u → w.cell? ⟨g, j, none⟩ = some u) ∧ ∀ j, w.frozen? ⟨g, j, none⟩ = false := by
  have h' := h
  rcases h.2 with ⟨rfl, rfl⟩ | ⟨g, cap, cur, rfl, hb, hh, h1, h2, _⟩
  · omega
  · refine ⟨g, cap, rfl, hb, (Array.getElem?_eq_some_iff.1 hh).1, fun j u hu => ?_, fun j => by simp [World.frozen?, hh]⟩
    rw [h'.cellAt j (by have := h'.1; have := (List.getElem?_eq_some_iff.1 hu).1; omega)]
    exact hu

theorem shr_bit (z k : Nat) (hz : z < 256) (hk : k < 8) : bits .and .i64 (wrap64 (((z : Nat) : Int) / 2 ^ k)) 1 = ((z / 2 ^ k % 2 : Nat) : Int) := by
  have key : ∀ k, k < 8 → ∀ z, z < 256 → bits .and .i64 (wrap64 (((z : Nat) : Int) / 2 ^ k)) 1 = ((z / 2 ^ k % 2 : Nat) : Int) := by decide +kernel
  exact key k hk z hz

/-- A new row of n bytes. -/
def zrow (n : Nat) : Array Value := madeCells #[.int .u8 0] n
theorem size_zrow (n : Nat) : (zrow n).size = n := size_madeCells _ _
theorem list_zrow (n : Nat) : (zrow n).toList = List.replicate n (.int .u8 0) := toList_madeCells_one _ _
theorem make_u8 (n : Nat) (hn : n ≤ 140737488355328) (W : World) :
    (Instr.makeSlice 26 (.int .i64 (n : Int)) (.int .i64 (n : Int))).run Try.prog W = .ok (.slice (some ⟨W.heap.size, 0, none⟩) n n) (W.alloc (.cells (zrow n) 5)) := by
  obtain ⟨i0, hi, hz0, hz1, hz2⟩ := info_parts info_u8
  have h := run_make (P := Try.prog) W 26 5 i0 (.int .u8 0) Try.underlying26 hi hz0 .i64 .i64 n n (by omega) (by omega) (by rw [hz2]; omega) (by omega)
  rw [hz1, Nat.mul_one, Int.toNat_natCast] at h
  exact h

set_option maxHeartbeats 400000 in
theorem bit_any (A : Option Addr) (n c : Nat) (len i : Int) (bs : List Nat) (w : World) (hr : Rd w w.heap.size A (u8s bs)) (hl : bs.length = n) (hn : n ≤ 140737488355328) (hB : Bytes bs) (h0 : 0 ≤ i) (hi : i < 8 * (n : Int)) :
    Calls Try.prog 32 #[.agg #[.slice A n c, .int .i64 len], .int .i64 i] w fun e w' => e = .returned (.int .i64 ((bitOf bs i.toNat : Nat) : Int)) ∧ Below w.heap.size w w' := by
  obtain ⟨k, rfl⟩ := Int.eq_ofNat_of_zero_le h0
  rw [Int.toNat_natCast]
  obtain ⟨b, o, rfl, hb, hc⟩ := hr.at_ (k := k / 8) (by rw [length_u8s]; omega)
  have hz := hc (k / 8) _ (u8s_at bs (k / 8) (by omega))
  have hzb := hB (k / 8)
  have HV : Hid (bitOf bs k = bs.getD (k / 8) 0 / 2 ^ (7 - k % 8) % 2) := hidI rfl
  generalize bs.getD (k / 8) 0 = z at hz HV hzb
  have h1 : (k : Int) / 8 < n := by omega
  have h2 : ((k : Int) / 8).toNat = k / 8 := by omega
  have h3 : 0 ≤ 7 - (k : Int) % 8 := by omega
  have h4 : 7 - (k : Int) % 8 < 8 := by omega
  clear hr hl hB hc
  go_enter Try.func32, Try.ntmps32
  have HQ := Lib.hid (shr_bit z (7 - k % 8) hzb (by omega))
  go_wp2
  go_ret
  exact ⟨ret_int (by rw [HV.out]; exact HQ.out), below_box _ _⟩

theorem splice_all {α : Type} (L cs : List α) (h : cs.length = L.length) : splice L 0 cs = cs := by
  unfold splice
  rw [List.take_zero, List.nil_append, Nat.zero_add, h, List.drop_length, List.append_nil]
theorem blk2 (w : World) (o : Obj) (n : Nat) : ((w.alloc o).alloc (.cells (zrow n) 5)).heap[w.heap.size + 1]? = some (.cells (zrow n).toList.toArray 5 (0, 0)) := by
  have h := Blk.new (w.alloc o) 5 (zrow n)
  rw [World.size_alloc] at h
  exact h

set_option maxHeartbeats 400000 in
theorem copied_any (A : Option Addr) (n c : Nat) (len : Int) (bs : List Nat) (w : World) (hr : Rd w w.heap.size A (u8s bs)) (hl : bs.length = n) (hn : n ≤ 140737488355328) :
    Calls Try.prog 30 #[.agg #[.slice A n c, .int .i64 len]] w fun e w' => ∃ gw v, e = .returned (.pointer (some ⟨gw, 0, none⟩)) ∧ Blk w' gw 57 #[v, .int .i64 len] ∧ w'.ownsRow w.heap.size 5 1 v n (u8s bs) ∧ w.heap.size ≤ gw ∧ Below w.heap.size w w' := by
  have hmk := make_u8 n hn
  have HR := Lib.hid hr
  have HL := Lib.hid hl
  clear hr hl
  go_enter Try.func30, Try.ntmps30
  go_wp2_with (with_reducible show wpList _ _ _ (⟨some 11, _, _, _, _, _⟩ :: _) _ _; refine wpList_copy_splice rfl (.tmp 8) (.tmp 10) 26 26 rfl 5 Try.underlying26 size_u8 (some ⟨w.heap.size + 1, 0, none⟩) A n n n c rfl rfl (w.heap.size + 1) 0 (zrow n).toList 5 ?hg (u8s bs) ?hn ?hpos ?hfit (u8s_one bs) (w.heap.size + 1) _ (Below.refl _ _) (by omega) ?_)
  case hg => exact blk2 w _ _
  case hn => rw [length_u8s, HL.out]; simp
  case hpos =>
    intro hp
    obtain ⟨b, o, rfl, hb, hc⟩ := HR.out.at_ hp
    refine ⟨⟨b, o, none⟩, rfl, fun j v hj => ?_⟩
    have h1 := hc j v hj
    have e : (Addr.add ⟨b, o, none⟩ j) = ⟨b, o + j, none⟩ := by unfold Addr.add; split <;> simp_all
    rw [e, World.cell?_alloc_lt _ _ _ (by simp; omega), World.cell?_alloc_lt _ _ _ (by simpa using hb)]
    exact h1
  case hfit => rw [length_u8s, list_zrow]; simp [HL.out]
  intro w1 hblk hbel
  have hc1 : w1.cell? ⟨w.heap.size, 1, none⟩ = some (.int .i64 len) := by
    rw [hbel.cell (p := ⟨w.heap.size, 1, none⟩) (by simp), World.cell?_alloc_lt _ _ _ (by simp)]
    simp
  have hsz := hbel.size
  simp only [World.size_alloc] at hsz
  have hbw : Below w.heap.size w w1 := (((Below.refl _ _).alloc (Nat.le_refl _) _).alloc (by simp) _).trans (hbel.mono (by omega))
  have HB : Blk w1 (w.heap.size + 1) 5 (u8s bs).toArray := by
    have h := hblk.out
    rw [splice_all _ _ (by rw [length_u8s, list_zrow]; simp [HL.out])] at h
    exact h
  have HH := Lib.hid HB
  clear HB hblk hmk hbel
  go_wp2
  go_ret
  refine ⟨w1.heap.size, .slice (some ⟨w.heap.size + 1, 0, none⟩) n n, rfl, Blk.new _ _ _, ?_, by omega, hbw.alloc (by omega) _⟩
  refine ⟨by rw [length_u8s, HL.out]; omega, .inr ⟨_, n, _, rfl, by omega, HH.out.alloc _, Nat.le_refl _, by unfold maxLen; omega, by simp [length_u8s, HL.out], ?_⟩⟩
  rw [Nat.mul_one]
  exact List.take_of_length_le (by simp [length_u8s, HL.out])
end Go.Proofs.Ytkbfldgebcpigaa
