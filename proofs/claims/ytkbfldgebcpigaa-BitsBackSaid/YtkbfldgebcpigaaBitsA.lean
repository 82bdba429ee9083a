/- Walks of package bits: size, Valid, width, bit, copied. -/
import Derived.Test.YtkbfldgebcpigaaKeep
import Derived.Test.YtkbfldgebcpigaaBitsLaw
namespace Go.Proofs.Ytkbfldgebcpigaa
open Go.RowKit

def u8s (bs : List Nat) : List Value := bs.map fun b => Value.int .u8 ((b : Nat) : Int)
theorem length_u8s (bs : List Nat) : (u8s bs).length = bs.length := by simp [u8s]
theorem u8s_at (bs : List Nat) (i : Nat) (h : i < bs.length) : (u8s bs)[i]? = some (.int .u8 ((bs.getD i 0 : Nat) : Int)) := by
  simp [u8s, List.getElem?_map, List.getElem?_eq_getElem h]
theorem u8s_one (bs : List Nat) : ∀ v ∈ u8s bs, v.oneCell' = true := by
  intro v hv
  obtain ⟨b, _, rfl⟩ := List.mem_map.1 hv
  rfl
theorem and_low : ∀ f, f < 8 → ∀ z, z < 256 → bits .and .u8 ((z : Nat) : Int) ((2 ^ f - 1) % 256) = ((z % 2 ^ f : Nat) : Int) := by decide +kernel

theorem below_drewN {B : Nat} {a b : World} (h : Below B a b) (n : Nat) : Below B a (b.drewN n) := ⟨h.os, h.tape, h.output, h.size, h.block⟩
theorem below_box (w : World) (o : Obj) : Below w.heap.size w (w.alloc o) := (Below.refl _ _).alloc (Nat.le_refl _) _

set_option maxHeartbeats 400000 in
theorem size_any (n : Int) (w : World) (h0 : 0 ≤ n) (h1 : n ≤ 1000000000000) :
    Calls Try.prog 29 #[.int .i64 n] w fun e w' => e = .returned (.int .i64 ((n + 7) / 8)) ∧ w = w' := by
  go_enter Try.func29, Try.ntmps29
  go_wp2
  go_ret
  exact ⟨rfl, rfl⟩
theorem size_q (n : Int) (w : World) (h0 : 0 ≤ n) (h1 : n ≤ 1000000000000) :
    Calls Try.prog 29 #[.int .i64 n] w fun e w' => e = .returned (.int .i64 ((n + 7) / 8)) ∧ w' = w := (size_any n w h0 h1).mono fun _ _ h => ⟨h.1, h.2.symm⟩

section
variable (A : Option Addr) (n c : Nat) (len : Int) (bs : List Nat) (w : World)
theorem lastB {bs : List Nat} {len : Int} {n : Nat} (hl : bs.length = n) (h0 : 0 ≤ len) (h1 : len ≤ 40000) (h2 : (n : Int) = (len + 7) / 8) (hB : Bytes bs) (h8 : 0 ≤ 8 * (n : Int) - len) (h9 : 8 * (n : Int) - len < 8) :
    (bits .and .u8 ((bs.getD (n - 1) 0 : Nat) : Int) ((2 ^ (8 * (n : Int) - len).toNat - 1) % 256) == 0) = validB bs len := by
  subst hl
  rw [and_low _ (by omega) _ (hB _)]
  unfold validB
  rw [decide_eq_true h0, decide_eq_true h1, decide_eq_true h2, Bool.eq_iff_iff]
  simp only [Bool.true_and, beq_iff_eq, decide_eq_true_eq]
  exact Int.natCast_eq_zero
set_option maxHeartbeats 400000 in
theorem valid_any (hr : Rd w w.heap.size A (u8s bs)) (hl : bs.length = n) (hn : n ≤ 140737488355328) (hB : Bytes bs) (hlen : I64 len) :
    Calls Try.prog 27 #[.agg #[.slice A n c, .int .i64 len]] w fun e w' => e = .returned (.bool (validB bs len)) ∧ Below w.heap.size w w' := by
  obtain ⟨g1, g2⟩ := hlen
  by_cases c1 : len < 0
  · have hv : validB bs len = false := by unfold validB; simp; omega
    have HV := Lib.hid hv
    clear hr hl hB hv
    have h1 : decide (len < 0) = true := by simpa using c1
    go_enter Try.func27, Try.ntmps27
    go_wp2
    go_quiet (fail)
    go_wp2
    go_ret
    exact ⟨by rw [HV.out]; rfl, below_drewN (below_box _ _) _⟩
  by_cases c2 : 40000 < len
  · have hv : validB bs len = false := by unfold validB; simp; omega
    have HV := Lib.hid hv
    clear hr hl hB hv
    have h1 : decide (len < 0) = false := by simpa using c1
    have h2 : decide (40000 < len) = true := by simpa using c2
    go_enter Try.func27, Try.ntmps27
    go_wp2
    go_quiet (fail)
    go_wp2
    go_ret
    exact ⟨by rw [HV.out]; rfl, below_drewN (below_box _ _) _⟩
  have h1 : decide (len < 0) = false := by simpa using c1
  have h2 : decide (40000 < len) = false := by simpa using c2
  have hl0 : 0 ≤ len := by omega
  have hl1 : len ≤ 40000 := by omega
  by_cases c3 : (n : Int) = (len + 7) / 8
  · have h3 : ((n : Int) != (len + 7) / 8) = false := by simp; omega
    have h6 : (n : Int) ≤ 5001 := by omega
    have h8 : 0 ≤ 8 * (n : Int) - len := by omega
    have h9 : 8 * (n : Int) - len < 8 := by omega
    have h10 : (8 * (n : Int) - len).toNat < 8 := by omega
    by_cases c4 : (8 * (n : Int) - len == 0) = true
    · have hv : validB bs len = true := by
        have e : 8 * (n : Int) - len = 0 := by simpa using c4
        unfold validB; rw [hl, e]; simp [Nat.mod_one]; omega
      have HV := Lib.hid hv
      have C3 := Lib.hid c3
      clear hr hl hB hv c3
      go_enter Try.func27, Try.ntmps27
      go_wp2
      go_quiet ((go_at_call 29; exact Calls.quiet_of_same (size_q _ _ (by omega) (by omega))))
      go_wp2
      go_quiet (fail)
      go_wp2
      go_ret
      exact ⟨by rw [HV.out]; rfl, below_drewN (below_drewN (below_box _ _) _) _⟩
    · have c4 : (8 * (n : Int) - len == 0) = false := by simpa using c4
      have e : ¬ 8 * (n : Int) - len = 0 := by simpa using c4
      have hn0 : 0 < n := by omega
      obtain ⟨b, o, rfl, hb, hc⟩ := hr.at_ (k := n - 1) (by rw [length_u8s]; omega)
      have hz := hc (n - 1) _ (u8s_at bs (n - 1) (by omega))
      have HV := Lib.hid (lastB hl hl0 hl1 c3 hB h8 h9)
      have C3 := Lib.hid c3
      clear hr hl hB c3 hc e
      have h4 : (0 : Int) ≤ n - 1 := by omega
      have h5 : ((n : Int) - 1).toNat = n - 1 := by omega
      generalize bs.getD (n - 1) 0 = z at hz HV
      go_enter Try.func27, Try.ntmps27
      go_wp2
      go_quiet ((go_at_call 29; exact Calls.quiet_of_same (size_q _ _ (by omega) (by omega))))
      go_wp2
      go_quiet (fail)
      go_wp2
      go_ret
      exact ⟨ret_bool HV.out, below_drewN (below_drewN (below_box _ _) _) _⟩
  · have hv : validB bs len = false := by unfold validB; simp; omega
    have HV := Lib.hid hv
    have h3 : ((n : Int) != (len + 7) / 8) = true := by simpa using c3
    clear hr hl hB hv c3
    go_enter Try.func27, Try.ntmps27
    go_wp2
    go_quiet ((go_at_call 29; exact Calls.quiet_of_same (size_q _ _ (by omega) (by omega))))
    go_wp2
    go_ret
    exact ⟨by rw [HV.out]; rfl, below_drewN (below_box _ _) _⟩
end
def widthB (n : Int) : Bool := decide (1 ≤ n) && decide (n ≤ 24)
set_option maxHeartbeats 400000 in
theorem width_any (n : Int) (w : World) :
    Calls Try.prog 33 #[.int .i64 n] w fun e w' => e = .returned (.bool (widthB n)) ∧ w = w' := by
  by_cases h1 : 1 ≤ n
  · by_cases h2 : n ≤ 24
    · go_enter Try.func33, Try.ntmps33
      go_wp2
      go_ret
      exact ⟨by simp [widthB, h1, h2], rfl⟩
    · go_enter Try.func33, Try.ntmps33
      go_wp2
      go_ret
      exact ⟨ret_bool (by simp [widthB]; omega), rfl⟩
  · go_enter Try.func33, Try.ntmps33
    go_wp2
    go_ret
    exact ⟨ret_bool (by simp [widthB]; omega), rfl⟩
end Go.Proofs.Ytkbfldgebcpigaa
