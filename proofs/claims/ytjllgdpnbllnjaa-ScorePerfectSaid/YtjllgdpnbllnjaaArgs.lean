/- How an argument that came in is handed to the walks: a slice of integers as a list. -/
import Derived.Test.YtjllgdpnbllnjaaRows
import Derived.Test.YtjllgdpnbllnjaaMem
import Derived.WalkKit
import Derived.ProofKit
import Derived.OpenShut
import Derived.ShutString
import Derived.ChangeOld
import Derived.Below
namespace Go.Proofs.Ytjllgdpnbllnjaa
open Go.ChangeShapes Go.WideShapes Go.ChangeAt Go.RowKit
open Go.ChangeMaps (open_string shut_string)

theorem own : ownKnob Try.prog.godebug = none := by kernel_rfl
theorem laidOut : laidOutB Try.prog = true := by kernel_rfl
theorem cell_lt {W : World} {a : Addr} {v : Value} (h : W.cell? a = some v) : a.block < W.heap.size := by
  unfold World.cell? at h
  split at h
  · next hb => exact (Array.getElem?_eq_some_iff.1 hb).1
  · cases h
theorem rd_of_ints {W : World} {k : IntKind} {x : Addr} {len : Nat} {zs : List Int} (hcell : ∀ i, i < zs.length → W.cell? (x.add i) = some (.int k (zs.getD i 0))) (hlen : len ≤ zs.length) :
    Rd W W.heap.size (some x) ((zs.take len).map (Value.int k)) := by
  rcases Nat.eq_zero_or_pos len with h0 | h0
  · subst h0; simpa using Rd.nil_
  · obtain ⟨b, off, spot⟩ := x
    have hc := hcell 0 (by omega)
    have hspot : spot = none := by simpa [Addr.add] using World.cell?_spot hc
    subst hspot
    refine ⟨b, off, fun _ => ⟨rfl, cell_lt hc⟩, fun j u hu => ?_⟩
    have hj := (List.getElem?_eq_some_iff.1 hu).1
    simp only [List.length_map, List.length_take] at hj
    have h1 := hcell j (by omega)
    have e : Addr.add ⟨b, off, none⟩ j = ⟨b, off + j, none⟩ := by unfold Addr.add; split <;> simp_all
    rw [e] at h1
    rw [h1]
    rw [List.getElem?_map, List.getElem?_take, if_pos (by omega), List.getElem?_eq_getElem (by omega)] at hu
    simpa [List.getElem?_eq_getElem (show j < zs.length by omega)] using hu
/-- A slice of integers that came in. -/
def IntsIn (k : IntKind) (W : World) (A : Option Addr) (len cap : Nat) (zs : List Int) : Prop :=
  Rd W W.heap.size A (zs.map (Value.int k)) ∧ zs.length = len ∧ len ≤ cap ∧ cap ≤ 9223372036854775807 ∧ (A = none → cap = 0) ∧ ∀ z ∈ zs, (Lit.int k z).wf = true
theorem intsIn_nil (k : IntKind) (W : World) : IntsIn k W none 0 0 [] := ⟨Rd.nil_, rfl, Nat.le_refl _, by omega, fun _ => rfl, by simp⟩
theorem intsIn_row {k : IntKind} {W : World} {x : Addr} {len cap : Nat} {zs : List Int} (hl : len ≤ cap) (hm : cap ≤ maxLen) (hz : zs.length = cap) (hcell : ∀ i, i < zs.length → W.cell? (x.add i) = some (.int k (zs.getD i 0))) (hwz : ∀ n ∈ zs, (Lit.int k n).wf = true) :
    IntsIn k W (some x) len cap (zs.take len) :=
  ⟨rd_of_ints hcell (by omega), by simp; omega, hl, by unfold maxLen at hm; omega, (fun h => by cases h), fun z h => hwz z (List.mem_of_mem_take h)⟩
theorem i64_wf {z : Int} (h : (Lit.int .i64 z).wf = true) : -9223372036854775808 ≤ z ∧ z ≤ 9223372036854775807 := by
  simp only [Lit.wf, IntKind.min, IntKind.max, IntKind.signed, IntKind.bits, Bool.and_eq_true, decide_eq_true_eq, if_true] at h
  omega
end Go.Proofs.Ytjllgdpnbllnjaa
