/- The clock: the order of texts, plain law. -/
import Derived.Test.YtakmploakbaglaaClQ
namespace Go.Proofs.Ytakmploakbaglaa
open Go
set_option linter.unusedVariables false

def ltI : List Int → List Int → Bool
  | _, [] => false
  | [], _ :: _ => true
  | a :: x, b :: y => decide (a < b) || (decide (a = b) && ltI x y)
theorem u8_lt {a b : Int} (ha : 0 ≤ a ∧ a ≤ 255) (hb : 0 ≤ b ∧ b ≤ 255) : decide (UInt8.ofNat a.toNat < UInt8.ofNat b.toNat) = decide (a < b) := by
  have ea : (UInt8.ofNat a.toNat).toNat = a.toNat := UInt8.toNat_ofNat_of_lt' (by show a.toNat < 256; omega)
  have eb : (UInt8.ofNat b.toNat).toNat = b.toNat := UInt8.toNat_ofNat_of_lt' (by show b.toNat < 256; omega)
  have : UInt8.ofNat a.toNat < UInt8.ofNat b.toNat ↔ a < b := by rw [UInt8.lt_iff_toNat_lt, ea, eb]; omega
  exact decide_eq_decide.2 this
theorem u8_eq {a b : Int} (ha : 0 ≤ a ∧ a ≤ 255) (hb : 0 ≤ b ∧ b ≤ 255) : (UInt8.ofNat a.toNat == UInt8.ofNat b.toNat) = decide (a = b) := by
  have ea : (UInt8.ofNat a.toNat).toNat = a.toNat := UInt8.toNat_ofNat_of_lt' (by show a.toNat < 256; omega)
  have eb : (UInt8.ofNat b.toNat).toNat = b.toNat := UInt8.toNat_ofNat_of_lt' (by show b.toNat < 256; omega)
  have : UInt8.ofNat a.toNat = UInt8.ofNat b.toNat ↔ a = b := by rw [← UInt8.toNat_inj, ea, eb]; omega
  rw [Bool.eq_iff_iff]; simp [this]
theorem less_lt : ∀ {l m : List Int}, (∀ b ∈ l, 0 ≤ b ∧ b ≤ 255) → (∀ b ∈ m, 0 ≤ b ∧ b ≤ 255) → Op.bytesLess (l.map fun n => UInt8.ofNat n.toNat) (m.map fun n => UInt8.ofNat n.toNat) = ltI l m
  | [], [], _, _ => rfl
  | _ :: _, [], _, _ => rfl
  | [], _ :: _, _, _ => rfl
  | a :: x, b :: y, h, k => by
    have ha := h a (by simp)
    have hb := k b (by simp)
    simp only [List.map_cons, Op.bytesLess, ltI]
    rw [u8_lt ha hb, u8_eq ha hb, less_lt (fun z hz => h z (by simp [hz])) (fun z hz => k z (by simp [hz]))]
end Go.Proofs.Ytakmploakbaglaa
