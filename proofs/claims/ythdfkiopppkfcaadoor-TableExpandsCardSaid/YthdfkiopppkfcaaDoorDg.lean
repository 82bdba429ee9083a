/- Digits and texts: plain laws. -/
import Derived.Test.YthdfkiopppkfcaaDoorKv
namespace Go.Proofs.YthdfkiopppkfcaaDoor
open Go
set_option linter.unusedVariables false
set_option linter.unusedSimpArgs false

theorem byteI_lt {s : ByteArray} {k : Nat} (h : k < s.size) : byteI s k = ((s[k]'h).toNat : Int) := by
  unfold byteI; rw [getElem?_pos s k h]
theorem byteI_extract {s : ByteArray} {a b k : Nat} (h : k < b - a) (hb : b ≤ s.size) : byteI (s.extract a b) k = byteI s (a + k) := by
  have h1 : k < (s.extract a b).size := by rw [ByteArray.size_extract]; omega
  rw [byteI_lt h1, byteI_lt (s := s) (k := a + k) (by omega)]
  rw [ByteArray.getElem_extract]
theorem strOf_size (l : List Int) : (strOfNums l).size = l.length := by unfold strOfNums; simp [ByteArray.size]
theorem byteI_str {l : List Int} (h : ∀ b ∈ l, 0 ≤ b ∧ b ≤ 255) (k : Nat) : byteI (strOfNums l) k = l.getD k 0 := by
  rcases Nat.lt_or_ge k l.length with q | q
  · have h1 : k < (strOfNums l).size := by rw [strOf_size]; exact q
    rw [byteI_lt h1]
    have h2 := h l[k] (List.getElem_mem q)
    rw [List.getD_eq_getElem?_getD, List.getElem?_eq_getElem q]
    unfold strOfNums at h1 ⊢
    simp only [ByteArray.getElem_eq_getElem_data, List.getElem_toArray, List.getElem_map, Option.getD_some]
    rw [UInt8.toNat_ofNat_of_lt' (by show l[k].toNat < 256; omega)]
    omega
  · unfold byteI
    rw [getElem?_neg _ _ (by rw [strOf_size]; omega), List.getD_eq_getElem?_getD, List.getElem?_eq_none q]; rfl
theorem cs {p : Prop} [Decidable p] {A B : Prop} (h : p → A) (k : ¬ p → B) : cond (decide p) A B := csplit (fun q => h (of_decide_eq_true q)) (fun q => k (of_decide_eq_false q))
/-- The digits of a number. -/
def dgL : Nat → Int → List Int
  | 0, _ => []
  | n + 1, x => dgL n (x / 10) ++ [48 + x % 10]
theorem dgL_len : ∀ (n : Nat) (x : Int), (dgL n x).length = n
  | 0, _ => rfl
  | n + 1, x => by simp only [dgL, List.length_append, dgL_len n]; rfl
theorem dgL_bd : ∀ (n : Nat) (x : Int), ∀ b ∈ dgL n x, 48 ≤ b ∧ b ≤ 57
  | 0, _, b, h => by cases h
  | n + 1, x, b, h => by
    simp only [dgL, List.mem_append, List.mem_singleton] at h
    rcases h with h | h
    · exact dgL_bd n _ b h
    · omega
/-- The number of the first k digits. -/
def numR (s : ByteArray) : Nat → Int
  | 0 => 0
  | k + 1 => 10 * numR s k + IntKind.u8.wrap (byteI s k - 48)
def numV (s : ByteArray) : Int := numR s s.size
theorem wrap8 (n : Int) : 0 ≤ IntKind.u8.wrap n ∧ IntKind.u8.wrap n ≤ 255 := wrap_rng .u8 n
theorem numR_bd (s : ByteArray) : ∀ k : Nat, 0 ≤ numR s k ∧ numR s k + 29 ≤ 30 * 10 ^ k
  | 0 => by simp [numR]
  | k + 1 => by
    obtain ⟨h1, h2⟩ := numR_bd s k
    have h3 := wrap8 (byteI s k - 48)
    simp only [numR]
    rw [Int.pow_succ]
    omega
theorem p10 {k : Nat} (h : k ≤ 8) : (10 : Int) ^ k ≤ 100000000 := by
  have : k = 0 ∨ k = 1 ∨ k = 2 ∨ k = 3 ∨ k = 4 ∨ k = 5 ∨ k = 6 ∨ k = 7 ∨ k = 8 := by omega
  rcases this with rfl | rfl | rfl | rfl | rfl | rfl | rfl | rfl | rfl <;> decide
structure NumP (s : ByteArray) (x : Int × Int) : Prop where
  lo : 0 ≤ x.1
  hi : x.1 ≤ s.size
  v : x.2 = numR s x.1.toNat
structure NumS (s : ByteArray) : Prop where
  small : s.size ≤ 8
theorem numS_of {s : ByteArray} {a b : Nat} (h : b - a ≤ 8) : NumS (s.extract a b) := ⟨by rw [ByteArray.size_extract]; omega⟩
theorem strOf_app (a b : List Int) : strOfNums (a ++ b) = strOfNums a ++ strOfNums b := by
  unfold strOfNums
  apply ByteArray.ext
  simp
theorem strOf_nil : strOfNums [] = ⟨#[]⟩ := rfl
theorem ba_assoc (a b c : ByteArray) : a ++ b ++ c = a ++ (b ++ c) := by
  apply ByteArray.ext
  simp
theorem ba_nil (a : ByteArray) : a ++ (⟨#[]⟩ : ByteArray) = a := by
  apply ByteArray.ext
  simp
theorem nil_ba (a : ByteArray) : (⟨#[]⟩ : ByteArray) ++ a = a := by
  apply ByteArray.ext
  simp
def isD (b : Int) : Bool := decide (48 ≤ b) && decide (b ≤ 57)
theorem isD_t {b : Int} (h : ¬ b < 48) (k : ¬ 57 < b) : isD b = true := by unfold isD; rw [decide_eq_true (by omega), decide_eq_true (by omega)]; rfl
theorem isD_lo {b : Int} (h : b < 48) : isD b = false := by unfold isD; rw [decide_eq_false (by omega : ¬ 48 ≤ b)]; rfl
theorem isD_hi {b : Int} (h : 57 < b) : isD b = false := by unfold isD; rw [decide_eq_false (by omega : ¬ b ≤ 57), Bool.and_false]
theorem isD_iff {b : Int} : isD b = true ↔ 48 ≤ b ∧ b ≤ 57 := by unfold isD; simp
def allD (s : ByteArray) : Nat → Bool
  | 0 => true
  | k + 1 => allD s k && isD (byteI s k)
theorem allD_le {s : ByteArray} : ∀ {k n : Nat}, k ≤ n → allD s n = true → allD s k = true
  | k, 0, h, h1 => by have : k = 0 := by omega
                      subst this; exact h1
  | k, n + 1, h, h1 => by
    rcases Nat.lt_or_ge k (n + 1) with q | q
    · simp only [allD, Bool.and_eq_true] at h1
      exact allD_le (by omega) h1.1
    · have : k = n + 1 := by omega
      subst this; exact h1
theorem allD_bad {s : ByteArray} {k n : Nat} (hk : k < n) (h : isD (byteI s k) = false) : allD s n = false := by
  cases q : allD s n with
  | false => rfl
  | true =>
    have := allD_le (k := k + 1) (by omega) q
    simp only [allD, Bool.and_eq_true] at this
    rw [h] at this; cases this.2
theorem num_dig {s : ByteArray} {k : Nat} (h : 48 ≤ byteI s k ∧ byteI s k ≤ 57) : IntKind.u8.wrap (byteI s k - 48) = byteI s k - 48 := wrap_eq (k := .u8) (by show _ ∧ _; omega)
/-- Digits that a loop puts before each other. -/
def dgS (n : Int) (w : Nat) : ByteArray := strOfNums (dgL w n)
theorem dgS_size (n : Int) (w : Nat) : (dgS n w).size = w := by unfold dgS; rw [strOf_size, dgL_len]
structure RdgP (n : Int) (w : Nat) (x : Int × Int × ByteArray) : Prop where
  lo : 0 ≤ x.1
  hi : x.1 ≤ w
  pos : 0 ≤ x.2.1
  big : x.2.1 ≤ 9999
  eq : dgS n w = strOfNums (dgL (w - x.1.toNat) x.2.1) ++ x.2.2
  sz : x.2.2.size = x.1.toNat
def rdgI (n : Int) (w : Nat) : LInv := ⟨Int × Int × ByteArray, fun x => ⟨[(0, .int .i64 x.2.1), (1, .int .i64 w), (5, .str x.2.2), (6, .int .i64 x.1)], []⟩, RdgP n w, fun x => (w - x.1).toNat, none⟩

def numI (s : ByteArray) : LInv := ⟨Int × Int, fun x => ⟨[(0, .str s), (3, .int .i64 x.2), (4, .int .i64 x.1)], []⟩, NumP s, fun x => (s.size - x.1).toNat, none⟩
end Go.Proofs.YthdfkiopppkfcaaDoor
