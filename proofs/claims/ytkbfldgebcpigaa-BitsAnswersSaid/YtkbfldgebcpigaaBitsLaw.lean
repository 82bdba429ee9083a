/- Plain facts on bits packed into bytes. No program in sight. -/
import Derived.KernelRfl
namespace Go.Proofs.Ytkbfldgebcpigaa

def byteOf (l : List Nat) (k : Nat) : Nat :=
  l.getD (8 * k) 0 * 128 + l.getD (8 * k + 1) 0 * 64 + l.getD (8 * k + 2) 0 * 32 + l.getD (8 * k + 3) 0 * 16 + l.getD (8 * k + 4) 0 * 8 + l.getD (8 * k + 5) 0 * 4 + l.getD (8 * k + 6) 0 * 2 + l.getD (8 * k + 7) 0
def pack (l : List Nat) : List Nat := (List.range ((l.length + 7) / 8)).map (byteOf l)
def bitOf (bs : List Nat) (i : Nat) : Nat := bs.getD (i / 8) 0 / 2 ^ (7 - i % 8) % 2
def unpack (bs : List Nat) (n : Nat) : List Nat := (List.range n).map (bitOf bs)
def B01 (l : List Nat) : Prop := ∀ i, l.getD i 0 ≤ 1
def Bytes (bs : List Nat) : Prop := ∀ i, bs.getD i 0 < 256

def validB (bs : List Nat) (len : Int) : Bool :=
  decide (0 ≤ len) && decide (len ≤ 40000) && decide ((bs.length : Int) = (len + 7) / 8) && decide (bs.getD (bs.length - 1) 0 % 2 ^ (8 * (bs.length : Int) - len).toNat = 0)

theorem validB_iff {bs : List Nat} {len : Int} : validB bs len = true ↔ 0 ≤ len ∧ len ≤ 40000 ∧ (bs.length : Int) = (len + 7) / 8 ∧ bs.getD (bs.length - 1) 0 % 2 ^ (8 * (bs.length : Int) - len).toNat = 0 := by
  unfold validB
  simp only [Bool.and_eq_true, decide_eq_true_eq, and_assoc]

theorem getD_out {l : List Nat} {i : Nat} (h : l.length ≤ i) : l.getD i 0 = 0 := by
  rw [List.getD_eq_getElem?_getD, List.getElem?_eq_none h]; rfl
theorem getD_snoc (l : List Nat) (x i : Nat) : (l ++ [x]).getD i 0 = if i = l.length then x else l.getD i 0 := by
  rw [List.getD_eq_getElem?_getD, List.getD_eq_getElem?_getD]
  by_cases h : i = l.length
  · subst h; simp
  · rw [if_neg h]
    rcases Nat.lt_or_ge i l.length with h1 | h1
    · rw [List.getElem?_append_left h1]
    · rw [List.getElem?_eq_none (by simp; omega), List.getElem?_eq_none h1]
theorem getD_map_range (f : Nat → Nat) (n i : Nat) : ((List.range n).map f).getD i 0 = if i < n then f i else 0 := by
  rw [List.getD_eq_getElem?_getD, List.getElem?_map]
  by_cases h : i < n
  · rw [if_pos h, List.getElem?_range h]; rfl
  · rw [if_neg h, List.getElem?_eq_none (by simpa using Nat.le_of_not_lt h)]; rfl
theorem ext_getD {a b : List Nat} (hl : a.length = b.length) (h : ∀ i, i < a.length → a.getD i 0 = b.getD i 0) : a = b := by
  apply List.ext_getElem hl
  intro i h1 h2
  have := h i h1
  rw [List.getD_eq_getElem?_getD, List.getD_eq_getElem?_getD, List.getElem?_eq_getElem h1, List.getElem?_eq_getElem h2] at this
  simpa using this
theorem getD_set (l : List Nat) (k x i : Nat) (hk : k < l.length) : (l.set k x).getD i 0 = if i = k then x else l.getD i 0 := by
  rw [List.getD_eq_getElem?_getD, List.getD_eq_getElem?_getD, List.getElem?_set]
  by_cases h : k = i
  · subst h; simp [hk]
  · rw [if_neg h, if_neg (fun e => h e.symm)]

theorem length_pack (l : List Nat) : (pack l).length = (l.length + 7) / 8 := by simp [pack]
theorem byteOf_out {l : List Nat} {k : Nat} (h : l.length ≤ 8 * k) : byteOf l k = 0 := by
  unfold byteOf
  rw [getD_out h, getD_out (show l.length ≤ 8 * k + 1 by omega), getD_out (show l.length ≤ 8 * k + 2 by omega), getD_out (show l.length ≤ 8 * k + 3 by omega), getD_out (show l.length ≤ 8 * k + 4 by omega), getD_out (show l.length ≤ 8 * k + 5 by omega), getD_out (show l.length ≤ 8 * k + 6 by omega), getD_out (show l.length ≤ 8 * k + 7 by omega)]
theorem getD_pack (l : List Nat) (k : Nat) : (pack l).getD k 0 = byteOf l k := by
  unfold pack
  rw [getD_map_range]
  by_cases h : k < (l.length + 7) / 8
  · rw [if_pos h]
  · rw [if_neg h, byteOf_out (by omega)]
theorem byteOf_lt {l : List Nat} (h : B01 l) (k : Nat) : byteOf l k < 256 := by
  unfold byteOf
  have h0 := h (8 * k); have h1 := h (8 * k + 1); have h2 := h (8 * k + 2); have h3 := h (8 * k + 3); have h4 := h (8 * k + 4); have h5 := h (8 * k + 5); have h6 := h (8 * k + 6); have h7 := h (8 * k + 7)
  omega
theorem bytes_pack {l : List Nat} (h : B01 l) : Bytes (pack l) := fun k => by rw [getD_pack]; exact byteOf_lt h k

theorem split8 (i : Nat) : ∃ k t, i = 8 * k + t ∧ t < 8 := ⟨i / 8, i % 8, by omega, by omega⟩
theorem bitOf_pack {l : List Nat} (h : B01 l) (i : Nat) : bitOf (pack l) i = l.getD i 0 := by
  obtain ⟨k, t, rfl, ht⟩ := split8 i
  unfold bitOf
  rw [getD_pack, show (8 * k + t) / 8 = k by omega, show (8 * k + t) % 8 = t by omega]
  unfold byteOf
  have h0 := h (8 * k); have h1 := h (8 * k + 1); have h2 := h (8 * k + 2); have h3 := h (8 * k + 3); have h4 := h (8 * k + 4); have h5 := h (8 * k + 5); have h6 := h (8 * k + 6); have h7 := h (8 * k + 7)
  have ht' : t = 0 ∨ t = 1 ∨ t = 2 ∨ t = 3 ∨ t = 4 ∨ t = 5 ∨ t = 6 ∨ t = 7 := by omega
  rcases ht' with rfl | rfl | rfl | rfl | rfl | rfl | rfl | rfl <;> simp only [Nat.reduceSub, Nat.reducePow, Nat.add_zero] <;> omega
theorem unpack_pack {l : List Nat} (h : B01 l) : unpack (pack l) l.length = l := by
  refine ext_getD (by simp [unpack]) fun i hi => ?_
  have hi' : i < l.length := by simpa [unpack] using hi
  unfold unpack
  rw [getD_map_range, if_pos hi', bitOf_pack h]
theorem b01_unpack (bs : List Nat) (n : Nat) : B01 (unpack bs n) := fun i => by
  unfold unpack
  rw [getD_map_range]
  split
  · unfold bitOf; omega
  · omega
theorem byte_split (z : Nat) (h : z < 256) : z / 128 % 2 * 128 + z / 64 % 2 * 64 + z / 32 % 2 * 32 + z / 16 % 2 * 16 + z / 8 % 2 * 8 + z / 4 % 2 * 4 + z / 2 % 2 * 2 + z / 1 % 2 = z := by omega
theorem low_zero (z f t : Nat) (h : z % 2 ^ f = 0) (ht : t < f) : z / 2 ^ t % 2 = 0 := by
  obtain ⟨q, hq⟩ : ∃ q, z = 2 ^ f * q := ⟨z / 2 ^ f, by have := Nat.div_add_mod z (2 ^ f); omega⟩
  subst hq
  obtain ⟨d, rfl⟩ : ∃ d, f = t + 1 + d := ⟨f - t - 1, by omega⟩
  rw [Nat.pow_add, Nat.pow_succ, Nat.mul_assoc, Nat.mul_assoc, Nat.mul_div_cancel_left _ (Nat.two_pow_pos t), Nat.mul_mod_right]
/-- A valid list of bits is the packing of its bits. -/
theorem pack_unpack {bs : List Nat} {len : Int} (hB : Bytes bs) (h : validB bs len = true) : pack (unpack bs len.toNat) = bs := by
  obtain ⟨h0, h1, h2, h3⟩ := validB_iff.1 h
  obtain ⟨n, rfl⟩ := Int.eq_ofNat_of_zero_le h0
  rw [Int.toNat_natCast]
  have hl : bs.length = (n + 7) / 8 := by omega
  refine ext_getD (by rw [length_pack]; simp [unpack]; omega) fun k hk => ?_
  have hk' : k < (n + 7) / 8 := by rw [length_pack] at hk; simpa [unpack] using hk
  rw [getD_pack]
  have key : ∀ t, t < 8 → (unpack bs n).getD (8 * k + t) 0 = bs.getD k 0 / 2 ^ (7 - t) % 2 := by
    intro t ht
    unfold unpack
    rw [getD_map_range]
    by_cases hin : 8 * k + t < n
    · rw [if_pos hin]; unfold bitOf; rw [show (8 * k + t) / 8 = k by omega, show (8 * k + t) % 8 = t by omega]
    · rw [if_neg hin]
      have hkl : k = bs.length - 1 := by omega
      subst hkl
      refine (low_zero _ _ _ h3 ?_).symm
      omega
  unfold byteOf
  have e0 := key 0 (by omega); have e1 := key 1 (by omega); have e2 := key 2 (by omega); have e3 := key 3 (by omega); have e4 := key 4 (by omega); have e5 := key 5 (by omega); have e6 := key 6 (by omega); have e7 := key 7 (by omega)
  simp only [Nat.add_zero, Nat.reduceSub, Nat.reducePow] at e0 e1 e2 e3 e4 e5 e6 e7
  rw [e0, e1, e2, e3, e4, e5, e6, e7]
  exact byte_split _ (hB k)
theorem byteOf_low {l : List Nat} {k f : Nat} (hl : l.length ≤ 8 * k + 8 - f) (hf : f ≤ 8) : byteOf l k % 2 ^ f = 0 := by
  have hz : ∀ t, t < 8 → 8 - f ≤ t → l.getD (8 * k + t) 0 = 0 := fun t h1 h2 => getD_out (by omega)
  unfold byteOf
  have ht' : f = 0 ∨ f = 1 ∨ f = 2 ∨ f = 3 ∨ f = 4 ∨ f = 5 ∨ f = 6 ∨ f = 7 ∨ f = 8 := by omega
  rcases ht' with rfl | rfl | rfl | rfl | rfl | rfl | rfl | rfl | rfl
  · simp only [Nat.pow_zero, Nat.mod_one]
  · rw [hz 7 (by omega) (by omega)]; omega
  · rw [hz 7 (by omega) (by omega), hz 6 (by omega) (by omega)]; omega
  · rw [hz 7 (by omega) (by omega), hz 6 (by omega) (by omega), hz 5 (by omega) (by omega)]; omega
  · rw [hz 7 (by omega) (by omega), hz 6 (by omega) (by omega), hz 5 (by omega) (by omega), hz 4 (by omega) (by omega)]; omega
  · rw [hz 7 (by omega) (by omega), hz 6 (by omega) (by omega), hz 5 (by omega) (by omega), hz 4 (by omega) (by omega), hz 3 (by omega) (by omega)]; omega
  · rw [hz 7 (by omega) (by omega), hz 6 (by omega) (by omega), hz 5 (by omega) (by omega), hz 4 (by omega) (by omega), hz 3 (by omega) (by omega), hz 2 (by omega) (by omega)]; omega
  · rw [hz 7 (by omega) (by omega), hz 6 (by omega) (by omega), hz 5 (by omega) (by omega), hz 4 (by omega) (by omega), hz 3 (by omega) (by omega), hz 2 (by omega) (by omega), hz 1 (by omega) (by omega)]; omega
  · have h0 := hz 0 (by omega) (by omega)
    rw [Nat.add_zero] at h0
    rw [h0, hz 7 (by omega) (by omega), hz 6 (by omega) (by omega), hz 5 (by omega) (by omega), hz 4 (by omega) (by omega), hz 3 (by omega) (by omega), hz 2 (by omega) (by omega), hz 1 (by omega) (by omega)]
theorem valid_pack {l : List Nat} (hl : l.length ≤ 40000) : validB (pack l) l.length = true := by
  rw [validB_iff, length_pack]
  refine ⟨by omega, by omega, by omega, ?_⟩
  rw [getD_pack]
  rcases Nat.eq_zero_or_pos l.length with h0 | h0
  · rw [byteOf_out (by omega)]; exact Nat.zero_mod _
  · exact byteOf_low (by omega) (by omega)

theorem b01_append {a b : List Nat} (ha : B01 a) (hb : B01 b) : B01 (a ++ b) := fun i => by
  rw [List.getD_eq_getElem?_getD]
  rcases Nat.lt_or_ge i a.length with h | h
  · rw [List.getElem?_append_left h, ← List.getD_eq_getElem?_getD]; exact ha i
  · rw [List.getElem?_append_right h, ← List.getD_eq_getElem?_getD]; exact hb _
theorem b01_one {x : Nat} (h : x ≤ 1) : B01 [x] := fun i => by
  cases i with
  | zero => simpa using h
  | succ i => simp
/-- What writing one bit does to the bytes. -/
def grow (l : List Nat) : List Nat := if l.length % 8 = 0 then pack l ++ [0] else pack l
theorem length_grow (l : List Nat) : (grow l).length = l.length / 8 + 1 := by
  unfold grow
  split
  · rw [List.length_append, length_pack]; simp; omega
  · rw [length_pack]; omega
theorem getD_grow (l : List Nat) (k : Nat) : (grow l).getD k 0 = byteOf l k := by
  unfold grow
  split
  · rw [getD_snoc]
    split
    · next h => rw [length_pack] at h; rw [byteOf_out (by omega)]
    · exact getD_pack l k
  · exact getD_pack l k
theorem byteOf_snoc (l : List Nat) (x k : Nat) : byteOf (l ++ [x]) k = byteOf l k + if k = l.length / 8 then x * 2 ^ (7 - l.length % 8) else 0 := by
  obtain ⟨q, t, hq, ht⟩ := split8 l.length
  have hz := getD_out (Nat.le_refl l.length)
  unfold byteOf
  simp only [getD_snoc]
  rw [hq] at hz ⊢
  rw [show (8 * q + t) / 8 = q by omega, show (8 * q + t) % 8 = t by omega]
  have ht' : t = 0 ∨ t = 1 ∨ t = 2 ∨ t = 3 ∨ t = 4 ∨ t = 5 ∨ t = 6 ∨ t = 7 := by omega
  by_cases hk : k = q
  · subst hk
    rw [if_pos rfl]
    rcases ht' with rfl | rfl | rfl | rfl | rfl | rfl | rfl | rfl <;> simp at hz ⊢ <;> simp only [hz] <;> omega
  · rw [if_neg hk]
    have hne : ∀ a b, a < 8 → b < 8 → ¬ 8 * k + a = 8 * q + b := fun a b ha hb => by omega
    have hne0 : ∀ b, b < 8 → ¬ 8 * k = 8 * q + b := fun b hb => by omega
    rw [if_neg (hne0 t ht), if_neg (hne 1 t (by omega) ht), if_neg (hne 2 t (by omega) ht), if_neg (hne 3 t (by omega) ht), if_neg (hne 4 t (by omega) ht), if_neg (hne 5 t (by omega) ht), if_neg (hne 6 t (by omega) ht), if_neg (hne 7 t (by omega) ht)]
    omega
theorem pack_snoc (l : List Nat) (x : Nat) : pack (l ++ [x]) = (grow l).set (l.length / 8) ((grow l).getD (l.length / 8) 0 + x * 2 ^ (7 - l.length % 8)) := by
  refine ext_getD (by rw [length_pack, List.length_set, length_grow]; simp; omega) fun k hk => ?_
  rw [getD_pack, getD_set _ _ _ _ (by rw [length_grow]; omega), byteOf_snoc, getD_grow, getD_grow]
  split
  · next h => rw [h]
  · rfl
theorem grow_low (l : List Nat) : (grow l).getD (l.length / 8) 0 % 2 ^ (8 - l.length % 8) = 0 := by
  rw [getD_grow]
  exact byteOf_low (by omega) (by omega)
theorem or_low : ∀ z, z < 256 → ∀ k, k < 8 → ∀ x, x < 2 → z % 2 ^ (k + 1) = 0 → z ||| (x * 2 ^ k) = z + x * 2 ^ k ∧ z + x * 2 ^ k < 256 := by decide +kernel

/-- The first k of the w bits of a number, the greatest first. -/
def nb (v w k : Nat) : List Nat := (List.range k).map fun i => v / 2 ^ (w - 1 - i) % 2
theorem nb_succ (v w k : Nat) : nb v w (k + 1) = nb v w k ++ [v / 2 ^ (w - 1 - k) % 2] := by simp [nb, List.range_succ]
theorem length_nb (v w k : Nat) : (nb v w k).length = k := by simp [nb]
theorem b01_nb (v w k : Nat) : B01 (nb v w k) := fun i => by
  unfold nb
  rw [getD_map_range]
  split <;> omega
/-- The number of some bits. -/
def numOf (l : List Nat) : Nat := l.foldl (fun a b => 2 * a + b) 0
theorem numOf_snoc (l : List Nat) (x : Nat) : numOf (l ++ [x]) = 2 * numOf l + x := by simp [numOf]
theorem numOf_nb (v w : Nat) : ∀ k, k ≤ w → numOf (nb v w k) = v / 2 ^ (w - k) % 2 ^ k
  | 0, _ => by simp [nb, numOf, Nat.mod_one]
  | k + 1, h => by
    rw [nb_succ, numOf_snoc, numOf_nb v w k (by omega), show w - 1 - k = w - (k + 1) by omega, show w - k = (w - (k + 1)) + 1 by omega, Nat.pow_succ, ← Nat.div_div_eq_div_mul]
    generalize v / 2 ^ (w - (k + 1)) = q
    rw [Nat.pow_succ, Nat.mul_comm (2 ^ k) 2, Nat.mod_mul]
    omega
theorem numOf_all (v w : Nat) (h : v < 2 ^ w) : numOf (nb v w w) = v := by
  rw [numOf_nb v w w (Nat.le_refl _), Nat.sub_self, Nat.pow_zero, Nat.div_one, Nat.mod_eq_of_lt h]
end Go.Proofs.Ytkbfldgebcpigaa
