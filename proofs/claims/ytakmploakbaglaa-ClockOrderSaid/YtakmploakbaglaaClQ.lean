/- The clock: texts are read back. Plain laws. -/
import Derived.Test.YtakmploakbaglaaClD
namespace Go.Proofs.Ytakmploakbaglaa
open Go
set_option linter.unusedVariables false
set_option linter.unusedSimpArgs false

theorem byteI_lt {s : ByteArray} {k : Nat} (h : k < s.size) : byteI s k = ((s[k]'h).toNat : Int) := by
  unfold byteI; rw [getElem?_pos s k h]
theorem byteI_extract {s : ByteArray} {a b k : Nat} (h : k < b - a) (hb : b ≤ s.size) : byteI (s.extract a b) k = byteI s (a + k) := by
  have h1 : k < (s.extract a b).size := by rw [ByteArray.size_extract]; omega
  rw [byteI_lt h1, byteI_lt (s := s) (k := a + k) (by omega)]
  rw [ByteArray.getElem_extract]
theorem strOf_size (l : List Int) : (strOfNums l).size = l.length := by unfold strOfNums; simp [ByteArray.size]
theorem byteI_str {l : List Int} (h : ∀ b ∈ l, 0 ≤ b ∧ b ≤ 255) (k : Nat) : byteI (strOfNums l) k = l.getD k 0 := by
  rcases Nat.lt_or_ge k l.length with q | q
  · have h1 : k < (strOfNums l).size := by rw [strOf_size]; exact q
    rw [byteI_lt h1]
    have h2 := h l[k] (List.getElem_mem q)
    rw [List.getD_eq_getElem?_getD, List.getElem?_eq_getElem q]
    unfold strOfNums at h1 ⊢
    simp only [ByteArray.getElem_eq_getElem_data, List.getElem_toArray, List.getElem_map, Option.getD_some]
    rw [UInt8.toNat_ofNat_of_lt' (by show l[k].toNat < 256; omega)]
    omega
  · unfold byteI
    rw [getElem?_neg _ _ (by rw [strOf_size]; omega), List.getD_eq_getElem?_getD, List.getElem?_eq_none q]; rfl
theorem ok_dig {s : ByteArray} {k : Nat} (hp : byteI patC k = 48) (h : 48 ≤ byteI s k ∧ byteI s k ≤ 57) : okAt s k = true := by
  unfold okAt isD; rw [hp, decide_eq_true h.1, decide_eq_true h.2]; rfl
theorem ok_sep {s : ByteArray} {k : Nat} (hp : byteI s k = byteI patC k) (h : byteI s k < 48 ∨ 57 < byteI s k) : okAt s k = true := by
  have hd : isD (byteI s k) = false := by
    unfold isD
    rcases h with h | h
    · rw [decide_eq_false (by omega : ¬ 48 ≤ byteI s k)]; rfl
    · rw [decide_eq_false (by omega : ¬ byteI s k ≤ 57), Bool.and_false]
  unfold okAt; rw [hd, ← hp, decide_eq_false (by omega : ¬ byteI s k = 48), decide_eq_true rfl]; rfl
theorem txt_ex (y m d h i : Int) : txtL y m d h i = [48 + y / 10 / 10 / 10 % 10, 48 + y / 10 / 10 % 10, 48 + y / 10 % 10, 48 + y % 10, 45, 48 + m / 10 % 10, 48 + m % 10, 45, 48 + d / 10 % 10, 48 + d % 10, 32, 48 + h / 10 % 10, 48 + h % 10, 58, 48 + i / 10 % 10, 48 + i % 10] := rfl
theorem num_dig {s : ByteArray} {k : Nat} (h : 48 ≤ byteI s k ∧ byteI s k ≤ 57) : IntKind.u8.wrap (byteI s k - 48) = byteI s k - 48 := wrap_eq (k := .u8) (by show _ ∧ _; omega)
theorem sub2 {s : ByteArray} {a : Nat} {x y : Int} (hs : a + 2 ≤ s.size) (f0 : byteI s a = x) (f1 : byteI s (a + 1) = y) (h0 : 48 ≤ x ∧ x ≤ 57) (h1 : 48 ≤ y ∧ y ≤ 57) :
    sub s a (a + 2) = 10 * (x - 48) + (y - 48) := by
  have e0 : byteI (s.extract a (a + 2)) 0 = x := by rw [byteI_extract (by omega) hs]; exact f0
  have e1 : byteI (s.extract a (a + 2)) 1 = y := by rw [byteI_extract (by omega) hs]; exact f1
  have hz : (s.extract a (a + 2)).size = 2 := by rw [ByteArray.size_extract]; omega
  unfold sub numV
  rw [hz]
  simp only [numR]
  rw [num_dig (by rw [e0]; exact h0), num_dig (by rw [e1]; exact h1), e0, e1]
  omega
theorem sub4 {s : ByteArray} (hs : 4 ≤ s.size) (h : ∀ k, k < 4 → 48 ≤ byteI s k ∧ byteI s k ≤ 57) :
    sub s 0 4 = 1000 * (byteI s 0 - 48) + 100 * (byteI s 1 - 48) + 10 * (byteI s 2 - 48) + (byteI s 3 - 48) := by
  have e : ∀ k, k < 4 → byteI (s.extract 0 4) k = byteI s k := fun k hk => by rw [byteI_extract (by omega) hs, Nat.zero_add]
  have hz : (s.extract 0 4).size = 4 := by rw [ByteArray.size_extract]; omega
  unfold sub numV
  rw [hz]
  simp only [numR]
  rw [num_dig (by rw [e 0 (by omega)]; exact h 0 (by omega)), num_dig (by rw [e 1 (by omega)]; exact h 1 (by omega)), num_dig (by rw [e 2 (by omega)]; exact h 2 (by omega)), num_dig (by rw [e 3 (by omega)]; exact h 3 (by omega)), e 0 (by omega), e 1 (by omega), e 2 (by omega), e 3 (by omega)]
  omega
theorem prs_fmt {t : Int} (ht : 0 ≤ t ∧ t ≤ 52595999) : prsV (fmtC t) = true ∧ prsM (fmtC t) = t := by
  have hb : inB t = true := by simpa [inB] using ht
  obtain ⟨v, e⟩ := date_ok ht
  have vb := (vldB_iff _ _ _ _ _).2 v
  obtain ⟨⟨y1, y2⟩, ⟨m1, m2⟩, ⟨d1, d2⟩, ⟨h1, h2⟩, ⟨i1, i2⟩⟩ := v
  have hl := len12_bd (dtY t) (k := (dtM t - 1).toNat) (by omega)
  unfold fmtC
  rw [if_pos hb, txt_ex]
  generalize dtY t = Y at *
  generalize dtM t = M at *
  generalize dtD t = D at *
  generalize dtH t = H at *
  generalize dtI t = I at *
  generalize hS : strOfNums _ = s
  have hz : s.size = 16 := by rw [← hS, strOf_size]; rfl
  have hB : ∀ k, byteI s k = _ := fun k => by rw [← hS, byteI_str (by intro b hb; simp only [List.mem_cons, List.not_mem_nil, or_false] at hb; omega) k]
  have b0 : byteI s 0 = 48 + Y / 10 / 10 / 10 % 10 := hB 0
  have b1 : byteI s 1 = 48 + Y / 10 / 10 % 10 := hB 1
  have b2 : byteI s 2 = 48 + Y / 10 % 10 := hB 2
  have b3 : byteI s 3 = 48 + Y % 10 := hB 3
  have b4 : byteI s 4 = 45 := hB 4
  have b5 : byteI s 5 = 48 + M / 10 % 10 := hB 5
  have b6 : byteI s 6 = 48 + M % 10 := hB 6
  have b7 : byteI s 7 = 45 := hB 7
  have b8 : byteI s 8 = 48 + D / 10 % 10 := hB 8
  have b9 : byteI s 9 = 48 + D % 10 := hB 9
  have b10 : byteI s 10 = 32 := hB 10
  have b11 : byteI s 11 = 48 + H / 10 % 10 := hB 11
  have b12 : byteI s 12 = 48 + H % 10 := hB 12
  have b13 : byteI s 13 = 58 := hB 13
  have b14 : byteI s 14 = 48 + I / 10 % 10 := hB 14
  have b15 : byteI s 15 = 48 + I % 10 := hB 15
  clear hB hS
  have s0 : sub s 0 4 = Y := by
    rw [sub4 (by omega) (by intro k hk; rcases (by omega : k = 0 ∨ k = 1 ∨ k = 2 ∨ k = 3) with rfl | rfl | rfl | rfl <;> omega)]
    omega
  have s1 : sub s 5 7 = M := by refine (sub2 (a := 5) (by omega) b5 b6 (by omega) (by omega)).trans ?_; omega
  have s2 : sub s 8 10 = D := by refine (sub2 (a := 8) (by omega) b8 b9 (by omega) (by omega)).trans ?_; omega
  have s3 : sub s 11 13 = H := by refine (sub2 (a := 11) (by omega) b11 b12 (by omega) (by omega)).trans ?_; omega
  have s4 : sub s 14 16 = I := by refine (sub2 (a := 14) (by omega) b14 b15 (by omega) (by omega)).trans ?_; omega
  have hok : okTo s 16 = true := by
    simp only [okTo]
    rw [ok_dig (k := 0) (by decide) (by omega), ok_dig (k := 1) (by decide) (by omega), ok_dig (k := 2) (by decide) (by omega), ok_dig (k := 3) (by decide) (by omega), ok_sep (k := 4) b4 (by omega),
      ok_dig (k := 5) (by decide) (by omega), ok_dig (k := 6) (by decide) (by omega), ok_sep (k := 7) b7 (by omega), ok_dig (k := 8) (by decide) (by omega), ok_dig (k := 9) (by decide) (by omega), ok_sep (k := 10) b10 (by omega),
      ok_dig (k := 11) (by decide) (by omega), ok_dig (k := 12) (by decide) (by omega), ok_sep (k := 13) b13 (by omega), ok_dig (k := 14) (by decide) (by omega), ok_dig (k := 15) (by decide) (by omega)]
    rfl
  have hv : prsV s = true := by
    unfold prsV
    rw [s0, s1, s2, s3, s4, vb, hok, decide_eq_true hz]; rfl
  refine ⟨hv, ?_⟩
  unfold prsM
  rw [if_pos hv, s0, s1, s2, s3, s4, e]
end Go.Proofs.Ytakmploakbaglaa
