/- The clock: the order of texts is the order of minutes, plain law. -/
import Derived.Test.YtakmploakbaglaaClX
import Derived.Test.YtakmploakbaglaaClV
namespace Go.Proofs.Ytakmploakbaglaa
open Go
set_option linter.unusedVariables false
set_option linter.unusedSimpArgs false

theorem lt_cons {a b : Int} {x y : List Int} : ltI (a :: x) (b :: y) = true ↔ a < b ∨ (a = b ∧ ltI x y = true) := by
  simp only [ltI, Bool.or_eq_true, Bool.and_eq_true, decide_eq_true_eq]
theorem int_le {a b : Int} : (a < b ∨ a = b) = (a ≤ b) := propext ⟨fun h => by omega, fun h => by omega⟩
theorem lt_sep {a : Int} {x y : List Int} : ltI (a :: x) (a :: y) = true ↔ ltI x y = true := by
  rw [lt_cons]; constructor
  · rintro (h | h)
    · omega
    · exact h.2
  · exact fun h => .inr ⟨rfl, h⟩
theorem lt_two {m n : Int} {x y : List Int} (hm : 0 ≤ m ∧ m ≤ 99) (hn : 0 ≤ n ∧ n ≤ 99) :
    ltI ((48 + m / 10 % 10) :: (48 + m % 10) :: x) ((48 + n / 10 % 10) :: (48 + n % 10) :: y) = true ↔ m < n ∨ (m = n ∧ ltI x y = true) := by
  rw [lt_cons, lt_cons]
  obtain ⟨a, b, ha, hb, e1, e2, e⟩ : ∃ a b : Int, (0 ≤ a ∧ a ≤ 9) ∧ (0 ≤ b ∧ b ≤ 9) ∧ m / 10 % 10 = a ∧ m % 10 = b ∧ m = 10 * a + b := ⟨m / 10, m % 10, by omega, by omega, by omega, rfl, by omega⟩
  obtain ⟨c, d, hc, hd, f1, f2, f⟩ : ∃ a b : Int, (0 ≤ a ∧ a ≤ 9) ∧ (0 ≤ b ∧ b ≤ 9) ∧ n / 10 % 10 = a ∧ n % 10 = b ∧ n = 10 * a + b := ⟨n / 10, n % 10, by omega, by omega, by omega, rfl, by omega⟩
  rw [e1, e2, f1, f2, e, f]; clear e1 e2 f1 f2 e f hm hn
  by_cases p : ltI x y = true
  · simp only [p, and_true, Int.add_lt_add_iff_left, Int.add_right_inj, int_le]; omega
  · simp only [p, Bool.false_eq_true, and_false, or_false, Int.add_lt_add_iff_left, Int.add_right_inj]; omega
theorem lt_four {m n : Int} {x y : List Int} (hm : 0 ≤ m ∧ m ≤ 9999) (hn : 0 ≤ n ∧ n ≤ 9999) :
    ltI ((48 + m / 10 / 10 / 10 % 10) :: (48 + m / 10 / 10 % 10) :: (48 + m / 10 % 10) :: (48 + m % 10) :: x) ((48 + n / 10 / 10 / 10 % 10) :: (48 + n / 10 / 10 % 10) :: (48 + n / 10 % 10) :: (48 + n % 10) :: y) = true ↔ m < n ∨ (m = n ∧ ltI x y = true) := by
  rw [lt_cons, lt_cons, lt_cons, lt_cons]
  have D : ∀ m : Int, 0 ≤ m ∧ m ≤ 9999 → ∃ a b c d : Int, ((0 ≤ a ∧ a ≤ 9) ∧ (0 ≤ b ∧ b ≤ 9) ∧ (0 ≤ c ∧ c ≤ 9) ∧ (0 ≤ d ∧ d ≤ 9)) ∧ m / 10 / 10 / 10 % 10 = a ∧ m / 10 / 10 % 10 = b ∧ m / 10 % 10 = c ∧ m % 10 = d ∧ m = 1000 * a + 100 * b + 10 * c + d :=
    fun m hm => ⟨m / 10 / 10 / 10, m / 10 / 10 % 10, m / 10 % 10, m % 10, by omega, by omega, rfl, rfl, rfl, by omega⟩
  obtain ⟨a, b, c, d, h1, e1, e2, e3, e4, e⟩ := D m hm
  obtain ⟨a', b', c', d', h2, f1, f2, f3, f4, f⟩ := D n hn
  rw [e1, e2, e3, e4, f1, f2, f3, f4, e, f]; clear e1 e2 e3 e4 f1 f2 f3 f4 e f hm hn D
  by_cases p : ltI x y = true
  · simp only [p, and_true, Int.add_lt_add_iff_left, Int.add_right_inj, int_le]; omega
  · simp only [p, Bool.false_eq_true, and_false, or_false, Int.add_lt_add_iff_left, Int.add_right_inj]; omega
theorem str_list (l : List Int) : (strOfNums l).toList = l.map fun n => UInt8.ofNat n.toNat := by
  rw [ByteArray.toList_eq]; simp [strOfNums]
theorem txt_bytes {y m d h i : Int} : ∀ b ∈ txtL y m d h i, 0 ≤ b ∧ b ≤ 255 := by
  rw [txt_ex]
  intro b hb
  simp only [List.mem_cons, List.not_mem_nil, or_false] at hb
  omega
theorem fmt_less {s t : Int} (hs : 0 ≤ s ∧ s ≤ 52595999) (ht : 0 ≤ t ∧ t ≤ 52595999) : Op.bytesLess (fmtC s).toList (fmtC t).toList = decide (s < t) := by
  have bs : inB s = true := by simpa [inB] using hs
  have bt : inB t = true := by simpa [inB] using ht
  obtain ⟨v, e⟩ := date_ok hs
  obtain ⟨v', e'⟩ := date_ok ht
  have hl := lex_iff v v'
  rw [e, e'] at hl
  unfold fmtC
  rw [if_pos bs, if_pos bt, str_list, str_list, less_lt txt_bytes txt_bytes]
  rw [Bool.eq_iff_iff, decide_eq_true_eq, hl, txt_ex, txt_ex]
  obtain ⟨⟨y1, y2⟩, ⟨m1, m2⟩, ⟨d1, d2⟩, ⟨h1, h2⟩, ⟨i1, i2⟩⟩ := v
  obtain ⟨⟨y1', y2'⟩, ⟨m1', m2'⟩, ⟨d1', d2'⟩, ⟨h1', h2'⟩, ⟨i1', i2'⟩⟩ := v'
  have l1 := len12_bd (dtY s) (k := (dtM s - 1).toNat) (by omega)
  have l2 := len12_bd (dtY t) (k := (dtM t - 1).toNat) (by omega)
  rw [lt_four (by omega) (by omega), lt_sep, lt_two (by omega) (by omega), lt_sep, lt_two (by omega) (by omega), lt_sep, lt_two (by omega) (by omega), lt_sep, lt_two (by omega) (by omega)]
  have h0 : (ltI [] [] = true) = False := eq_false (by decide)
  rw [h0]
  simp only [and_false, or_false]; unfold Lex
  exact Iff.rfl
end Go.Proofs.Ytakmploakbaglaa
