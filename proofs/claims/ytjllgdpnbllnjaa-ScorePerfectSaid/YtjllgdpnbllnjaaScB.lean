/- Reduce, whole: the program's and the reference's give the same. -/
import Derived.Test.YtjllgdpnbllnjaaScA
namespace Go.Proofs.Ytjllgdpnbllnjaa
open Go.RowKit

set_option maxHeartbeats 1000000 in
theorem reduce_any (num den : Int) (w : World) (hn : I64 num) (hd : I64 den) :
    Calls Try.prog 36 #[.int .i64 num, .int .i64 den] w fun e w' => FRes w w' e (redS num den) := by
  obtain ⟨n1, n2⟩ := hn
  obtain ⟨d1, d2⟩ := hd
  by_cases c1 : den = 0
  · have HS : Hid (redS num den = (1, 0, 0)) := hidI (by unfold redS; rw [if_pos (.inl c1)])
    have b1 : (den == 0) = true := by simp [c1]
    clear c1
    go_enter Try.func36, Try.ntmps36
    go_wp2
    refine bodyPost_ret (v := .tuple #[.agg #[.int .i64 0, .int .i64 0], .int .i64 1]) (by simp [results, Try.results36, go_sem]) rfl ?_
    rw [HS.out]
    exact ⟨rfl, below_box _ _⟩
  have b1 : (den == 0) = false := by simp [c1]
  by_cases c2 : inB num (-1152921504606846976) 1152921504606846976 = false
  · have HS : Hid (redS num den = (1, 0, 0)) := hidI (by unfold redS; rw [if_pos (.inr (.inl c2))])
    go_enter Try.func36, Try.ntmps36
    go_wp2_with (go_at_call 46; refine (within_any _ _ _ _).mono ?_; rintro e w' ⟨rfl, rfl⟩)
    refine bodyPost_ret (v := .tuple #[.agg #[.int .i64 0, .int .i64 0], .int .i64 1]) (by simp [results, Try.results36, go_sem]) rfl ?_
    rw [HS.out]
    exact ⟨rfl, below_box _ _⟩
  have c2 : inB num (-1152921504606846976) 1152921504606846976 = true := by simpa using c2
  by_cases c3 : inB den (-1152921504606846976) 1152921504606846976 = false
  · have HS : Hid (redS num den = (1, 0, 0)) := hidI (by unfold redS; rw [if_pos (.inr (.inr c3))])
    go_enter Try.func36, Try.ntmps36
    go_wp2_with (go_at_call 46; refine (within_any _ _ _ _).mono ?_; rintro e w' ⟨rfl, rfl⟩)
    refine bodyPost_ret (v := .tuple #[.agg #[.int .i64 0, .int .i64 0], .int .i64 1]) (by simp [results, Try.results36, go_sem]) rfl ?_
    rw [HS.out]
    exact ⟨rfl, below_box _ _⟩
  have c3 : inB den (-1152921504606846976) 1152921504606846976 = true := by simpa using c3
  obtain ⟨e1, e2⟩ := inB_iff.1 c2
  obtain ⟨e3, e4⟩ := inB_iff.1 c3
  have HA : ∀ (x : Int), inB x (-bigL) bigL = inB x (-1152921504606846976) 1152921504606846976 := fun x => rfl
  have hok : ¬ (den = 0 ∨ inB num (-bigL) bigL = false ∨ inB den (-bigL) bigL = false) := by
    rintro (h | h | h)
    · exact c1 h
    · rw [HA, c2] at h; cases h
    · rw [HA, c3] at h; cases h
  have HS : redS num den = if den < 0 then (0, (-num).tdiv (Nat.gcd num.natAbs den.natAbs : Nat), (-den) / (Nat.gcd num.natAbs den.natAbs : Nat)) else (0, num.tdiv (Nat.gcd num.natAbs den.natAbs : Nat), den / (Nat.gcd num.natAbs den.natAbs : Nat)) := by
    unfold redS; rw [if_neg hok]
  rw [HS]
  obtain ⟨e1, e2⟩ := inB_iff.1 c2
  obtain ⟨e3, e4⟩ := inB_iff.1 c3
  clear HS hok HA c2 c3 b1
  by_cases c4 : den < 0
  · obtain ⟨D, rfl⟩ : ∃ D : Nat, den = -(D : Int) := ⟨den.natAbs, by omega⟩
    rw [if_pos c4, show (-(D : Int)).natAbs = D by omega, show - -(D : Int) = (D : Int) by omega]
    rcases Int.lt_trichotomy num 0 with h | h | h
    · obtain ⟨N, rfl⟩ : ∃ N : Nat, num = -(N : Int) := ⟨num.natAbs, by omega⟩
      rw [show (-(N : Int)).natAbs = N by omega, show - -(N : Int) = (N : Int) by omega]
      exact red_nn N D w (by omega) (by omega) (by omega) (by omega)
    · subst h
      exact red_zn D w (by omega) (by omega)
    · obtain ⟨N, rfl⟩ : ∃ N : Nat, num = (N : Int) := ⟨num.natAbs, by omega⟩
      rw [show ((N : Int)).natAbs = N by omega]
      exact red_pn N D w (by omega) (by omega) (by omega) (by omega)
  · obtain ⟨D, rfl⟩ : ∃ D : Nat, den = (D : Int) := ⟨den.natAbs, by omega⟩
    rw [if_neg c4, show ((D : Int)).natAbs = D by omega]
    rcases Int.lt_trichotomy num 0 with h | h | h
    · obtain ⟨N, rfl⟩ : ∃ N : Nat, num = -(N : Int) := ⟨num.natAbs, by omega⟩
      rw [show (-(N : Int)).natAbs = N by omega]
      exact red_np N D w (by omega) (by omega) (by omega) (by omega)
    · subst h
      exact red_zp D w (by omega) (by omega)
    · obtain ⟨N, rfl⟩ : ∃ N : Nat, num = (N : Int) := ⟨num.natAbs, by omega⟩
      rw [show ((N : Int)).natAbs = N by omega]
      exact red_pp N D w (by omega) (by omega) (by omega) (by omega)

set_option maxHeartbeats 1000000 in
theorem rreduce_any (num den : Int) (w : World) (hn : I64 num) (hd : I64 den) :
    Calls Try.prog 37 #[.int .i64 num, .int .i64 den] w fun e w' => FRes w w' e (redS num den) := by
  obtain ⟨n1, n2⟩ := hn
  obtain ⟨d1, d2⟩ := hd
  by_cases c1 : den = 0
  · have HS : Hid (redS num den = (1, 0, 0)) := hidI (by unfold redS; rw [if_pos (.inl c1)])
    have b1 : (den == 0) = true := by simp [c1]
    clear c1
    go_enter Try.func37, Try.ntmps37
    go_wp2
    refine bodyPost_ret (v := .tuple #[.agg #[.int .i64 0, .int .i64 0], .int .i64 1]) (by simp [results, Try.results37, go_sem]) rfl ?_
    rw [HS.out]
    exact ⟨rfl, below_box _ _⟩
  have b1 : (den == 0) = false := by simp [c1]
  by_cases c2 : inB num (-1152921504606846976) 1152921504606846976 = false
  · have HS : Hid (redS num den = (1, 0, 0)) := hidI (by unfold redS; rw [if_pos (.inr (.inl c2))])
    by_cases h1 : 1152921504606846976 < num
    · clear c2
      go_enter Try.func37, Try.ntmps37
      go_wp2
      refine bodyPost_ret (v := .tuple #[.agg #[.int .i64 0, .int .i64 0], .int .i64 1]) (by simp [results, Try.results37, go_sem]) rfl ?_
      rw [HS.out]
      exact ⟨rfl, below_box _ _⟩
    · have h2 : num < -1152921504606846976 := by
        unfold inB at c2; simp at c2; omega
      clear c2
      go_enter Try.func37, Try.ntmps37
      go_wp2
      refine bodyPost_ret (v := .tuple #[.agg #[.int .i64 0, .int .i64 0], .int .i64 1]) (by simp [results, Try.results37, go_sem]) rfl ?_
      rw [HS.out]
      exact ⟨rfl, below_box _ _⟩
  have c2 : inB num (-1152921504606846976) 1152921504606846976 = true := by simpa using c2
  by_cases c3 : inB den (-1152921504606846976) 1152921504606846976 = false
  · have HS : Hid (redS num den = (1, 0, 0)) := hidI (by unfold redS; rw [if_pos (.inr (.inr c3))])
    obtain ⟨e1, e2⟩ := inB_iff.1 c2
    by_cases h1 : 1152921504606846976 < den
    · clear c3 c2
      go_enter Try.func37, Try.ntmps37
      go_wp2
      refine bodyPost_ret (v := .tuple #[.agg #[.int .i64 0, .int .i64 0], .int .i64 1]) (by simp [results, Try.results37, go_sem]) rfl ?_
      rw [HS.out]
      exact ⟨rfl, below_box _ _⟩
    · have h2 : den < -1152921504606846976 := by
        unfold inB at c3; simp at c3; omega
      clear c3 c2
      go_enter Try.func37, Try.ntmps37
      go_wp2
      refine bodyPost_ret (v := .tuple #[.agg #[.int .i64 0, .int .i64 0], .int .i64 1]) (by simp [results, Try.results37, go_sem]) rfl ?_
      rw [HS.out]
      exact ⟨rfl, below_box _ _⟩
  have c3 : inB den (-1152921504606846976) 1152921504606846976 = true := by simpa using c3
  have HA : ∀ (x : Int), inB x (-bigL) bigL = inB x (-1152921504606846976) 1152921504606846976 := fun x => rfl
  have hok : ¬ (den = 0 ∨ inB num (-bigL) bigL = false ∨ inB den (-bigL) bigL = false) := by
    rintro (h | h | h)
    · exact c1 h
    · rw [HA, c2] at h; cases h
    · rw [HA, c3] at h; cases h
  have HS : redS num den = if den < 0 then (0, (-num).tdiv (Nat.gcd num.natAbs den.natAbs : Nat), (-den) / (Nat.gcd num.natAbs den.natAbs : Nat)) else (0, num.tdiv (Nat.gcd num.natAbs den.natAbs : Nat), den / (Nat.gcd num.natAbs den.natAbs : Nat)) := by
    unfold redS; rw [if_neg hok]
  rw [HS]
  obtain ⟨e1, e2⟩ := inB_iff.1 c2
  obtain ⟨e3, e4⟩ := inB_iff.1 c3
  clear HS hok HA c2 c3 b1
  by_cases c4 : den < 0
  · obtain ⟨D, rfl⟩ : ∃ D : Nat, den = -(D : Int) := ⟨den.natAbs, by omega⟩
    rw [if_pos c4, show (-(D : Int)).natAbs = D by omega, show - -(D : Int) = (D : Int) by omega]
    rcases Int.lt_trichotomy num 0 with h | h | h
    · obtain ⟨N, rfl⟩ : ∃ N : Nat, num = -(N : Int) := ⟨num.natAbs, by omega⟩
      rw [show (-(N : Int)).natAbs = N by omega, show - -(N : Int) = (N : Int) by omega]
      exact rred_nn N D w (by omega) (by omega) (by omega) (by omega)
    · subst h
      exact rred_zn D w (by omega) (by omega)
    · obtain ⟨N, rfl⟩ : ∃ N : Nat, num = (N : Int) := ⟨num.natAbs, by omega⟩
      rw [show ((N : Int)).natAbs = N by omega]
      exact rred_pn N D w (by omega) (by omega) (by omega) (by omega)
  · obtain ⟨D, rfl⟩ : ∃ D : Nat, den = (D : Int) := ⟨den.natAbs, by omega⟩
    rw [if_neg c4, show ((D : Int)).natAbs = D by omega]
    rcases Int.lt_trichotomy num 0 with h | h | h
    · obtain ⟨N, rfl⟩ : ∃ N : Nat, num = -(N : Int) := ⟨num.natAbs, by omega⟩
      rw [show (-(N : Int)).natAbs = N by omega]
      exact rred_np N D w (by omega) (by omega) (by omega) (by omega)
    · subst h
      exact rred_zp D w (by omega) (by omega)
    · obtain ⟨N, rfl⟩ : ∃ N : Nat, num = (N : Int) := ⟨num.natAbs, by omega⟩
      rw [show ((N : Int)).natAbs = N by omega]
      exact rred_pp N D w (by omega) (by omega) (by omega) (by omega)
end Go.Proofs.Ytjllgdpnbllnjaa
