/- Scores: plain facts for the law of merging. -/
import Derived.Test.YtjllgdpnbllnjaaSvH
namespace Go.Proofs.Ytjllgdpnbllnjaa
open Go
set_option linter.unusedVariables false
set_option linter.unusedSimpArgs false

def gsm (w : List AV → Int) (xs : List (List AV)) : Nat → Int
  | 0 => 0
  | n + 1 => gsm w xs n + w (xs.getD n [])
theorem ofS_g (xs : List (List AV)) : ∀ n, ofS xs n = gsm dfR xs n
  | 0 => rfl
  | n + 1 => by simp only [ofS, gsm, ofS_g xs n]
theorem ofA_g (xs : List (List AV)) : ∀ n, ofA xs n = gsm (fun r => max (dfR r) (0 - dfR r)) xs n
  | 0 => rfl
  | n + 1 => by simp only [ofA, gsm, ofA_g xs n]
theorem ofQ_g (xs : List (List AV)) : ∀ n, ofQ xs n = gsm (fun r => dfR r * dfR r) xs n
  | 0 => rfl
  | n + 1 => by simp only [ofQ, gsm, ofQ_g xs n]
theorem gsm_congr {w : List AV → Int} {xs ys : List (List AV)} : ∀ n : Nat, (∀ j, j < n → xs.getD j [] = ys.getD j []) → gsm w xs n = gsm w ys n
  | 0, _ => rfl
  | n + 1, h => by
    simp only [gsm]
    rw [gsm_congr n fun j hj => h j (by omega), h n (by omega)]
theorem gsm_add (w : List AV → Int) (xs : List (List AV)) (n : Nat) : ∀ m : Nat, gsm w xs (n + m) = gsm w xs n + gsm w (xs.drop n) m
  | 0 => by simp [gsm]
  | m + 1 => by
    have e : (xs.drop n).getD m [] = xs.getD (n + m) [] := by
      rw [List.getD_eq_getElem?_getD, List.getD_eq_getElem?_getD, List.getElem?_drop]
    rw [show n + (m + 1) = n + m + 1 by omega]
    simp only [gsm]
    rw [gsm_add w xs n m, e, Int.add_assoc]
theorem take_gD {xs : List (List AV)} {n j : Nat} (h : j < n) : (xs.take n).getD j [] = xs.getD j [] := by
  rw [List.getD_eq_getElem?_getD, List.getD_eq_getElem?_getD, List.getElem?_take, if_pos h]
theorem gsm_split (w : List AV → Int) (xs : List (List AV)) (n : Nat) (h : n ≤ xs.length) : gsm w xs xs.length = gsm w (xs.take n) (xs.take n).length + gsm w (xs.drop n) (xs.drop n).length := by
  rw [List.length_take, List.length_drop, Nat.min_eq_left h, gsm_congr (xs := xs.take n) (ys := xs) n fun j hj => take_gD hj, ← gsm_add]
  congr 1; omega
theorem sq_nn (x : Int) : 0 ≤ x * x := by
  rcases Int.le_total 0 x with k | k
  · exact Int.mul_nonneg k k
  · rw [← Int.neg_mul_neg]; exact Int.mul_nonneg (by omega) (by omega)
theorem var_nn (xs : List (List AV)) (c : Int) : ∀ n : Nat, 0 ≤ gsm (fun r => dfR r * dfR r) xs n + n * (c * c) - 2 * (c * gsm dfR xs n)
  | 0 => by simp [gsm]
  | n + 1 => by
    have h := var_nn xs c n
    simp only [gsm]
    have k := sq_nn (dfR (xs.getD n []) - c)
    generalize dfR (xs.getD n []) = d at *
    generalize gsm dfR xs n = S at *
    generalize gsm (fun r => dfR r * dfR r) xs n = Q at *
    have e1 : (d - c) * (d - c) = d * d + c * c - 2 * (c * d) := by
      rw [Int.sub_mul, Int.mul_sub, Int.mul_sub, Int.mul_comm d c]; omega
    have e2 : ((n + 1 : Nat) : Int) * (c * c) = n * (c * c) + c * c := by
      rw [Int.natCast_add, Int.add_mul]; simp
    have e3 : c * (S + d) = c * S + c * d := Int.mul_add ..
    rw [e2, e3]
    omega
theorem cau_n (xs : List (List AV)) : ∀ n : Nat, gsm dfR xs n * gsm dfR xs n ≤ n * gsm (fun r => dfR r * dfR r) xs n
  | 0 => by simp [gsm]
  | n + 1 => by
    have h := cau_n xs n
    have k := var_nn xs (dfR (xs.getD n [])) n
    simp only [gsm]
    generalize dfR (xs.getD n []) = d at *
    generalize gsm dfR xs n = S at *
    generalize gsm (fun r => dfR r * dfR r) xs n = Q at *
    have e1 : (S + d) * (S + d) = S * S + 2 * (d * S) + d * d := by
      rw [Int.add_mul, Int.mul_add, Int.mul_add, Int.mul_comm S d]; omega
    have e2 : ((n + 1 : Nat) : Int) * (Q + d * d) = n * Q + n * (d * d) + (Q + d * d) := by
      rw [Int.natCast_add, Int.add_mul, Int.mul_add]; simp
    rw [e1, e2]
    omega
theorem pO_bd2 {xs : List (List AV)} {i : Int} (h : BytA xs) (hi : 0 ≤ i) : (0 ≤ pF xs i ∧ pF xs i ≤ 8) ∧ -1000000 ≤ pO xs i ∧ pO xs i ≤ 1000000 := by
  have j1 := nxA_le (xs := xs) (n := 9) hi
  have j2 := nxA_le (xs := xs) (n := 9) j1
  have j3 := nxA_le (xs := xs) (n := 20) j2
  have v1 := nxV_bd (n := 9) h hi
  have v2 := nxV_bd (n := 9) h j1
  have v3 := nxV_bd (n := 20) h j2
  have v4 := sgV_bd (xs := xs) (i := nxA xs (nxA xs (nxA xs i 9) 9) 20) (m := 1000000) (by decide)
  have eF : pF xs i = nxV xs i 9 := rfl
  have eO : pO xs i = nxV xs (nxA xs i 9) 9 + ((nxV xs (nxA xs (nxA xs i 9) 9) 20).tdiv 19 * sgV xs (nxA xs (nxA xs (nxA xs i 9) 9) 20) 1000000).tdiv 2 := rfl
  rw [eF, eO]
  have hq : (nxV xs (nxA xs (nxA xs i 9) 9) 20).tdiv 19 = 0 ∨ (nxV xs (nxA xs (nxA xs i 9) 9) 20).tdiv 19 = 1 := by
    rw [Int.tdiv_eq_ediv_of_nonneg v3.1]; omega
  have hp : ∀ g : Int, g = 0 ∨ g = 1 → -1000000 ≤ g * sgV xs (nxA xs (nxA xs (nxA xs i 9) 9) 20) 1000000 ∧ g * sgV xs (nxA xs (nxA xs (nxA xs i 9) 9) 20) 1000000 ≤ 1000000 := by
    rintro g (rfl | rfl) <;> omega
  have hp := hp _ hq
  have hd : ∀ x : Int, -1000000 ≤ x ∧ x ≤ 1000000 → -500000 ≤ x.tdiv 2 ∧ x.tdiv 2 ≤ 500000 := fun x hx => by
    have := Int.natAbs_tdiv x 2
    have e : (x.tdiv 2).natAbs = x.natAbs / 2 := this
    omega
  have hd := hd _ hp
  omega
theorem prL_ok {xs : List (List AV)} (h : BytA xs) : ∀ (n : Nat) (i : Int), 0 ≤ i → ∀ r ∈ prL xs n i, okPr r = true
  | 0, _, _, r, hr => by simp [prL] at hr
  | n + 1, i, hi, r, hr => by
    simp only [prL, List.mem_cons] at hr
    rcases hr with rfl | hr
    · have b := pO_bd2 h hi
      exact okPr_iff.2 ⟨by omega, b.2⟩
    · exact prL_ok h n (pA xs i) (pA_le hi) r hr
theorem ck_ok {xs : List (List AV)} (hl : xs.length ≤ 30) (h : ∀ r ∈ xs, okPr r = true) : ckE xs = 0 := by
  unfold ckE
  rw [if_neg (by omega), if_pos (List.all_eq_true.2 h)]
theorem pt_ad {xs : List (List AV)} (hl : xs.length ≤ 30) (h : ∀ r ∈ xs, okPr r = true) : (0 ≤ oN xs ∧ oN xs ≤ 30) ∧ adB (oN xs) (oS xs) (oA xs) (oQ xs) = true ∧ (-oA xs ≤ oS xs ∧ oS xs ≤ oA xs) ∧ -1000000000 ≤ oS xs ∧ oS xs ≤ 1000000000 := by
  have c := ck_ok hl h
  obtain ⟨b1, b2, b3⟩ := of_bd (fun j hj => by rw [gD hj]; exact h _ (List.getElem_mem hj)) xs.length (Nat.le_refl _)
  unfold oN oS oA oQ
  rw [if_pos c, if_pos c, if_pos c, if_pos c]
  exact ⟨by omega, adB_iff.2 ⟨by omega, by omega, by omega, by omega⟩, b1, by omega⟩
theorem pt_prs {xs : List (List AV)} (h : PrsP xs) (n : Nat) : PrsP (xs.take n) ∧ PrsP (xs.drop n) := by
  refine ⟨⟨fun i hi => ?_, ?_⟩, ⟨fun i hi => ?_, ?_⟩⟩
  · rw [List.length_take] at hi
    rw [take_gD (by omega)]; exact h.row i (by omega)
  · have := h.sm; rw [List.length_take]; omega
  · rw [List.length_drop] at hi
    have e : (xs.drop n).getD i [] = xs.getD (n + i) [] := by
      rw [List.getD_eq_getElem?_getD, List.getD_eq_getElem?_getD, List.getElem?_drop]
    rw [e]; exact h.row _ (by omega)
  · have := h.sm; rw [List.length_drop]; omega
theorem mrg_of {xs : List (List AV)} (hp : PrsP xs) (hl : xs.length ≤ 30) (h : ∀ r ∈ xs, okPr r = true) : MrgP xs oN oS oA oQ ckE := by
  have l1 : ∀ n, (xs.take n).length ≤ 30 := fun n => by rw [List.length_take]; omega
  have l2 : ∀ n, (xs.drop n).length ≤ 30 := fun n => by rw [List.length_drop]; omega
  have k1 : ∀ n, ∀ r ∈ xs.take n, okPr r = true := fun n r hr => h r (List.mem_of_mem_take hr)
  have k2 : ∀ n, ∀ r ∈ xs.drop n, okPr r = true := fun n r hr => h r (List.mem_of_mem_drop hr)
  have c := ck_ok hl h
  have w := pt_ad hl h
  refine ⟨hl, hp, fun n => pt_prs hp n, c, fun n => ⟨ck_ok (l1 n) (k1 n), ck_ok (l2 n) (k2 n)⟩, fun n hn => ?_, fun n => ⟨(pt_ad (l1 n) (k1 n)).1, (pt_ad (l1 n) (k1 n)).2.1, (pt_ad (l2 n) (k2 n)).1, (pt_ad (l2 n) (k2 n)).2.1⟩, ?_, w.2.2.1, w.2.2.2⟩
  · have c1 := ck_ok (l1 n) (k1 n)
    have c2 := ck_ok (l2 n) (k2 n)
    unfold oN oS oA oQ
    rw [if_pos c, if_pos c, if_pos c, if_pos c, if_pos c1, if_pos c1, if_pos c1, if_pos c1, if_pos c2, if_pos c2, if_pos c2, if_pos c2]
    refine ⟨by rw [List.length_take, List.length_drop]; omega, ?_, ?_, ?_⟩
    · simp only [ofS_g]; exact gsm_split _ _ _ hn
    · simp only [ofA_g]; exact gsm_split _ _ _ hn
    · simp only [ofQ_g]; exact gsm_split _ _ _ hn
  · unfold oN oS oQ
    rw [if_pos c, if_pos c, if_pos c, ofS_g, ofQ_g]
    exact cau_n xs xs.length
theorem mgf_of : MgF mgM mgE := ⟨fun n s a q n' s' a' q' h k l => by
  have b : mgB n s a q n' s' a' q' = true := by unfold mgB; rw [h, k, decide_eq_true l]; rfl
  unfold mgM mgE mg
  simp [b]⟩
theorem merges_law (gl : Glob) (g : Bool) (codes : List (List AV)) (k : Int) (h2 : BytA codes) :
    PureC Try.prog gl 6 [.sl 1 g codes, .int .u8 k] (.bool true) := by
  have sok : ∀ {f : FuncId} {s s' : Sp}, SOK Try.prog gl f s → (∀ xs p r, s' xs = some (p, r) → p → ∃ q, s xs = some (q, r) ∧ q) → SOK Try.prog gl f s' :=
    fun h k => ⟨h.1, fun xs p r e hp => by obtain ⟨q, e1, hq⟩ := k xs p r e hp; exact h.2 xs q r e1 hq⟩
  have o1 : SOK Try.prog gl 21 (ofG_s oN oS oA oQ ckE) := sok (sof_ok gl) fun xs p r e hp => by
    unfold ofG_s at e; split at e
    · simp only [Option.some.injEq, Prod.mk.injEq] at e; obtain ⟨rfl, rfl⟩ := e; exact ⟨_, rfl, hp⟩
    · cases e
  have m1 : SOK Try.prog gl 29 (mgG_s mgM mgE) := sok (smerge_ok gl) fun xs p r e hp => by
    unfold mgG_s at e; split at e
    · simp only [Option.some.injEq, Prod.mk.injEq] at e; obtain ⟨rfl, rfl⟩ := e; exact ⟨_, rfl, trivial⟩
    · cases e
  have w1 : SOK Try.prog gl 35 (wdG_s mlH mlL) := sok (pprod_ok gl) fun xs p r e hp => by
    unfold wdG_s at e; split at e
    · simp only [Option.some.injEq, Prod.mk.injEq] at e; obtain ⟨rfl, rfl⟩ := e; exact ⟨_, rfl, trivial⟩
    · cases e
  have c1 : SOK Try.prog gl 34 (wcG_s fun a b c d => orI (cmpI a c) (cmpI b d)) := sok (pcmp_ok gl) fun xs p r e hp => by
    unfold wcG_s at e; split at e
    · simp only [Option.some.injEq, Prod.mk.injEq] at e; obtain ⟨rfl, rfl⟩ := e; exact ⟨_, rfl, trivial⟩
    · cases e
  have pr : HOK Try.prog gl 20 (prG_s prsV prsA) := by
    refine ⟨(fpairs_ok gl).1, ?_⟩
    intro xs bs pre r bs2 h hp
    unfold prG_s at h
    split at h
    · simp only [Option.some.injEq, Prod.mk.injEq] at h
      obtain ⟨rfl, rfl, rfl⟩ := h
      exact (fpairs_ok gl).2 _ _ _ _ _ rfl hp
    · cases h
  have hf : FldP (List.take 200 codes) 0 := ⟨fun x hx => h2 x (List.mem_of_mem_take hx), by rw [List.length_take]; omega, by decide⟩
  have hv : MrgP (prsV (List.take 200 codes) 0 30) oN oS oA oQ ckE := by
    have a1 := nxV_bd (n := 31) hf.b hf.lo
    refine mrg_of (prsV_P hf) ?_ ?_
    · unfold prsV; rw [prL_len]; unfold prsN
      show (nxV (List.take 200 codes) 0 31).toNat ≤ 30
      omega
    · unfold prsV; exact prL_ok hf.b _ _ (nxA_le hf.lo)
  exact fnK_sound (tyOf (by kernel_rfl)) (by exact specOK rfl rfl ⟨sawake_ok gl, m1, w1, c1, o1, trivial⟩ ⟨fnew_ok gl, pr, trivial⟩) (by kernel_rfl) Try.func6 rfl
    (lMerges_v gl g codes k oN oS oA oQ ckE prsV prsA mgM mgE mlH mlL (fun a b c d => orI (cmpI a c) (cmpI b d)) ⟨hf, hv, mgf_of, fun a b c d => wide_cmp (a * b) (c * d)⟩)
end Go.Proofs.Ytjllgdpnbllnjaa
