/- The clock: the law of what is near. -/
import Derived.Test.YtakmploakbaglaaClN
namespace Go.Proofs.Ytakmploakbaglaa
open Go
set_option linter.unusedVariables false
set_option linter.unusedSimpArgs false

/-- The minute with which the month of number k from January 2000 on begins. -/
def ms (k : Int) : Int := fst' (2000 + k / 12) + 1440 * cum (2000 + k / 12) (k % 12).toNat
theorem ms_step {k : Int} (hk : 0 ≤ k) : ms k + 40320 ≤ ms (k + 1) := by
  unfold ms
  have hb := len12_bd (2000 + k / 12) (k := (k % 12).toNat) (by omega)
  have hc : cum (2000 + k / 12) ((k % 12).toNat + 1) = cum (2000 + k / 12) (k % 12).toNat + (len12 (2000 + k / 12)).getD (k % 12).toNat 0 := rfl
  rcases Int.lt_or_le (k % 12) 11 with h | h
  · have e1 : (k + 1) / 12 = k / 12 := by omega
    have e2 : ((k + 1) % 12).toNat = (k % 12).toNat + 1 := by omega
    rw [e1, e2, hc]; omega
  · have e1 : (k + 1) / 12 = k / 12 + 1 := by omega
    have e2 : ((k + 1) % 12).toNat = 0 := by omega
    have e3 : (k % 12).toNat + 1 = 12 := by omega
    have e4 : 2000 + (k / 12 + 1) = 2000 + k / 12 + 1 := by omega
    rw [e3, cum12] at hc
    rw [e1, e2, e4, fst_step (by omega)]
    have : cum (2000 + k / 12 + 1) 0 = 0 := rfl
    omega
theorem ms_far {k : Int} (hk : 0 ≤ k) : ∀ n : Nat, ms k + 40320 * n ≤ ms (k + n)
  | 0 => by simp
  | n + 1 => by
    have h1 := ms_far hk n
    have h2 := ms_step (k := k + n) (by omega)
    have e : k + ((n + 1 : Nat) : Int) = k + n + 1 := by omega
    rw [e]; omega
theorem ms_lt {j k : Int} (hj : 0 ≤ j) (h : j < k) : ms j + 40320 * (k - j) ≤ ms k := by
  have := ms_far hj (k - j).toNat
  have e : j + ((k - j).toNat : Int) = k := by omega
  rw [e] at this; omega
theorem vAt_ms {d h i k : Int} (hv : 0 ≤ vAt d h i k) : 0 ≤ k ∧ vAt d h i k = ms k + 1440 * (d - 1) + 60 * h + i ∧ ms k ≤ vAt d h i k ∧ vAt d h i k < ms (k + 1) := by
  rcases Int.lt_or_le k 0 with hk | hk
  · rw [vAt_neg hk] at hv; omega
  · rw [vAt_pos hk] at hv ⊢
    cases q : vldB (2000 + k / 12) (k % 12 + 1) d h i with
    | false => rw [q] at hv; simp at hv
    | true =>
      obtain ⟨⟨y1, y2⟩, ⟨m1, m2⟩, ⟨d1, d2⟩, ⟨h1, h2⟩, ⟨i1, i2⟩⟩ := (vldB_iff _ _ _ _ _).1 q
      have e0 : (k % 12 + 1 - 1).toNat = (k % 12).toNat := by omega
      rw [e0] at d2
      have hc : cum (2000 + k / 12) ((k % 12).toNat + 1) = cum (2000 + k / 12) (k % 12).toNat + (len12 (2000 + k / 12)).getD (k % 12).toNat 0 := rfl
      have hms : ms (k + 1) = fst' (2000 + k / 12) + 1440 * cum (2000 + k / 12) ((k % 12).toNat + 1) := by
        unfold ms
        rcases Int.lt_or_le (k % 12) 11 with h | h
        · have e1 : (k + 1) / 12 = k / 12 := by omega
          have e2 : ((k + 1) % 12).toNat = (k % 12).toNat + 1 := by omega
          rw [e1, e2]
        · have e1 : (k + 1) / 12 = k / 12 + 1 := by omega
          have e2 : ((k + 1) % 12).toNat = 0 := by omega
          have e3 : (k % 12).toNat + 1 = 12 := by omega
          have e4 : 2000 + (k / 12 + 1) = 2000 + k / 12 + 1 := by omega
          rw [e1, e2, e3, e4, fst_step (by omega), cum12]
          have : cum (2000 + k / 12 + 1) 0 = 0 := rfl
          omega
      rw [if_pos rfl, hms, hc]
      unfold mns ms
      rw [e0]
      omega
theorem vAt_of {t : Int} (ht : 0 ≤ t ∧ t ≤ 52595999) : vAt (dtD t) (dtH t) (dtI t) (mnth t) = t := by
  obtain ⟨v, e⟩ := date_ok ht
  have hm := mnth_bd ht
  have e1 : 2000 + mnth t / 12 = dtY t := by have := v.mo; unfold mnth; omega
  have e2 : mnth t % 12 + 1 = dtM t := by have := v.mo; unfold mnth; omega
  rw [vAt_pos hm.1, e1, e2, (vldB_iff _ _ _ _ _).2 v, if_pos rfl, e]
theorem bstR_uniq {near m : Int} {f : Int → Int} {q k : Int} (hq : k ≤ q) (hf : f q = m) (h0 : 0 ≤ m) (hu : ∀ j, j ≠ q → 0 ≤ f j → dstI m near < dstI (f j) near) :
    ∀ n : Nat, (q < k + n → bstR near f k n = m) ∧ (¬ q < k + n → bstR near f k n < 0 ∨ dstI m near < dstI (bstR near f k n) near)
  | 0 => ⟨fun h => by omega, fun _ => Or.inl (by simp [bstR])⟩
  | n + 1 => by
    obtain ⟨i1, i2⟩ := bstR_uniq hq hf h0 hu n
    simp only [bstR, stp]
    refine ⟨fun h => ?_, fun h => ?_⟩
    · rcases Int.lt_or_le q (k + n) with c | c
      · rw [i1 c]
        rw [if_neg]
        rintro ⟨a, b⟩
        have := hu (k + n) (by omega) a
        omega
      · have e : k + (n : Int) = q := by omega
        rw [e, hf, if_pos ⟨h0, i2 (by omega)⟩]
    · split
      · next c => exact Or.inr (hu _ (by omega) c.1)
      · exact i2 (by omega)
theorem near_law {near m : Int} (hn : 0 ≤ near ∧ near ≤ 52595999) (hm : 0 ≤ m ∧ m ≤ 52595999) (h : -20159 ≤ m - near ∧ m - near ≤ 20159) :
    rsOk (dtD m) (dtH m) (dtI m) near = true ∧ rsV (dtD m) (dtH m) (dtI m) near = m := by
  have v := (date_ok hm).vld
  have hok : rsOk (dtD m) (dtH m) (dtI m) near = true := by
    rw [rsOk_iff]
    have hl := len12_bd (dtY m) (k := (dtM m - 1).toNat) (by have := v.mo; omega)
    have := v.dy; have := v.hr; have := v.mi
    refine ⟨by simpa [inB] using hn, by omega, by omega, ?_⟩
    unfold tmB; rw [decide_eq_true_eq]; omega
  refine ⟨hok, ?_⟩
  unfold rsV bst
  rw [if_pos hok]
  have a1 := vAt_of hm
  have a2 := vAt_of hn
  have b1 := vAt_ms (d := dtD m) (h := dtH m) (i := dtI m) (k := mnth m) (by omega)
  have b2 := vAt_ms (d := dtD near) (h := dtH near) (i := dtI near) (k := mnth near) (by omega)
  rw [a1] at b1
  rw [a2] at b2
  have c1 : mnth m ≤ mnth near + 1 := by
    rcases Int.lt_or_le (mnth near + 1) (mnth m) with c | c
    · have := ms_lt (j := mnth near + 1) (k := mnth m) (by omega) c; omega
    · exact c
  have c2 : mnth near ≤ mnth m + 1 := by
    rcases Int.lt_or_le (mnth m + 1) (mnth near) with c | c
    · have := ms_lt (j := mnth m + 1) (k := mnth near) (by omega) c; omega
    · exact c
  refine (bstR_uniq (by omega) a1 hm.1 (fun j hj h0 => ?_) 7).1 (by omega)
  obtain ⟨k0, k1, _, _⟩ := vAt_ms h0
  have e1 := b1.2.1
  unfold dstI
  rcases Int.lt_trichotomy j (mnth m) with c | c | c
  · have := ms_lt k0 c; omega
  · exact absurd c hj
  · have := ms_lt b1.1 c; omega
def lNear_s (inB : Int → Bool) (dtY : Int → Int) (dtM : Int → Int) (dtD : Int → Int) (dtH : Int → Int) (dtI : Int → Int) (mnV : List (List AV) → Int → Int) (mnA : List (List AV) → Int → Int) (rsV : Int → Int → Int → Int → Int) (rsOk : Int → Int → Int → Int → Bool) : Sp
  | [.sl 1 false zs] => some (IntsA zs, .bool true)
  | _ => none
set_option maxRecDepth 100000 in
def lNear_T (inB : Int → Bool) (dtY : Int → Int) (dtM : Int → Int) (dtD : Int → Int) (dtH : Int → Int) (dtI : Int → Int) (mnV : List (List AV) → Int → Int) (mnA : List (List AV) → Int → Int) (rsV : Int → Int → Int → Int → Int) (rsOk : Int → Int → Int → Int → Bool) (dtR : Int → Int) (cumI : Int → Int → Int) (tmB : Int → Int → Bool) (vldB : Int → Int → Int → Int → Int → Bool) (mns : Int → Int → Int → Int → Int → Int) (rsB : Int → Int → Int → Int → Int → Int) (mnth : Int → Int) (fmtC : Int → ByteArray) (prsM : ByteArray → Int) (prsV : ByteArray → Bool) : Prop :=
  ∀ (gl : Glob) (zs : List (List AV)), (∀ (x : List AV), List.Mem x zs → ∃ n, x = [AV.int IntKind.i64 n] ∧ rng IntKind.i64 n) → True → True ∧ (SrcI (List.take (2000 : Nat) zs) ∧ (0 :
  Int) ≤ (0 : Int)) ∧ ((SrcI (List.take (2000 : Nat) zs) ∧ (0 : Int) ≤ mnA (List.take (2000 : Nat) zs) (0 : Int)) ∧ ((-1000000 : Int) ≤ (-20159 : Int) ∧ (-20159 : Int) ≤ (1000000 :
  Int)) ∧ (-20159 : Int) ≤ (20159 : Int) ∧ (20159 : Int) ≤ (1000000 : Int)) ∧ bif decide (rng IntKind.i64 (mnV (List.take (2000 : Nat) zs) (0 : Int) + ((-20159 : Int) + srcN
  (List.take (2000 : Nat) zs) (mnA (List.take (2000 : Nat) zs) (0 : Int)) (40319 : Int)))) then True ∧ bif decide ¬(if inB (mnV (List.take (2000 : Nat) zs) (0 : Int) + ((-20159 :
  Int) + srcN (List.take (2000 : Nat) zs) (mnA (List.take (2000 : Nat) zs) (0 : Int)) (40319 : Int))) = true then (0 : Int) else (1 : Int)) = (0 : Int) then bif decide (mnV
  (List.take (2000 : Nat) zs) (0 : Int) + ((-20159 : Int) + srcN (List.take (2000 : Nat) zs) (mnA (List.take (2000 : Nat) zs) (0 : Int)) (40319 : Int)) < (0 : Int)) then True ∧ true
  = true else bif decide ((52595999 : Int) < mnV (List.take (2000 : Nat) zs) (0 : Int) + ((-20159 : Int) + srcN (List.take (2000 : Nat) zs) (mnA (List.take (2000 : Nat) zs) (0 :
  Int)) (40319 : Int))) then True ∧ true = true else false = true else True ∧ bif decide ((if rsOk (if inB (mnV (List.take (2000 : Nat) zs) (0 : Int) + ((-20159 : Int) + srcN
  (List.take (2000 : Nat) zs) (mnA (List.take (2000 : Nat) zs) (0 : Int)) (40319 : Int))) = true then dtD (mnV (List.take (2000 : Nat) zs) (0 : Int) + ((-20159 : Int) + srcN
  (List.take (2000 : Nat) zs) (mnA (List.take (2000 : Nat) zs) (0 : Int)) (40319 : Int))) else (0 : Int)) (if inB (mnV (List.take (2000 : Nat) zs) (0 : Int) + ((-20159 : Int) + srcN
  (List.take (2000 : Nat) zs) (mnA (List.take (2000 : Nat) zs) (0 : Int)) (40319 : Int))) = true then dtH (mnV (List.take (2000 : Nat) zs) (0 : Int) + ((-20159 : Int) + srcN
  (List.take (2000 : Nat) zs) (mnA (List.take (2000 : Nat) zs) (0 : Int)) (40319 : Int))) else (0 : Int)) (if inB (mnV (List.take (2000 : Nat) zs) (0 : Int) + ((-20159 : Int) + srcN
  (List.take (2000 : Nat) zs) (mnA (List.take (2000 : Nat) zs) (0 : Int)) (40319 : Int))) = true then dtI (mnV (List.take (2000 : Nat) zs) (0 : Int) + ((-20159 : Int) + srcN
  (List.take (2000 : Nat) zs) (mnA (List.take (2000 : Nat) zs) (0 : Int)) (40319 : Int))) else (0 : Int)) (mnV (List.take (2000 : Nat) zs) (0 : Int)) = true then (0 : Int) else (1 :
  Int)) = (0 : Int)) then bif decide (rsV (if inB (mnV (List.take (2000 : Nat) zs) (0 : Int) + ((-20159 : Int) + srcN (List.take (2000 : Nat) zs) (mnA (List.take (2000 : Nat) zs) (0
  : Int)) (40319 : Int))) = true then dtD (mnV (List.take (2000 : Nat) zs) (0 : Int) + ((-20159 : Int) + srcN (List.take (2000 : Nat) zs) (mnA (List.take (2000 : Nat) zs) (0 : Int))
  (40319 : Int))) else (0 : Int)) (if inB (mnV (List.take (2000 : Nat) zs) (0 : Int) + ((-20159 : Int) + srcN (List.take (2000 : Nat) zs) (mnA (List.take (2000 : Nat) zs) (0 : Int))
  (40319 : Int))) = true then dtH (mnV (List.take (2000 : Nat) zs) (0 : Int) + ((-20159 : Int) + srcN (List.take (2000 : Nat) zs) (mnA (List.take (2000 : Nat) zs) (0 : Int)) (40319 :
  Int))) else (0 : Int)) (if inB (mnV (List.take (2000 : Nat) zs) (0 : Int) + ((-20159 : Int) + srcN (List.take (2000 : Nat) zs) (mnA (List.take (2000 : Nat) zs) (0 : Int)) (40319 :
  Int))) = true then dtI (mnV (List.take (2000 : Nat) zs) (0 : Int) + ((-20159 : Int) + srcN (List.take (2000 : Nat) zs) (mnA (List.take (2000 : Nat) zs) (0 : Int)) (40319 : Int)))
  else (0 : Int)) (mnV (List.take (2000 : Nat) zs) (0 : Int)) = mnV (List.take (2000 : Nat) zs) (0 : Int) + ((-20159 : Int) + srcN (List.take (2000 : Nat) zs) (mnA (List.take (2000 :
  Nat) zs) (0 : Int)) (40319 : Int))) then True ∧ true = true else false = true else false = true else False
set_option maxRecDepth 100000 in
theorem lNear_P : lNear_T inB dtY dtM dtD dtH dtI mnV mnA rsV rsOk dtR cumI tmB vldB mns rsB mnth fmtC prsM prsV := by
  unfold lNear_T
  intro gl zs hz _
  have hs : SrcI (List.take 2000 zs) := SrcI.take hz
  generalize List.take 2000 zs = xs at *
  have h1 := mnV_in xs 0
  have h2 := mnA_le (xs := xs) (i := 0) (by decide)
  have h3 := srcN_lt (xs := xs) (i := mnA xs 0) (n := 40319) (by decide)
  refine ⟨trivial, ⟨hs, by decide⟩, ⟨⟨hs, h2⟩, ⟨by decide, by decide⟩, by decide, by decide⟩, cdI (by omega) ⟨trivial, ?_⟩⟩
  generalize hM : mnV xs 0 + (-20159 + srcN xs (mnA xs 0) 40319) = m
  cases hb : inB m with
  | false =>
    have hb : ¬ (0 ≤ m ∧ m ≤ 52595999) := by simpa [inB] using hb
    refine csplit (fun _ => csplit (fun _ => ⟨trivial, rfl⟩) (fun q => csplit (fun _ => ⟨trivial, rfl⟩) (fun r => ?_))) (fun q => absurd (of_decide_eq_false q) (by decide))
    have q := of_decide_eq_false q
    have r := of_decide_eq_false r
    omega
  | true =>
    have hm : 0 ≤ m ∧ m ≤ 52595999 := by simpa [inB] using hb
    obtain ⟨l1, l2⟩ := near_law h1 hm (by omega)
    simp only [if_true]
    rw [l1, l2]
    refine csplit (fun q => absurd q (by decide)) (fun _ => ⟨trivial, cd1 rfl (cd1 rfl ⟨trivial, trivial⟩)⟩)
def lNear_S (inB : Int → Bool) (dtY : Int → Int) (dtM : Int → Int) (dtD : Int → Int) (dtH : Int → Int) (dtI : Int → Int) (mnV : List (List AV) → Int → Int) (mnA : List (List AV) → Int → Int) (rsV : Int → Int → Int → Int → Int) (rsOk : Int → Int → Int → Int → Bool) (dtR : Int → Int) (cumI : Int → Int → Int) (tmB : Int → Int → Bool) (vldB : Int → Int → Int → Int → Int → Bool) (mns : Int → Int → Int → Int → Int → Int) (rsB : Int → Int → Int → Int → Int → Int) (mnth : Int → Int) (fmtC : Int → ByteArray) (prsM : ByteArray → Int) (prsV : ByteArray → Bool) : Prop := ∀ (gl : Glob) (zs : List (List AV)), IntsA zs → fnK Try.prog { glob := gl, spec := lk [(19, (cDate_s inB dtY dtM dtD dtH dtI dtR cumI)), (27, (cResolve_s inB dtY dtM dtD dtH dtI tmB vldB mns rsV rsOk rsB mnth)), (21, (cAwake_s fmtC inB prsM prsV rsV rsOk))], specH := lk [(10, newsrc_s), (18, (lMinute_s mnV mnA)), (11, srcRg_s)], nowf := true } { nt := 55, drop := drp [(1, 3072), (2, 12288), (3, 245760), (4, 8126464), (5, 8388608), (6, 17146314752), (7, 35167192219648), (8, 35993612646875136)] } (fun _ _ => none) 6 Try.f6 [.sl 1 false zs] (.bool true)
set_option maxRecDepth 100000 in
theorem lNear_e (inB : Int → Bool) (dtY : Int → Int) (dtM : Int → Int) (dtD : Int → Int) (dtH : Int → Int) (dtI : Int → Int) (mnV : List (List AV) → Int → Int) (mnA : List (List AV) → Int → Int) (rsV : Int → Int → Int → Int → Int) (rsOk : Int → Int → Int → Int → Bool) (dtR : Int → Int) (cumI : Int → Int → Int) (tmB : Int → Int → Bool) (vldB : Int → Int → Int → Int → Int → Bool) (mns : Int → Int → Int → Int → Int → Int) (rsB : Int → Int → Int → Int → Int → Int) (mnth : Int → Int) (fmtC : Int → ByteArray) (prsM : ByteArray → Int) (prsV : ByteArray → Bool) : lNear_T inB dtY dtM dtD dtH dtI mnV mnA rsV rsOk dtR cumI tmB vldB mns rsB mnth fmtC prsM prsV = lNear_S inB dtY dtM dtD dtH dtI mnV mnA rsV rsOk dtR cumI tmB vldB mns rsB mnth fmtC prsM prsV := by kernel_rfl
theorem lNear_v : lNear_S inB dtY dtM dtD dtH dtI mnV mnA rsV rsOk dtR cumI tmB vldB mns rsB mnth fmtC prsM prsV := @Eq.mp (lNear_T inB dtY dtM dtD dtH dtI mnV mnA rsV rsOk dtR cumI tmB vldB mns rsB mnth fmtC prsM prsV) (lNear_S inB dtY dtM dtD dtH dtI mnV mnA rsV rsOk dtR cumI tmB vldB mns rsB mnth fmtC prsM prsV) (lNear_e inB dtY dtM dtD dtH dtI mnV mnA rsV rsOk dtR cumI tmB vldB mns rsB mnth fmtC prsM prsV) lNear_P
theorem lNear_ok (gl : Glob) : SOK Try.prog gl 6 (lNear_s inB dtY dtM dtD dtH dtI mnV mnA rsV rsOk) := by
  refine ⟨fok Try.func6 (by kernel_rfl) (by kernel_rfl), ?_⟩
  intro xs pre r h hp
  unfold lNear_s at h
  split at h
  · simp only [Option.some.injEq, Prod.mk.injEq] at h
    obtain ⟨h1, h2⟩ := h
    subst h1 h2
    exact fnK_sound tyNil (by exact specOK rfl rfl ⟨cDate_ok gl, cResolve_ok gl, cAwake_ok gl, trivial⟩ ⟨newsrc_ok gl, lMinute_ok gl, srcRg_ok gl, trivial⟩) (by kernel_rfl) Try.func6 rfl (lNear_v gl _ hp)
  · cases h
end Go.Proofs.Ytakmploakbaglaa
