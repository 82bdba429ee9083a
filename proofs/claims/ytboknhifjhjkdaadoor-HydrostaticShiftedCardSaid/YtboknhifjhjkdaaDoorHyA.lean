/- Hydrostatic: the program's functions. -/
import Derived.Test.YtboknhifjhjkdaaDoorElA
namespace Go.Proofs.YtboknhifjhjkdaaDoor
open Go
set_option linter.unusedVariables false
set_option linter.unusedSimpArgs false

def sz (n : Int) : Int := max n (-n)
def fnd (xs : List (List AV)) (c : Int) : Bool := fdB xs c && (decide (-100000 ≤ fdV xs c) && decide (fdV xs c ≤ 100000))
def rsB (xs : List (List AV)) (h t a c : Int) : Bool := fnd xs h && (fnd xs t && (fnd xs a && fnd xs c))
def rsV (xs : List (List AV)) (h t a c k : Int) : Int := if rsB xs h t a c then 20000 * (fdV xs a - fdV xs h) - k * (fdV xs t + fdV xs c) else 0
def rL (xs : List (List AV)) : Int := rsV xs 6 7 8 9 5683
def rU (xs : List (List AV)) : Int := rsV xs 8 9 10 11 9848
def bL (xs : List (List AV)) : Bool := rsB xs 6 7 8 9
def bU (xs : List (List AV)) : Bool := rsB xs 8 9 10 11
def hgt (a b m : Int) : Bool := decide (sz (a + b) ≤ 20000 * m)
def wrm (a b m : Int) : Bool := decide (sz (9848 * a - 5683 * b) ≤ 196960000 * m)
def botL (a b m : Int) : List Int := if hgt a b m && !wrm a b m then [8] else if wrm a b m && !hgt a b m then [9] else [6, 7, 8, 9, 10, 11]
def wrg (a m : Int) : Bool := decide (20000 * m < sz a)
def chR (a : Int) (la : Bool) (b : Int) (lb : Bool) (m : Int) : List Int :=
  if wrg a m && wrg b m then botL a b m else if wrg a m && lb then [6, 7] else if wrg a m then [6, 7, 8, 9] else if wrg b m && la then [10, 11] else if wrg b m then [8, 9, 10, 11] else []
def chE (xs : List (List AV)) (m : Int) : Int := if m < 0 ∨ 1000 < m then 1 else vdE xs
def chL (xs : List (List AV)) (m : Int) : List Int := if chE xs m = 0 then chR (rL xs) (bL xs) (rU xs) (bU xs) m else []
def iro (l : List Int) : List (List AV) := l.map fun n => [.int .i64 n]
theorem fnd_iff {xs : List (List AV)} {c : Int} : fnd xs c = true ↔ fdB xs c = true ∧ -100000 ≤ fdV xs c ∧ fdV xs c ≤ 100000 := by unfold fnd; simp
theorem fnd_f {xs : List (List AV)} {c : Int} (h : ¬ (fdB xs c = true ∧ -100000 ≤ fdV xs c ∧ fdV xs c ≤ 100000)) : fnd xs c = false := by
  rw [Bool.eq_false_iff]; exact fun q => h (fnd_iff.1 q)
theorem rsB_iff {xs : List (List AV)} {h t a c : Int} : rsB xs h t a c = true ↔ fnd xs h = true ∧ fnd xs t = true ∧ fnd xs a = true ∧ fnd xs c = true := by unfold rsB; simp
theorem rs_no {xs : List (List AV)} {h t a c k : Int} (q : fnd xs h = false ∨ fnd xs t = false ∨ fnd xs a = false ∨ fnd xs c = false) : 0 = rsV xs h t a c k ∧ false = rsB xs h t a c ∧ True := by
  have : rsB xs h t a c = false := by
    rw [Bool.eq_false_iff]; intro e
    obtain ⟨e1, e2, e3, e4⟩ := rsB_iff.1 e
    rw [e1, e2, e3, e4] at q; simp at q
  unfold rsV; rw [this]; exact ⟨rfl, rfl, trivial⟩
theorem mul_bd {k s : Int} (hk : 0 ≤ k ∧ k ≤ 10000) (hs : -200000 ≤ s ∧ s ≤ 200000) : -2000000000 ≤ k * s ∧ k * s ≤ 2000000000 := by
  rcases Int.le_total 0 s with h | h
  · have h1 := Int.mul_le_mul hk.2 hs.2 h (by decide)
    have h2 := Int.mul_nonneg hk.1 h
    omega
  · have h1 := Int.mul_le_mul hk.2 (show -s ≤ 200000 by omega) (by omega) (by decide)
    have h2 := Int.mul_nonneg hk.1 (show 0 ≤ -s by omega)
    rw [Int.mul_neg] at h1 h2
    omega
theorem rs_bd {xs : List (List AV)} {h t a c k : Int} (hk : 0 ≤ k ∧ k ≤ 10000) : -6000000000 ≤ rsV xs h t a c k ∧ rsV xs h t a c k ≤ 6000000000 := by
  unfold rsV
  split
  · next e =>
    obtain ⟨e1, e2, e3, e4⟩ := rsB_iff.1 e
    have := (fnd_iff.1 e1).2
    have := (fnd_iff.1 e2).2
    have := (fnd_iff.1 e3).2
    have := (fnd_iff.1 e4).2
    have := mul_bd (s := fdV xs t + fdV xs c) hk (by omega)
    omega
  · omega
def hsize_s (sz : Int → Int) : Sp
  | [.int .i64 n] => some (-1000000000000000 ≤ n ∧ n ≤ 1000000000000000, .int .i64 (sz n))
  | _ => none
set_option maxRecDepth 100000 in
def hsize_T (sz : Int → Int) : Prop :=
  ∀ (gl : Glob) (n : Int), (-1000000000000000 : Int) ≤ n ∧ n ≤ (1000000000000000 : Int) → (-9223372036854775808 : Int) ≤ n ∧ n ≤ (9223372036854775807 : Int) → bif decide (rng
  IntKind.i64 ((0 : Int) - n)) then max n ((0 : Int) - n) = sz n else False
set_option maxRecDepth 100000 in
theorem hsize_P : hsize_T sz := by
  unfold hsize_T
  intro gl n h hn
  refine cdI (by omega) ?_
  unfold sz; rw [Int.zero_sub]
def hsize_S (sz : Int → Int) : Prop := ∀ (gl : Glob) (n : Int), -1000000000000000 ≤ n ∧ n ≤ 1000000000000000 → fnK Tryd.prog { glob := gl, spec := lk [], specH := lk [] } { nt := 7, drop := drp [(1, 120)] } (fun _ _ => none) 6 Tryd.f19 [.int .i64 n] (.int .i64 (sz n))
set_option maxRecDepth 100000 in
theorem hsize_e (sz : Int → Int) : hsize_T sz = hsize_S sz := by kernel_rfl
theorem hsize_v : hsize_S sz := @Eq.mp (hsize_T sz) (hsize_S sz) (hsize_e sz) hsize_P
theorem hsize_ok (gl : Glob) : SOK Tryd.prog gl 19 (hsize_s sz) := by
  refine ⟨fok Tryd.func19 (by kernel_rfl) (by kernel_rfl), ?_⟩
  intro xs pre r h hp
  unfold hsize_s at h
  split at h
  · simp only [Option.some.injEq, Prod.mk.injEq] at h
    obtain ⟨h1, h2⟩ := h
    subst h1 h2
    exact fnK_sound tyNil (by exact specOK rfl rfl trivial trivial) (by kernel_rfl) Tryd.func19 rfl (hsize_v gl _ hp)
  · cases h
def hlower_s : Sp
  | [] => some (True, .agg [.int .i64 6, .int .i64 7, .int .i64 8, .int .i64 9, .int .i64 5683])
  | _ => none
set_option maxRecDepth 100000 in
def hlower_T : Prop :=
  ∀ (gl : Glob), (6 : Int) = (6 : Int) ∧ (7 : Int) = (7 : Int) ∧ (8 : Int) = (8 : Int) ∧ (9 : Int) = (9 : Int) ∧ (5683 : Int) = (5683 : Int) ∧ True
set_option maxRecDepth 100000 in
theorem hlower_P : hlower_T := by
  unfold hlower_T
  intro gl
  repeat' (first | apply And.intro | exact trivial | exact rfl)
def hlower_S : Prop := ∀ (gl : Glob), fnK Tryd.prog { glob := gl, spec := lk [], specH := lk [] } { nt := 2, drop := drp [(1, 2)] } (fun _ _ => none) 6 Tryd.f24 [] (.agg [.int .i64 6, .int .i64 7, .int .i64 8, .int .i64 9, .int .i64 5683])
set_option maxRecDepth 100000 in
theorem hlower_e : hlower_T = hlower_S := by kernel_rfl
theorem hlower_v : hlower_S := @Eq.mp (hlower_T) (hlower_S) (hlower_e) hlower_P
theorem hlower_ok (gl : Glob) : SOK Tryd.prog gl 24 hlower_s := by
  refine ⟨fok Tryd.func24 (by kernel_rfl) (by kernel_rfl), ?_⟩
  intro xs pre r h hp
  unfold hlower_s at h
  split at h
  · simp only [Option.some.injEq, Prod.mk.injEq] at h
    obtain ⟨h1, h2⟩ := h
    subst h1 h2
    exact fnK_sound tyNil (by exact specOK rfl rfl trivial trivial) (by kernel_rfl) Tryd.func24 rfl (hlower_v gl )
  · cases h
def hupper_s : Sp
  | [] => some (True, .agg [.int .i64 8, .int .i64 9, .int .i64 10, .int .i64 11, .int .i64 9848])
  | _ => none
set_option maxRecDepth 100000 in
def hupper_T : Prop :=
  ∀ (gl : Glob), (8 : Int) = (8 : Int) ∧ (9 : Int) = (9 : Int) ∧ (10 : Int) = (10 : Int) ∧ (11 : Int) = (11 : Int) ∧ (9848 : Int) = (9848 : Int) ∧ True
set_option maxRecDepth 100000 in
theorem hupper_P : hupper_T := by
  unfold hupper_T
  intro gl
  repeat' (first | apply And.intro | exact trivial | exact rfl)
def hupper_S : Prop := ∀ (gl : Glob), fnK Tryd.prog { glob := gl, spec := lk [], specH := lk [] } { nt := 2, drop := drp [(1, 2)] } (fun _ _ => none) 6 Tryd.f26 [] (.agg [.int .i64 8, .int .i64 9, .int .i64 10, .int .i64 11, .int .i64 9848])
set_option maxRecDepth 100000 in
theorem hupper_e : hupper_T = hupper_S := by kernel_rfl
theorem hupper_v : hupper_S := @Eq.mp (hupper_T) (hupper_S) (hupper_e) hupper_P
theorem hupper_ok (gl : Glob) : SOK Tryd.prog gl 26 hupper_s := by
  refine ⟨fok Tryd.func26 (by kernel_rfl) (by kernel_rfl), ?_⟩
  intro xs pre r h hp
  unfold hupper_s at h
  split at h
  · simp only [Option.some.injEq, Prod.mk.injEq] at h
    obtain ⟨h1, h2⟩ := h
    subst h1 h2
    exact fnK_sound tyNil (by exact specOK rfl rfl trivial trivial) (by kernel_rfl) Tryd.func26 rfl (hupper_v gl )
  · cases h
def hresid_s (rsV : List (List AV) → Int → Int → Int → Int → Int → Int) (rsB : List (List AV) → Int → Int → Int → Int → Bool) : Sp
  | [.agg [.int .i64 h, .int .i64 t, .int .i64 a, .int .i64 c, .int .i64 k], .sl 2 f xs] => some (RdsP xs ∧ 0 ≤ k ∧ k ≤ 10000, .tup [.int .i64 (rsV xs h t a c k), .bool (rsB xs h t a c)])
  | _ => none
set_option maxRecDepth 100000 in
def hresid_T (rsV : List (List AV) → Int → Int → Int → Int → Int → Int) (rsB : List (List AV) → Int → Int → Int → Int → Bool) (fdV : List (List AV) → Int → Int) (fdB : List (List AV) → Int → Bool) : Prop :=
  ∀ (gl : Glob) (h t a c k : Int) (f : Bool) (xs : List (List AV)), RdsP xs ∧ (0 : Int) ≤ k ∧ k ≤ (10000 : Int) → ((-9223372036854775808 : Int) ≤ h ∧ h ≤ (9223372036854775807 : Int))
  ∧ ((-9223372036854775808 : Int) ≤ t ∧ t ≤ (9223372036854775807 : Int)) ∧ ((-9223372036854775808 : Int) ≤ a ∧ a ≤ (9223372036854775807 : Int)) ∧ ((-9223372036854775808 : Int) ≤ c ∧
  c ≤ (9223372036854775807 : Int)) ∧ ((-9223372036854775808 : Int) ≤ k ∧ k ≤ (9223372036854775807 : Int)) ∧ True → True → RdsP xs ∧ bif !fdB xs h then (0 : Int) = rsV xs h t a c k ∧
  false = rsB xs h t a c ∧ True else bif decide (fdV xs h < (-100000 : Int)) then (0 : Int) = rsV xs h t a c k ∧ false = rsB xs h t a c ∧ True else bif decide ((100000 : Int) < fdV
  xs h) then (0 : Int) = rsV xs h t a c k ∧ false = rsB xs h t a c ∧ True else RdsP xs ∧ bif !fdB xs t then (0 : Int) = rsV xs h t a c k ∧ false = rsB xs h t a c ∧ True else bif
  decide (fdV xs t < (-100000 : Int)) then (0 : Int) = rsV xs h t a c k ∧ false = rsB xs h t a c ∧ True else bif decide ((100000 : Int) < fdV xs t) then (0 : Int) = rsV xs h t a c k
  ∧ false = rsB xs h t a c ∧ True else RdsP xs ∧ bif !fdB xs a then (0 : Int) = rsV xs h t a c k ∧ false = rsB xs h t a c ∧ True else bif decide (fdV xs a < (-100000 : Int)) then (0
  : Int) = rsV xs h t a c k ∧ false = rsB xs h t a c ∧ True else bif decide ((100000 : Int) < fdV xs a) then (0 : Int) = rsV xs h t a c k ∧ false = rsB xs h t a c ∧ True else RdsP xs
  ∧ bif !fdB xs c then (0 : Int) = rsV xs h t a c k ∧ false = rsB xs h t a c ∧ True else bif decide (fdV xs c < (-100000 : Int)) then (0 : Int) = rsV xs h t a c k ∧ false = rsB xs h
  t a c ∧ True else bif decide ((100000 : Int) < fdV xs c) then (0 : Int) = rsV xs h t a c k ∧ false = rsB xs h t a c ∧ True else bif decide (rng IntKind.i64 (fdV xs a - fdV xs h))
  then bif decide (rng IntKind.i64 ((20000 : Int) * (fdV xs a - fdV xs h))) then bif decide (rng IntKind.i64 (fdV xs t + fdV xs c)) then bif decide (rng IntKind.i64 (k * (fdV xs t +
  fdV xs c))) then bif decide (rng IntKind.i64 ((20000 : Int) * (fdV xs a - fdV xs h) - k * (fdV xs t + fdV xs c))) then (20000 : Int) * (fdV xs a - fdV xs h) - k * (fdV xs t + fdV
  xs c) = rsV xs h t a c k ∧ true = rsB xs h t a c ∧ True else False else False else False else False else False
set_option maxRecDepth 100000 in
theorem hresid_P : hresid_T rsV rsB fdV fdB := by
  unfold hresid_T
  intro gl h t a c k f xs ⟨hr, h0, h1⟩ _ _
  refine ⟨hr, csplit (fun q => rs_no (.inl (fnd_f fun e => by rw [e.1] at q; cases q))) (fun b1 => cs (fun q => rs_no (.inl (fnd_f fun e => by omega))) (fun l1 => cs (fun q => rs_no (.inl (fnd_f fun e => by omega))) (fun u1 => ?_)))⟩
  refine ⟨hr, csplit (fun q => rs_no (.inr (.inl (fnd_f fun e => by rw [e.1] at q; cases q)))) (fun b2 => cs (fun q => rs_no (.inr (.inl (fnd_f fun e => by omega)))) (fun l2 => cs (fun q => rs_no (.inr (.inl (fnd_f fun e => by omega)))) (fun u2 => ?_)))⟩
  refine ⟨hr, csplit (fun q => rs_no (.inr (.inr (.inl (fnd_f fun e => by rw [e.1] at q; cases q))))) (fun b3 => cs (fun q => rs_no (.inr (.inr (.inl (fnd_f fun e => by omega))))) (fun l3 => cs (fun q => rs_no (.inr (.inr (.inl (fnd_f fun e => by omega))))) (fun u3 => ?_)))⟩
  refine ⟨hr, csplit (fun q => rs_no (.inr (.inr (.inr (fnd_f fun e => by rw [e.1] at q; cases q))))) (fun b4 => cs (fun q => rs_no (.inr (.inr (.inr (fnd_f fun e => by omega))))) (fun l4 => cs (fun q => rs_no (.inr (.inr (.inr (fnd_f fun e => by omega))))) (fun u4 => ?_)))⟩
  simp only [Bool.not_eq_false'] at b1 b2 b3 b4
  have hB : rsB xs h t a c = true := rsB_iff.2 ⟨fnd_iff.2 ⟨b1, by omega, by omega⟩, fnd_iff.2 ⟨b2, by omega, by omega⟩, fnd_iff.2 ⟨b3, by omega, by omega⟩, fnd_iff.2 ⟨b4, by omega, by omega⟩⟩
  have hm := mul_bd (s := fdV xs t + fdV xs c) ⟨h0, h1⟩ (by omega)
  refine cdI (by omega) (cdI (by omega) (cdI (by omega) (cdI (by omega) (cdI (by omega) ⟨?_, hB.symm, trivial⟩))))
  unfold rsV; rw [if_pos hB]
def hresid_S (rsV : List (List AV) → Int → Int → Int → Int → Int → Int) (rsB : List (List AV) → Int → Int → Int → Int → Bool) (fdV : List (List AV) → Int → Int) (fdB : List (List AV) → Int → Bool) : Prop := ∀ (gl : Glob) (h t a c k : Int) (f : Bool) (xs : List (List AV)), RdsP xs ∧ 0 ≤ k ∧ k ≤ 10000 → fnK Tryd.prog { glob := gl, spec := lk [(31, (efind_s fdV fdB))], specH := lk [], nowf := true } { nt := 59, drop := drp [(2, 522240), (4, 12582912), (5, 1056964608), (6, 548682072064), (8, 7696581394432), (9, 8796093022208), (10, 576443160117379072)] } (fun _ _ => none) 6 Tryd.f25 [.agg [.int .i64 h, .int .i64 t, .int .i64 a, .int .i64 c, .int .i64 k], .sl 2 f xs] (.tup [.int .i64 (rsV xs h t a c k), .bool (rsB xs h t a c)])
set_option maxRecDepth 100000 in
theorem hresid_e (rsV : List (List AV) → Int → Int → Int → Int → Int → Int) (rsB : List (List AV) → Int → Int → Int → Int → Bool) (fdV : List (List AV) → Int → Int) (fdB : List (List AV) → Int → Bool) : hresid_T rsV rsB fdV fdB = hresid_S rsV rsB fdV fdB := by kernel_rfl
theorem hresid_v : hresid_S rsV rsB fdV fdB := @Eq.mp (hresid_T rsV rsB fdV fdB) (hresid_S rsV rsB fdV fdB) (hresid_e rsV rsB fdV fdB) hresid_P
theorem hresid_ok (gl : Glob) : SOK Tryd.prog gl 25 (hresid_s rsV rsB) := by
  refine ⟨fok Tryd.func25 (by kernel_rfl) (by kernel_rfl), ?_⟩
  intro xs pre r h hp
  unfold hresid_s at h
  split at h
  · simp only [Option.some.injEq, Prod.mk.injEq] at h
    obtain ⟨h1, h2⟩ := h
    subst h1 h2
    exact fnK_sound tyNil (by exact specOK rfl rfl ⟨efind_ok gl, trivial⟩ trivial) (by kernel_rfl) Tryd.func25 rfl (hresid_v gl _ _ _ _ _ _ _ hp)
  · cases h
def hresids_s (rL : List (List AV) → Int) (rU : List (List AV) → Int) (bL : List (List AV) → Bool) (bU : List (List AV) → Bool) : Sp
  | [.sl 2 f xs] => some (RdsP xs, .tup [.int .i64 (rL xs), .bool (bL xs), .int .i64 (rU xs), .bool (bU xs)])
  | _ => none
set_option maxRecDepth 100000 in
def hresids_T (rL : List (List AV) → Int) (rU : List (List AV) → Int) (bL : List (List AV) → Bool) (bU : List (List AV) → Bool) : Prop :=
  ∀ (gl : Glob) (f : Bool) (xs : List (List AV)), RdsP xs → True → True ∧ (RdsP xs ∧ (0 : Int) ≤ (5683 : Int) ∧ (5683 : Int) ≤ (10000 : Int)) ∧ True ∧ (RdsP xs ∧ (0 : Int) ≤ (9848 :
  Int) ∧ (9848 : Int) ≤ (10000 : Int)) ∧ rsV xs (6 : Int) (7 : Int) (8 : Int) (9 : Int) (5683 : Int) = rL xs ∧ rsB xs (6 : Int) (7 : Int) (8 : Int) (9 : Int) = bL xs ∧ rsV xs (8 :
  Int) (9 : Int) (10 : Int) (11 : Int) (9848 : Int) = rU xs ∧ rsB xs (8 : Int) (9 : Int) (10 : Int) (11 : Int) = bU xs ∧ True
set_option maxRecDepth 100000 in
theorem hresids_P : hresids_T rL rU bL bU := by
  unfold hresids_T
  intro gl f xs hr _
  exact ⟨trivial, ⟨hr, by decide, by decide⟩, trivial, ⟨hr, by decide, by decide⟩, rfl, rfl, rfl, rfl, trivial⟩
def hresids_S (rL : List (List AV) → Int) (rU : List (List AV) → Int) (bL : List (List AV) → Bool) (bU : List (List AV) → Bool) : Prop := ∀ (gl : Glob) (f : Bool) (xs : List (List AV)), RdsP xs → fnK Tryd.prog { glob := gl, spec := lk [(24, hlower_s), (26, hupper_s), (25, (hresid_s Go.Proofs.YtboknhifjhjkdaaDoor.rsV Go.Proofs.YtboknhifjhjkdaaDoor.rsB))], specH := lk [], nowf := true } { nt := 26, drop := drp [(1, 64512), (2, 4128768), (3, 62914560)] } (fun _ _ => none) 6 Tryd.f15 [.sl 2 f xs] (.tup [.int .i64 (rL xs), .bool (bL xs), .int .i64 (rU xs), .bool (bU xs)])
set_option maxRecDepth 100000 in
theorem hresids_e (rL : List (List AV) → Int) (rU : List (List AV) → Int) (bL : List (List AV) → Bool) (bU : List (List AV) → Bool) : hresids_T rL rU bL bU = hresids_S rL rU bL bU := by kernel_rfl
theorem hresids_v : hresids_S rL rU bL bU := @Eq.mp (hresids_T rL rU bL bU) (hresids_S rL rU bL bU) (hresids_e rL rU bL bU) hresids_P
theorem hresids_ok (gl : Glob) : SOK Tryd.prog gl 15 (hresids_s rL rU bL bU) := by
  refine ⟨fok Tryd.func15 (by kernel_rfl) (by kernel_rfl), ?_⟩
  intro xs pre r h hp
  unfold hresids_s at h
  split at h
  · simp only [Option.some.injEq, Prod.mk.injEq] at h
    obtain ⟨h1, h2⟩ := h
    subst h1 h2
    exact fnK_sound tyNil (by exact specOK rfl rfl ⟨hlower_ok gl, hupper_ok gl, hresid_ok gl, trivial⟩ trivial) (by kernel_rfl) Tryd.func15 rfl (hresids_v gl _ _ hp)
  · cases h
def hboth_s (botL : Int → Int → Int → List Int) : Sp
  | [.int .i64 a, .int .i64 b, .int .i64 m] => some ((-10000000000 ≤ a ∧ a ≤ 10000000000) ∧ (-10000000000 ≤ b ∧ b ≤ 10000000000) ∧ 0 ≤ m ∧ m ≤ 1000, .sl 1 false (iro (botL a b m)))
  | _ => none
set_option maxRecDepth 100000 in
def hboth_T (botL : Int → Int → Int → List Int) (sz : Int → Int) : Prop :=
  ∀ (gl : Glob) (a b m : Int), ((-10000000000 : Int) ≤ a ∧ a ≤ (10000000000 : Int)) ∧ ((-10000000000 : Int) ≤ b ∧ b ≤ (10000000000 : Int)) ∧ (0 : Int) ≤ m ∧ m ≤ (1000 : Int) →
  (-9223372036854775808 : Int) ≤ a ∧ a ≤ (9223372036854775807 : Int) → (-9223372036854775808 : Int) ≤ b ∧ b ≤ (9223372036854775807 : Int) → (-9223372036854775808 : Int) ≤ m ∧ m ≤
  (9223372036854775807 : Int) → bif decide (rng IntKind.i64 (a + b)) then ((-1000000000000000 : Int) ≤ a + b ∧ a + b ≤ (1000000000000000 : Int)) ∧ bif decide (rng IntKind.i64 ((20000
  : Int) * m)) then bif decide (rng IntKind.i64 ((9848 : Int) * a)) then bif decide (rng IntKind.i64 ((5683 : Int) * b)) then bif decide (rng IntKind.i64 ((9848 : Int) * a - (5683 :
  Int) * b)) then ((-1000000000000000 : Int) ≤ (9848 : Int) * a - (5683 : Int) * b ∧ (9848 : Int) * a - (5683 : Int) * b ≤ (1000000000000000 : Int)) ∧ bif decide (rng IntKind.i64
  ((196960000 : Int) * m)) then bif decide (sz (a + b) ≤ (20000 : Int) * m) then bif !decide (sz ((9848 : Int) * a - (5683 : Int) * b) ≤ (196960000 : Int) * m) then True ∧ [[AV.int
  IntKind.i64 (8 : Int)]] = iro (botL a b m) else bif decide (sz ((9848 : Int) * a - (5683 : Int) * b) ≤ (196960000 : Int) * m) then bif !decide (sz (a + b) ≤ (20000 : Int) * m) then
  True ∧ [[AV.int IntKind.i64 (9 : Int)]] = iro (botL a b m) else True ∧ [[AV.int IntKind.i64 (6 : Int)], [AV.int IntKind.i64 (7 : Int)], [AV.int IntKind.i64 (8 : Int)], [AV.int
  IntKind.i64 (9 : Int)], [AV.int IntKind.i64 (10 : Int)], [AV.int IntKind.i64 (11 : Int)]] = iro (botL a b m) else True ∧ [[AV.int IntKind.i64 (6 : Int)], [AV.int IntKind.i64 (7 :
  Int)], [AV.int IntKind.i64 (8 : Int)], [AV.int IntKind.i64 (9 : Int)], [AV.int IntKind.i64 (10 : Int)], [AV.int IntKind.i64 (11 : Int)]] = iro (botL a b m) else bif decide (sz
  ((9848 : Int) * a - (5683 : Int) * b) ≤ (196960000 : Int) * m) then bif !decide (sz (a + b) ≤ (20000 : Int) * m) then True ∧ [[AV.int IntKind.i64 (9 : Int)]] = iro (botL a b m)
  else True ∧ [[AV.int IntKind.i64 (6 : Int)], [AV.int IntKind.i64 (7 : Int)], [AV.int IntKind.i64 (8 : Int)], [AV.int IntKind.i64 (9 : Int)], [AV.int IntKind.i64 (10 : Int)],
  [AV.int IntKind.i64 (11 : Int)]] = iro (botL a b m) else True ∧ [[AV.int IntKind.i64 (6 : Int)], [AV.int IntKind.i64 (7 : Int)], [AV.int IntKind.i64 (8 : Int)], [AV.int IntKind.i64
  (9 : Int)], [AV.int IntKind.i64 (10 : Int)], [AV.int IntKind.i64 (11 : Int)]] = iro (botL a b m) else False else False else False else False else False else False
set_option maxRecDepth 100000 in
theorem hboth_P : hboth_T botL sz := by
  unfold hboth_T
  intro gl a b m ⟨ha, hb, hm⟩ _ _ _
  refine cdI (by omega) ⟨by omega, cdI (by omega) (cdI (by omega) (cdI (by omega) (cdI (by omega) ⟨by omega, cdI (by omega) ?_⟩)))⟩
  unfold botL hgt wrm
  generalize decide (sz (a + b) ≤ 20000 * m) = H
  generalize decide (sz (9848 * a - 5683 * b) ≤ 196960000 * m) = W
  cases H <;> cases W <;> exact ⟨trivial, rfl⟩
def hboth_S (botL : Int → Int → Int → List Int) (sz : Int → Int) : Prop := ∀ (gl : Glob) (a b m : Int), (-10000000000 ≤ a ∧ a ≤ 10000000000) ∧ (-10000000000 ≤ b ∧ b ≤ 10000000000) ∧ 0 ≤ m ∧ m ≤ 1000 → fnK Tryd.prog { glob := gl, spec := lk [(19, (hsize_s sz))], specH := lk [], nowf := true } { nt := 40, drop := drp [(1, 65024), (2, 33488896), (3, 2080374784), (4, 2147483648), (5, 266287972352), (6, 274877906944), (7, 549755813888)] } (fun _ _ => none) 6 Tryd.f20 [.int .i64 a, .int .i64 b, .int .i64 m] (.sl 1 false (iro (botL a b m)))
set_option maxRecDepth 100000 in
theorem hboth_e (botL : Int → Int → Int → List Int) (sz : Int → Int) : hboth_T botL sz = hboth_S botL sz := by kernel_rfl
theorem hboth_v : hboth_S botL sz := @Eq.mp (hboth_T botL sz) (hboth_S botL sz) (hboth_e botL sz) hboth_P
theorem hboth_ok (gl : Glob) : SOK Tryd.prog gl 20 (hboth_s botL) := by
  refine ⟨fok Tryd.func20 (by kernel_rfl) (by kernel_rfl), ?_⟩
  intro xs pre r h hp
  unfold hboth_s at h
  split at h
  · simp only [Option.some.injEq, Prod.mk.injEq] at h
    obtain ⟨h1, h2⟩ := h
    subst h1 h2
    exact fnK_sound tyNil (by exact specOK rfl rfl ⟨hsize_ok gl, trivial⟩ trivial) (by kernel_rfl) Tryd.func20 rfl (hboth_v gl _ _ _ hp)
  · cases h
def hcheck_s (vdE : List (List AV) → Int) (rL : List (List AV) → Int) (rU : List (List AV) → Int) (bL : List (List AV) → Bool) (bU : List (List AV) → Bool) (chL : List (List AV) → Int → List Int) (chE : List (List AV) → Int → Int) (botL : Int → Int → Int → List Int) : Sp
  | [.sl 2 f xs, .int .i64 m] => some (RdsP xs, .tup [.sl 1 false (iro (chL xs m)), .int .i64 (chE xs m)])
  | _ => none
set_option maxRecDepth 100000 in
def hcheck_T (vdE : List (List AV) → Int) (rL : List (List AV) → Int) (rU : List (List AV) → Int) (bL : List (List AV) → Bool) (bU : List (List AV) → Bool) (chL : List (List AV) → Int → List Int) (chE : List (List AV) → Int → Int) (botL : Int → Int → Int → List Int) (sz : Int → Int) : Prop :=
  ∀ (f : Bool) (xs : List (List AV)) (m : Int), RdsP xs → True → (-9223372036854775808 : Int) ≤ m ∧ m ≤ (9223372036854775807 : Int) → bif decide (m < (0 : Int)) then iro (chL xs m) =
  [] ∧ (1 : Int) = chE xs m ∧ True else bif decide ((1000 : Int) < m) then iro (chL xs m) = [] ∧ (1 : Int) = chE xs m ∧ True else RdsP xs ∧ bif decide ¬vdE xs = (0 : Int) then iro
  (chL xs m) = [] ∧ vdE xs = chE xs m ∧ True else RdsP xs ∧ ((-1000000000000000 : Int) ≤ rL xs ∧ rL xs ≤ (1000000000000000 : Int)) ∧ bif decide (rng IntKind.i64 ((20000 : Int) * m))
  then ((-1000000000000000 : Int) ≤ rU xs ∧ rU xs ≤ (1000000000000000 : Int)) ∧ bif decide (rng IntKind.i64 ((20000 : Int) * m)) then bif decide ((20000 : Int) * m < sz (rL xs)) then
  bif decide ((20000 : Int) * m < sz (rU xs)) then (((-10000000000 : Int) ≤ rL xs ∧ rL xs ≤ (10000000000 : Int)) ∧ ((-10000000000 : Int) ≤ rU xs ∧ rU xs ≤ (10000000000 : Int)) ∧ (0 :
  Int) ≤ m ∧ m ≤ (1000 : Int)) ∧ (True ∧ iro (botL (rL xs) (rU xs) m) = iro (chL xs m)) ∧ (0 : Int) = chE xs m ∧ True else bif decide ((20000 : Int) * m < sz (rL xs)) then bif bU xs
  then (True ∧ [[AV.int IntKind.i64 (6 : Int)], [AV.int IntKind.i64 (7 : Int)]] = iro (chL xs m)) ∧ (0 : Int) = chE xs m ∧ True else bif decide ((20000 : Int) * m < sz (rL xs)) then
  (True ∧ [[AV.int IntKind.i64 (6 : Int)], [AV.int IntKind.i64 (7 : Int)], [AV.int IntKind.i64 (8 : Int)], [AV.int IntKind.i64 (9 : Int)]] = iro (chL xs m)) ∧ (0 : Int) = chE xs m ∧
  True else bif decide ((20000 : Int) * m < sz (rU xs)) then bif bL xs then (True ∧ [[AV.int IntKind.i64 (10 : Int)], [AV.int IntKind.i64 (11 : Int)]] = iro (chL xs m)) ∧ (0 : Int) =
  chE xs m ∧ True else bif decide ((20000 : Int) * m < sz (rU xs)) then (True ∧ [[AV.int IntKind.i64 (8 : Int)], [AV.int IntKind.i64 (9 : Int)], [AV.int IntKind.i64 (10 : Int)],
  [AV.int IntKind.i64 (11 : Int)]] = iro (chL xs m)) ∧ (0 : Int) = chE xs m ∧ True else iro (chL xs m) = [] ∧ (0 : Int) = chE xs m ∧ True else bif decide ((20000 : Int) * m < sz (rU
  xs)) then (True ∧ [[AV.int IntKind.i64 (8 : Int)], [AV.int IntKind.i64 (9 : Int)], [AV.int IntKind.i64 (10 : Int)], [AV.int IntKind.i64 (11 : Int)]] = iro (chL xs m)) ∧ (0 : Int) =
  chE xs m ∧ True else iro (chL xs m) = [] ∧ (0 : Int) = chE xs m ∧ True else bif decide ((20000 : Int) * m < sz (rL xs)) then (True ∧ [[AV.int IntKind.i64 (6 : Int)], [AV.int
  IntKind.i64 (7 : Int)], [AV.int IntKind.i64 (8 : Int)], [AV.int IntKind.i64 (9 : Int)]] = iro (chL xs m)) ∧ (0 : Int) = chE xs m ∧ True else bif decide ((20000 : Int) * m < sz (rU
  xs)) then bif bL xs then (True ∧ [[AV.int IntKind.i64 (10 : Int)], [AV.int IntKind.i64 (11 : Int)]] = iro (chL xs m)) ∧ (0 : Int) = chE xs m ∧ True else bif decide ((20000 : Int) *
  m < sz (rU xs)) then (True ∧ [[AV.int IntKind.i64 (8 : Int)], [AV.int IntKind.i64 (9 : Int)], [AV.int IntKind.i64 (10 : Int)], [AV.int IntKind.i64 (11 : Int)]] = iro (chL xs m)) ∧
  (0 : Int) = chE xs m ∧ True else iro (chL xs m) = [] ∧ (0 : Int) = chE xs m ∧ True else bif decide ((20000 : Int) * m < sz (rU xs)) then (True ∧ [[AV.int IntKind.i64 (8 : Int)],
  [AV.int IntKind.i64 (9 : Int)], [AV.int IntKind.i64 (10 : Int)], [AV.int IntKind.i64 (11 : Int)]] = iro (chL xs m)) ∧ (0 : Int) = chE xs m ∧ True else iro (chL xs m) = [] ∧ (0 :
  Int) = chE xs m ∧ True else bif decide ((20000 : Int) * m < sz (rL xs)) then bif bU xs then (True ∧ [[AV.int IntKind.i64 (6 : Int)], [AV.int IntKind.i64 (7 : Int)]] = iro (chL xs
  m)) ∧ (0 : Int) = chE xs m ∧ True else bif decide ((20000 : Int) * m < sz (rL xs)) then (True ∧ [[AV.int IntKind.i64 (6 : Int)], [AV.int IntKind.i64 (7 : Int)], [AV.int IntKind.i64
  (8 : Int)], [AV.int IntKind.i64 (9 : Int)]] = iro (chL xs m)) ∧ (0 : Int) = chE xs m ∧ True else bif decide ((20000 : Int) * m < sz (rU xs)) then bif bL xs then (True ∧ [[AV.int
  IntKind.i64 (10 : Int)], [AV.int IntKind.i64 (11 : Int)]] = iro (chL xs m)) ∧ (0 : Int) = chE xs m ∧ True else bif decide ((20000 : Int) * m < sz (rU xs)) then (True ∧ [[AV.int
  IntKind.i64 (8 : Int)], [AV.int IntKind.i64 (9 : Int)], [AV.int IntKind.i64 (10 : Int)], [AV.int IntKind.i64 (11 : Int)]] = iro (chL xs m)) ∧ (0 : Int) = chE xs m ∧ True else iro
  (chL xs m) = [] ∧ (0 : Int) = chE xs m ∧ True else bif decide ((20000 : Int) * m < sz (rU xs)) then (True ∧ [[AV.int IntKind.i64 (8 : Int)], [AV.int IntKind.i64 (9 : Int)], [AV.int
  IntKind.i64 (10 : Int)], [AV.int IntKind.i64 (11 : Int)]] = iro (chL xs m)) ∧ (0 : Int) = chE xs m ∧ True else iro (chL xs m) = [] ∧ (0 : Int) = chE xs m ∧ True else bif decide
  ((20000 : Int) * m < sz (rL xs)) then (True ∧ [[AV.int IntKind.i64 (6 : Int)], [AV.int IntKind.i64 (7 : Int)], [AV.int IntKind.i64 (8 : Int)], [AV.int IntKind.i64 (9 : Int)]] = iro
  (chL xs m)) ∧ (0 : Int) = chE xs m ∧ True else bif decide ((20000 : Int) * m < sz (rU xs)) then bif bL xs then (True ∧ [[AV.int IntKind.i64 (10 : Int)], [AV.int IntKind.i64 (11 :
  Int)]] = iro (chL xs m)) ∧ (0 : Int) = chE xs m ∧ True else bif decide ((20000 : Int) * m < sz (rU xs)) then (True ∧ [[AV.int IntKind.i64 (8 : Int)], [AV.int IntKind.i64 (9 :
  Int)], [AV.int IntKind.i64 (10 : Int)], [AV.int IntKind.i64 (11 : Int)]] = iro (chL xs m)) ∧ (0 : Int) = chE xs m ∧ True else iro (chL xs m) = [] ∧ (0 : Int) = chE xs m ∧ True else
  bif decide ((20000 : Int) * m < sz (rU xs)) then (True ∧ [[AV.int IntKind.i64 (8 : Int)], [AV.int IntKind.i64 (9 : Int)], [AV.int IntKind.i64 (10 : Int)], [AV.int IntKind.i64 (11 :
  Int)]] = iro (chL xs m)) ∧ (0 : Int) = chE xs m ∧ True else iro (chL xs m) = [] ∧ (0 : Int) = chE xs m ∧ True else False else False
set_option maxRecDepth 100000 in
theorem hcheck_P : hcheck_T vdE rL rU bL bU chL chE botL sz := by
  unfold hcheck_T
  intro f xs m hr _ hm
  have he : chE xs m ≠ 0 → chL xs m = [] := fun h => by unfold chL; rw [if_neg h]
  refine cs (fun q => ?_) (fun q1 => cs (fun q => ?_) (fun q2 => ⟨hr, cs (fun q => ?_) (fun q3 => ?_)⟩))
  · have e : chE xs m = 1 := by unfold chE; rw [if_pos (.inl q)]
    rw [he (by rw [e]; decide), e]; exact ⟨rfl, rfl, trivial⟩
  · have e : chE xs m = 1 := by unfold chE; rw [if_pos (.inr q)]
    rw [he (by rw [e]; decide), e]; exact ⟨rfl, rfl, trivial⟩
  · have e : chE xs m = vdE xs := by unfold chE; rw [if_neg (by omega)]
    rw [he (by rw [e]; exact q), e]; exact ⟨rfl, rfl, trivial⟩
  have q3 := Decidable.not_not.1 q3
  have e : chE xs m = 0 := by unfold chE; rw [if_neg (by omega), q3]
  have e2 : chL xs m = chR (rL xs) (bL xs) (rU xs) (bU xs) m := by unfold chL; rw [if_pos e]
  rw [e, e2]
  have h1 : -6000000000 ≤ rL xs ∧ rL xs ≤ 6000000000 := rs_bd (by decide)
  have h2 : -6000000000 ≤ rU xs ∧ rU xs ≤ 6000000000 := rs_bd (by decide)
  generalize rL xs = a at *
  generalize rU xs = b at *
  generalize bL xs = la at *
  generalize bU xs = lb at *
  refine ⟨hr, by omega, cdI (by omega) ⟨by omega, cdI (by omega) ?_⟩⟩
  unfold chR wrg
  generalize decide (20000 * m < sz a) = A
  generalize decide (20000 * m < sz b) = B
  have hb : ((-10000000000 ≤ a ∧ a ≤ 10000000000) ∧ (-10000000000 ≤ b ∧ b ≤ 10000000000) ∧ 0 ≤ m ∧ m ≤ 1000) := by omega
  cases A <;> cases B <;> cases la <;> cases lb <;> (first | exact ⟨rfl, rfl, trivial⟩ | exact ⟨⟨trivial, rfl⟩, rfl, trivial⟩ | exact ⟨hb, ⟨trivial, rfl⟩, rfl, trivial⟩)
def hcheck_S (vdE : List (List AV) → Int) (rL : List (List AV) → Int) (rU : List (List AV) → Int) (bL : List (List AV) → Bool) (bU : List (List AV) → Bool) (chL : List (List AV) → Int → List Int) (chE : List (List AV) → Int → Int) (botL : Int → Int → Int → List Int) (sz : Int → Int) : Prop := ∀ (f : Bool) (xs : List (List AV)) (m : Int), RdsP xs → fnK Tryd.prog { glob := glb, spec := lk [(15, (hresids_s rL rU bL bU)), (20, (hboth_s botL)), (19, (hsize_s sz)), (18, (evalid_s vdE))], specH := lk [], nowf := true } { nt := 68, drop := drp [(1, 253952), (3, 1572864), (4, 2097152), (5, 8388608), (6, 2130706432), (7, 2196875771904), (8, 65970697666560), (9, 1055531162664960), (10, 33776997205278720), (11, 36028797018963968), (12, 144115188075855872), (13, 288230376151711744), (14, 17293822569102704640), (15, 18446744073709551616), (16, 73786976294838206464), (17, 147573952589676412928)] } (fun _ _ => none) 6 Tryd.f9 [.sl 2 f xs, .int .i64 m] (.tup [.sl 1 false (iro (chL xs m)), .int .i64 (chE xs m)])
set_option maxRecDepth 100000 in
theorem hcheck_e (vdE : List (List AV) → Int) (rL : List (List AV) → Int) (rU : List (List AV) → Int) (bL : List (List AV) → Bool) (bU : List (List AV) → Bool) (chL : List (List AV) → Int → List Int) (chE : List (List AV) → Int → Int) (botL : Int → Int → Int → List Int) (sz : Int → Int) : hcheck_T vdE rL rU bL bU chL chE botL sz = hcheck_S vdE rL rU bL bU chL chE botL sz := by kernel_rfl
theorem hcheck_v : hcheck_S vdE rL rU bL bU chL chE botL sz := @Eq.mp (hcheck_T vdE rL rU bL bU chL chE botL sz) (hcheck_S vdE rL rU bL bU chL chE botL sz) (hcheck_e vdE rL rU bL bU chL chE botL sz) hcheck_P
theorem hcheck_ok : SOK Tryd.prog glb 9 (hcheck_s vdE rL rU bL bU chL chE botL) := by
  refine ⟨fok Tryd.func9 (by kernel_rfl) (by kernel_rfl), ?_⟩
  intro xs pre r h hp
  unfold hcheck_s at h
  split at h
  · simp only [Option.some.injEq, Prod.mk.injEq] at h
    obtain ⟨h1, h2⟩ := h
    subst h1 h2
    exact fnK_sound tyNil (by exact specOK rfl rfl ⟨hresids_ok glb, hboth_ok glb, hsize_ok glb, evalid_ok, trivial⟩ trivial) (by kernel_rfl) Tryd.func9 rfl (hcheck_v  _ _ _ hp)
  · cases h
end Go.Proofs.YtboknhifjhjkdaaDoor
