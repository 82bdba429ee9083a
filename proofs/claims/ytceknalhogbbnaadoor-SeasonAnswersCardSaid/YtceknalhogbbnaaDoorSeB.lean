/- Climates: looking up, and the reference. -/
import Derived.Test.YtceknalhogbbnaaDoorSeA
namespace Go.Proofs.YtceknalhogbbnaaDoor
open Go
set_option linter.unusedVariables false
set_option linter.unusedSimpArgs false

def mtP (e f m : Int) (r : List AV) : Bool := decide (nC 0 r = e ∧ nC 1 r = f ∧ nC 2 r = m)
def lkE (xs : List (List AV)) (e f a b c t : Int) : Int := if cvE xs = 0 then (if vld f a b c && inB t then (if xs.any (mtP e (nrm f a b c).1 (dtM t)) then 0 else 9) else 1) else cvE xs
def lkN (xs : List (List AV)) (e f a b c t : Int) (k : Nat) : Int := if lkE xs e f a b c t = 0 then nC k (xs.getD (xs.findIdx (mtP e (nrm f a b c).1 (dtM t))) []) else 0
theorem lk_bad {xs : List (List AV)} {e f a b c t z : Int} (h : lkE xs e f a b c t = z) (hz : ¬ z = 0) : (0 = lkN xs e f a b c t 0 ∧ 0 = lkN xs e f a b c t 1 ∧ 0 = lkN xs e f a b c t 2 ∧ 0 = lkN xs e f a b c t 3 ∧ 0 = lkN xs e f a b c t 4 ∧ True) ∧ z = lkE xs e f a b c t ∧ True := by
  unfold lkN
  rw [h]
  simp only [if_neg hz]
  exact ⟨⟨trivial, trivial, trivial, trivial, trivial, trivial⟩, trivial, trivial⟩
theorem ord_lt {xs : List (List AV)} (h : ordN xs = true) : ∀ i j : Nat, i < j → j < xs.length → cmpR (xs.getD i []) (xs.getD j []) < 0 := by
  have h := of_decide_eq_true h
  intro i j
  induction j with
  | zero => intro h1; omega
  | succ j ih =>
    intro h1 h2
    have hj := (h (j + 1) h2).resolve_left (by omega)
    rw [Nat.add_sub_cancel] at hj
    by_cases e : i = j
    · rw [e]; exact hj
    · have h3 := ih (by omega) (by omega)
      unfold cmpR at *
      rw [cmp3_neg] at *
      omega
theorem cmpR_mt {x : List AV} {e f m : Int} : cmpR x [.int .i64 e, .int .i64 f, .int .i64 m] = 0 ↔ mtP e f m x = true := by
  unfold mtP
  rw [decide_eq_true_eq]
  exact cmp3_zero _ _ _ _ _ _
theorem bs_of {xs : List (List AV)} (hp : NrsP xs) (hl : xs.length ≤ 1000000) (ho : ordN xs = true) (e f m : Int) : BsP xs [.int .i64 e, .int .i64 f, .int .i64 m] := by
  refine ⟨hp, hl, fun i j hij hj hc => ?_⟩
  by_cases h : i = j
  · rw [h]; exact hc
  · have h3 := ord_lt ho i j (by omega) hj
    unfold cmpR at *
    rw [cmp3_neg] at *
    omega
theorem lb_mt {xs : List (List AV)} (ho : ordN xs = true) (e f m : Int) : fdN [.int .i64 e, .int .i64 f, .int .i64 m] xs = xs.any (mtP e f m) ∧ (xs.any (mtP e f m) = true → lbN [.int .i64 e, .int .i64 f, .int .i64 m] xs = xs.findIdx (mtP e f m) ∧ lbN [.int .i64 e, .int .i64 f, .int .i64 m] xs < xs.length) := by
  have key : xs.any (mtP e f m) = true → lbN [.int .i64 e, .int .i64 f, .int .i64 m] xs = xs.findIdx (mtP e f m) ∧ lbN [.int .i64 e, .int .i64 f, .int .i64 m] xs < xs.length ∧ cmpR (xs.getD (lbN [.int .i64 e, .int .i64 f, .int .i64 m] xs) []) [.int .i64 e, .int .i64 f, .int .i64 m] = 0 := by
    intro h
    obtain ⟨x, hx, hm⟩ := List.any_eq_true.1 h
    obtain ⟨k, hk, rfl⟩ := List.mem_iff_getElem.1 hx
    have h0 := cmpR_mt.2 hm
    have before : ∀ j, j < k → cmpR (xs.getD j []) [.int .i64 e, .int .i64 f, .int .i64 m] < 0 := by
      intro j hj
      have h3 := ord_lt ho j k hj hk
      rw [gD2 hk] at h3
      unfold cmpR at *
      rw [cmp3_neg] at *
      rw [cmp3_zero] at h0
      omega
    have e1 : lbN [.int .i64 e, .int .i64 f, .int .i64 m] xs = k := by
      refine (List.findIdx_eq hk).2 ⟨by simp [h0], fun j hj => ?_⟩
      have := before j hj
      rw [gD2 (by omega)] at this
      simp [this]
    have e2 : xs.findIdx (mtP e f m) = k := by
      refine (List.findIdx_eq hk).2 ⟨hm, fun j hj => ?_⟩
      have := before j hj
      rw [gD2 (by omega)] at this
      cases hc : mtP e f m xs[j] with
      | false => rfl
      | true => rw [cmpR_mt.2 hc] at this; omega
    rw [e1, e2]
    exact ⟨rfl, hk, by rw [gD2 hk]; exact h0⟩
  refine ⟨?_, fun h => ⟨(key h).1, (key h).2.1⟩⟩
  cases h : xs.any (mtP e f m) with
  | true => exact decide_eq_true ⟨(key h).2.1, (key h).2.2⟩
  | false =>
    refine decide_eq_false fun q => ?_
    rw [gD2 q.1] at q
    have := List.any_eq_true.2 ⟨_, List.getElem_mem q.1, cmpR_mt.1 q.2⟩
    rw [h] at this; cases this
theorem cv_zero {xs : List (List AV)} (h : cvE xs = 0) : xs.length ≤ 200 ∧ xs.any kdP = false ∧ xs.any rgP = false ∧ ordN xs = true := by
  unfold cvE at h
  split at h
  · omega
  · split at h
    · omega
    · split at h
      · omega
      · split at h
        · rename_i h1 h2 h3 h4
          exact ⟨by omega, by simpa using h2, by simpa using h3, h4⟩
        · omega
/-- A row of a list of normals as its five numbers. -/
theorem nr_row {xs : List (List AV)} (hp : NrsP xs) {i : Nat} (h : i < xs.length) : xs.getD i [] = [.int .i64 (nC 0 (xs.getD i [])), .int .i64 (nC 1 (xs.getD i [])), .int .i64 (nC 2 (xs.getD i [])), .int .i64 (nC 3 (xs.getD i [])), .int .i64 (nC 4 (xs.getD i []))] := by
  obtain ⟨e, f, m, a, s, he, _⟩ := hp.fr i h
  rw [he]; rfl
theorem nr_take {xs : List (List AV)} (hp : NrsP xs) {i : Nat} (h : i < xs.length) : List.take 5 (xs.getD i []) = [.int .i64 (nC 0 (xs.getD i [])), .int .i64 (nC 1 (xs.getD i [])), .int .i64 (nC 2 (xs.getD i [])), .int .i64 (nC 3 (xs.getD i [])), .int .i64 (nC 4 (xs.getD i []))] := by
  obtain ⟨e, f, m, a, s, he, _⟩ := hp.fr i h
  rw [he]; rfl
def cLook_s (cvE : List (List AV) → Int) (lbN : List AV → List (List AV) → Nat) (fdN : List AV → List (List AV) → Bool) (nrm : Int → Int → Int → Int → Int × Int × Int × Int) (vld : Int → Int → Int → Int → Bool) (inB : Int → Bool) (dtY : Int → Int) (dtM : Int → Int) (dtD : Int → Int) (dtH : Int → Int) (dtI : Int → Int) : Sp
  | [.agg [.sl 5 g xs], .int .i64 e, .agg [.int .i64 f, .int .i64 a, .int .i64 b, .int .i64 c], .int .i64 t] => some (NrsP xs, .tup [.agg [.int .i64 (lkN xs e f a b c t 0), .int .i64 (lkN xs e f a b c t 1), .int .i64 (lkN xs e f a b c t 2), .int .i64 (lkN xs e f a b c t 3), .int .i64 (lkN xs e f a b c t 4)], .int .i64 (lkE xs e f a b c t)])
  | _ => none
set_option maxRecDepth 100000 in
def cLook_T (cvE : List (List AV) → Int) (lbN : List AV → List (List AV) → Nat) (fdN : List AV → List (List AV) → Bool) (nrm : Int → Int → Int → Int → Int × Int × Int × Int) (vld : Int → Int → Int → Int → Bool) (inB : Int → Bool) (dtY : Int → Int) (dtM : Int → Int) (dtD : Int → Int) (dtH : Int → Int) (dtI : Int → Int) : Prop :=
  ∀ (g : Bool) (xs : List (List AV)) (e f a b c t : Int), NrsP xs → True ∧ True → (-9223372036854775808 : Int) ≤ e ∧ e ≤ (9223372036854775807 : Int) → ((-9223372036854775808 : Int) ≤
  f ∧ f ≤ (9223372036854775807 : Int)) ∧ ((-9223372036854775808 : Int) ≤ a ∧ a ≤ (9223372036854775807 : Int)) ∧ ((-9223372036854775808 : Int) ≤ b ∧ b ≤ (9223372036854775807 : Int)) ∧
  ((-9223372036854775808 : Int) ≤ c ∧ c ≤ (9223372036854775807 : Int)) ∧ True → (-9223372036854775808 : Int) ≤ t ∧ t ≤ (9223372036854775807 : Int) → NrsP xs ∧ bif decide
  ¬YtceknalhogbbnaaDoor.cvE xs = (0 : Int) then ((0 : Int) = lkN xs e f a b c t (0 : Nat) ∧ (0 : Int) = lkN xs e f a b c t (1 : Nat) ∧ (0 : Int) = lkN xs e f a b c t (2 : Nat) ∧ (0 :
  Int) = lkN xs e f a b c t (3 : Nat) ∧ (0 : Int) = lkN xs e f a b c t (4 : Nat) ∧ True) ∧ YtceknalhogbbnaaDoor.cvE xs = lkE xs e f a b c t ∧ True else True ∧ True ∧ bif decide ¬err
  (YtceknalhogbbnaaDoor.vld f a b c) = (0 : Int) then ((0 : Int) = lkN xs e f a b c t (0 : Nat) ∧ (0 : Int) = lkN xs e f a b c t (1 : Nat) ∧ (0 : Int) = lkN xs e f a b c t (2 : Nat)
  ∧ (0 : Int) = lkN xs e f a b c t (3 : Nat) ∧ (0 : Int) = lkN xs e f a b c t (4 : Nat) ∧ True) ∧ (1 : Int) = lkE xs e f a b c t ∧ True else bif decide ¬(if YtceknalhogbbnaaDoor.inB
  t = true then (0 : Int) else (1 : Int)) = (0 : Int) then ((0 : Int) = lkN xs e f a b c t (0 : Nat) ∧ (0 : Int) = lkN xs e f a b c t (1 : Nat) ∧ (0 : Int) = lkN xs e f a b c t (2 :
  Nat) ∧ (0 : Int) = lkN xs e f a b c t (3 : Nat) ∧ (0 : Int) = lkN xs e f a b c t (4 : Nat) ∧ True) ∧ (1 : Int) = lkE xs e f a b c t ∧ True else BsP xs [AV.int IntKind.i64 e, AV.int
  IntKind.i64 (YtceknalhogbbnaaDoor.nrm f a b c).fst, AV.int IntKind.i64 (if YtceknalhogbbnaaDoor.inB t = true then YtceknalhogbbnaaDoor.dtM t else (0 : Int))] ∧ bif
  !YtceknalhogbbnaaDoor.fdN [AV.int IntKind.i64 e, AV.int IntKind.i64 (YtceknalhogbbnaaDoor.nrm f a b c).fst, AV.int IntKind.i64 (if YtceknalhogbbnaaDoor.inB t = true then
  YtceknalhogbbnaaDoor.dtM t else (0 : Int))] xs then ((0 : Int) = lkN xs e f a b c t (0 : Nat) ∧ (0 : Int) = lkN xs e f a b c t (1 : Nat) ∧ (0 : Int) = lkN xs e f a b c t (2 : Nat)
  ∧ (0 : Int) = lkN xs e f a b c t (3 : Nat) ∧ (0 : Int) = lkN xs e f a b c t (4 : Nat) ∧ True) ∧ (9 : Int) = lkE xs e f a b c t ∧ True else bif decide ((0 : Int) ≤
  (↑(YtceknalhogbbnaaDoor.lbN [AV.int IntKind.i64 e, AV.int IntKind.i64 (YtceknalhogbbnaaDoor.nrm f a b c).fst, AV.int IntKind.i64 (if YtceknalhogbbnaaDoor.inB t = true then
  YtceknalhogbbnaaDoor.dtM t else (0 : Int))] xs) : Int) ∧ (↑(YtceknalhogbbnaaDoor.lbN [AV.int IntKind.i64 e, AV.int IntKind.i64 (YtceknalhogbbnaaDoor.nrm f a b c).fst, AV.int
  IntKind.i64 (if YtceknalhogbbnaaDoor.inB t = true then YtceknalhogbbnaaDoor.dtM t else (0 : Int))] xs) : Int) < (↑xs.length : Int)) then ∃ n n_1 n_2 n_3 n_4, List.take [AV.int
  IntKind.i64 n, AV.int IntKind.i64 n_1, AV.int IntKind.i64 n_2, AV.int IntKind.i64 n_3, AV.int IntKind.i64 n_4].length (xs.getD (↑(YtceknalhogbbnaaDoor.lbN [AV.int IntKind.i64 e,
  AV.int IntKind.i64 (YtceknalhogbbnaaDoor.nrm f a b c).fst, AV.int IntKind.i64 (if YtceknalhogbbnaaDoor.inB t = true then YtceknalhogbbnaaDoor.dtM t else (0 : Int))] xs) :
  Int).toNat []) = [AV.int IntKind.i64 n, AV.int IntKind.i64 n_1, AV.int IntKind.i64 n_2, AV.int IntKind.i64 n_3, AV.int IntKind.i64 n_4] ∧ (n = lkN xs e f a b c t (0 : Nat) ∧ n_1 =
  lkN xs e f a b c t (1 : Nat) ∧ n_2 = lkN xs e f a b c t (2 : Nat) ∧ n_3 = lkN xs e f a b c t (3 : Nat) ∧ n_4 = lkN xs e f a b c t (4 : Nat) ∧ True) ∧ (0 : Int) = lkE xs e f a b c t
  ∧ True else False
set_option maxRecDepth 100000 in
theorem cLook_P : cLook_T cvE lbN fdN nrm vld inB dtY dtM dtD dtH dtI := by
  unfold cLook_T
  intro g xs e f a b c t hp _ _ _ _
  refine ⟨hp, cs (fun h => lk_bad (by unfold lkE; rw [if_neg h]) h) (fun h => ⟨trivial, trivial, ?_⟩)⟩
  have h0 : cvE xs = 0 := Decidable.not_not.1 h
  obtain ⟨z1, z2, z3, z4⟩ := cv_zero h0
  cases hv : vld f a b c with
  | false =>
    refine cs (fun _ => lk_bad (by unfold lkE; rw [if_pos h0, hv]; rfl) (by decide)) (fun k => absurd (by unfold err; simp) k)
  | true =>
    cases hi : inB t with
    | false =>
      refine cs (fun k => absurd (by unfold err; simp) k) (fun _ => cs (fun _ => lk_bad (by unfold lkE; rw [if_pos h0, hv, hi]; rfl) (by decide)) (fun k => absurd (by simp) k))
    | true =>
      refine cs (fun k => absurd (by unfold err; simp) k) (fun _ => cs (fun k => absurd (by simp) k) (fun _ => ?_))
      rw [if_pos rfl]
      obtain ⟨l1, l2⟩ := lb_mt z4 e (nrm f a b c).1 (dtM t)
      refine ⟨bs_of hp (by omega) z4 _ _ _, ?_⟩
      rw [l1]
      have hE : lkE xs e f a b c t = if xs.any (mtP e (nrm f a b c).1 (dtM t)) then 0 else 9 := by
        unfold lkE; rw [if_pos h0, hv, hi]; rfl
      cases hany : xs.any (mtP e (nrm f a b c).1 (dtM t)) with
      | false => exact lk_bad (by rw [hE, hany]; rfl) (by decide)
      | true =>
        obtain ⟨k1, k2⟩ := l2 hany
        rw [hany] at hE
        simp only [Bool.not_true, cond_false, Int.toNat_natCast]
        refine cd1 (by omega) ⟨_, _, _, _, _, nr_take hp k2, ?_⟩
        unfold lkN
        rw [hE, k1]
        simp only [if_true]
        exact ⟨⟨trivial, trivial, trivial, trivial, trivial, trivial⟩, trivial, trivial⟩
def cLook_S (cvE : List (List AV) → Int) (lbN : List AV → List (List AV) → Nat) (fdN : List AV → List (List AV) → Bool) (nrm : Int → Int → Int → Int → Int × Int × Int × Int) (vld : Int → Int → Int → Int → Bool) (inB : Int → Bool) (dtY : Int → Int) (dtM : Int → Int) (dtD : Int → Int) (dtH : Int → Int) (dtI : Int → Int) : Prop := ∀ (g : Bool) (xs : List (List AV)) (e f a b c t : Int), NrsP xs → fnK Tryd.prog { glob := glb, spec := lk [(50, (cValid_s Go.Proofs.YtceknalhogbbnaaDoor.kdP Go.Proofs.YtceknalhogbbnaaDoor.rgP Go.Proofs.YtceknalhogbbnaaDoor.cmp3)), (53, (normal_s Go.Proofs.YtceknalhogbbnaaDoor.vld Go.Proofs.YtceknalhogbbnaaDoor.nrm)), (54, (cDate_s Go.Proofs.YtceknalhogbbnaaDoor.inB Go.Proofs.YtceknalhogbbnaaDoor.dtY Go.Proofs.YtceknalhogbbnaaDoor.dtM Go.Proofs.YtceknalhogbbnaaDoor.dtD Go.Proofs.YtceknalhogbbnaaDoor.dtH Go.Proofs.YtceknalhogbbnaaDoor.dtI Go.Proofs.YtceknalhogbbnaaDoor.dtR Go.Proofs.YtceknalhogbbnaaDoor.cumI)), (55, (cbs_s Go.Proofs.YtceknalhogbbnaaDoor.cmp3 Go.Proofs.YtceknalhogbbnaaDoor.lbN Go.Proofs.YtceknalhogbbnaaDoor.fdN))], specH := lk [], shape := [59], nowf := true } { nt := 60, drop := drp [(1, 393216), (2, 524288), (3, 6291456), (4, 260046848), (5, 8321499136), (6, 266287972352), (7, 549755813888), (8, 4502500115742720), (9, 4503599627370496), (10, 18014398509481984), (11, 1116892707587883008)] } (fun _ _ => none) 6 Tryd.f40 [.agg [.sl 5 g xs], .int .i64 e, .agg [.int .i64 f, .int .i64 a, .int .i64 b, .int .i64 c], .int .i64 t] (.tup [.agg [.int .i64 (lkN xs e f a b c t 0), .int .i64 (lkN xs e f a b c t 1), .int .i64 (lkN xs e f a b c t 2), .int .i64 (lkN xs e f a b c t 3), .int .i64 (lkN xs e f a b c t 4)], .int .i64 (lkE xs e f a b c t)])
set_option maxRecDepth 100000 in
theorem cLook_e (cvE : List (List AV) → Int) (lbN : List AV → List (List AV) → Nat) (fdN : List AV → List (List AV) → Bool) (nrm : Int → Int → Int → Int → Int × Int × Int × Int) (vld : Int → Int → Int → Int → Bool) (inB : Int → Bool) (dtY : Int → Int) (dtM : Int → Int) (dtD : Int → Int) (dtH : Int → Int) (dtI : Int → Int) : cLook_T cvE lbN fdN nrm vld inB dtY dtM dtD dtH dtI = cLook_S cvE lbN fdN nrm vld inB dtY dtM dtD dtH dtI := by kernel_rfl
theorem cLook_v : cLook_S cvE lbN fdN nrm vld inB dtY dtM dtD dtH dtI := @Eq.mp (cLook_T cvE lbN fdN nrm vld inB dtY dtM dtD dtH dtI) (cLook_S cvE lbN fdN nrm vld inB dtY dtM dtD dtH dtI) (cLook_e cvE lbN fdN nrm vld inB dtY dtM dtD dtH dtI) cLook_P
theorem cLook_ok : SOK Tryd.prog glb 40 (cLook_s cvE lbN fdN nrm vld inB dtY dtM dtD dtH dtI) := by
  refine ⟨fok Tryd.func40 (by kernel_rfl) (by kernel_rfl), ?_⟩
  intro xs pre r h hp
  unfold cLook_s at h
  split at h
  · simp only [Option.some.injEq, Prod.mk.injEq] at h
    obtain ⟨h1, h2⟩ := h
    subst h1 h2
    exact fnK_sound tyNil (by exact specOK rfl rfl ⟨(cValid_ok), (normal_ok), (cDate_ok glb), (cbs_ok glb), trivial⟩ trivial) (by kernel_rfl) Tryd.func40 rfl (cLook_v  _ _ _ _ _ _ _ _ hp)
  · cases h
def rless_s (cmp3 : Int → Int → Int → Int → Int → Int → Int) : Sp
  | [.agg [.int .i64 e, .int .i64 f, .int .i64 m, .int .i64 a, .int .i64 s], .agg [.int .i64 e', .int .i64 f', .int .i64 m', .int .i64 a', .int .i64 s']] => some (True, .bool (decide (cmp3 e f m e' f' m' < 0)))
  | _ => none
set_option maxRecDepth 100000 in
def rless_T (cmp3 : Int → Int → Int → Int → Int → Int → Int) : Prop :=
  ∀ (gl : Glob) (e f m a s e' f' m' a' s' : Int), ((-9223372036854775808 : Int) ≤ e ∧ e ≤ (9223372036854775807 : Int)) ∧ ((-9223372036854775808 : Int) ≤ f ∧ f ≤ (9223372036854775807
  : Int)) ∧ ((-9223372036854775808 : Int) ≤ m ∧ m ≤ (9223372036854775807 : Int)) ∧ ((-9223372036854775808 : Int) ≤ a ∧ a ≤ (9223372036854775807 : Int)) ∧ ((-9223372036854775808 :
  Int) ≤ s ∧ s ≤ (9223372036854775807 : Int)) ∧ True → ((-9223372036854775808 : Int) ≤ e' ∧ e' ≤ (9223372036854775807 : Int)) ∧ ((-9223372036854775808 : Int) ≤ f' ∧ f' ≤
  (9223372036854775807 : Int)) ∧ ((-9223372036854775808 : Int) ≤ m' ∧ m' ≤ (9223372036854775807 : Int)) ∧ ((-9223372036854775808 : Int) ≤ a' ∧ a' ≤ (9223372036854775807 : Int)) ∧
  ((-9223372036854775808 : Int) ≤ s' ∧ s' ≤ (9223372036854775807 : Int)) ∧ True → bif decide ¬e = e' then decide (e < e') = decide (cmp3 e f m e' f' m' < (0 : Int)) else bif decide
  ¬f = f' then decide (f < f') = decide (cmp3 e f m e' f' m' < (0 : Int)) else decide (m < m') = decide (cmp3 e f m e' f' m' < (0 : Int))
set_option maxRecDepth 100000 in
theorem rless_P : rless_T cmp3 := by
  unfold rless_T
  intro gl e f m a s e' f' m' a' s' _ _
  have q := cmp3_neg e f m e' f' m'
  refine cs (fun h => ?_) (fun h => cs (fun k => ?_) (fun k => ?_))
  · exact decide_eq_decide.2 ⟨fun z => q.2 (by omega), fun z => by have := q.1 z; omega⟩
  · exact decide_eq_decide.2 ⟨fun z => q.2 (by omega), fun z => by have := q.1 z; omega⟩
  · exact decide_eq_decide.2 ⟨fun z => q.2 (by omega), fun z => by have := q.1 z; omega⟩
def rless_S (cmp3 : Int → Int → Int → Int → Int → Int → Int) : Prop := ∀ (gl : Glob) (e f m a s e' f' m' a' s' : Int), fnK Tryd.prog { glob := gl, spec := lk [], specH := lk [], nowf := true } { nt := 30, drop := drp [(1, 480), (2, 31744), (3, 491520), (4, 32505856), (5, 1040187392)] } (fun _ _ => none) 6 Tryd.f46 [.agg [.int .i64 e, .int .i64 f, .int .i64 m, .int .i64 a, .int .i64 s], .agg [.int .i64 e', .int .i64 f', .int .i64 m', .int .i64 a', .int .i64 s']] (.bool (decide (cmp3 e f m e' f' m' < 0)))
set_option maxRecDepth 100000 in
theorem rless_e (cmp3 : Int → Int → Int → Int → Int → Int → Int) : rless_T cmp3 = rless_S cmp3 := by kernel_rfl
theorem rless_v : rless_S cmp3 := @Eq.mp (rless_T cmp3) (rless_S cmp3) (rless_e cmp3) rless_P
theorem rless_ok (gl : Glob) : SOK Tryd.prog gl 46 (rless_s cmp3) := by
  refine ⟨fok Tryd.func46 (by kernel_rfl) (by kernel_rfl), ?_⟩
  intro xs pre r h hp
  unfold rless_s at h
  split at h
  · simp only [Option.some.injEq, Prod.mk.injEq] at h
    obtain ⟨h1, h2⟩ := h
    subst h1 h2
    exact fnK_sound tyNil (by exact specOK rfl rfl trivial trivial) (by kernel_rfl) Tryd.func46 rfl (rless_v gl _ _ _ _ _ _ _ _ _ _)
  · cases h
theorem any_no {p : List AV → Bool} {xs : List (List AV)} (h : ∀ j, j < xs.length → p (xs.getD j []) = false) : xs.any p = false := by
  cases e : xs.any p with
  | false => rfl
  | true =>
    obtain ⟨x, hx, hm⟩ := List.any_eq_true.1 e
    obtain ⟨k, hk, rfl⟩ := List.mem_iff_getElem.1 hx
    have := h k hk
    rw [gD2 hk, hm] at this
    cases this
theorem any_yes {p : List AV → Bool} {xs : List (List AV)} {i : Nat} (hi : i < xs.length) (h : p (xs.getD i []) = true) : xs.any p = true := by
  rw [gD2 hi] at h
  exact List.any_eq_true.2 ⟨_, List.getElem_mem hi, h⟩
structure RcvP (p : List AV → Bool) (xs : List (List AV)) (i : Int) : Prop where
  flo : 0 ≤ i
  fhi : i ≤ xs.length
  fno : ∀ j : Nat, (j : Int) < i → p (xs.getD j []) = false
def rcv1 (f : Bool) (xs : List (List AV)) : LInv := ⟨Int, fun i => ⟨[(1, .ptr 1 0), (15, .sl 5 f xs), (16, .int .i64 xs.length), (17, .int .i64 i)], [(1, .cells [.sl 5 f xs])]⟩, RcvP kdP xs, fun i => (xs.length - i).toNat, none⟩
def rcv2 (f : Bool) (xs : List (List AV)) : LInv := ⟨Int, fun i => ⟨[(1, .ptr 1 0), (31, .sl 5 f xs), (32, .int .i64 xs.length), (33, .int .i64 i)], [(1, .cells [.sl 5 f xs])]⟩, RcvP rgP xs, fun i => (xs.length - i).toNat, none⟩
def rcv3 (f : Bool) (xs : List (List AV)) : LInv := ⟨Int, fun i => ⟨[(1, .ptr 1 0), (9, .int .i64 i)], [(1, .cells [.sl 5 f xs])]⟩, CvI xs, fun i => (xs.length + 1 - i).toNat, none⟩
def rcValid_s (cmp3 : Int → Int → Int → Int → Int → Int → Int) (iL : Int → ByteArray) (inLo : Int → Int) (inHi : Int → Int) (inD : Int → Int) (inE : Int → Int) : Sp
  | [.agg [.sl 5 f xs]] => some (NrsP xs, .int .i64 (cvE xs))
  | _ => none
set_option maxRecDepth 100000 in
def rcValid_T (cmp3 : Int → Int → Int → Int → Int → Int → Int) (iL : Int → ByteArray) (inLo : Int → Int) (inHi : Int → Int) (inD : Int → Int) (inE : Int → Int) : Prop :=
  ∀ (gl : Glob) (f : Bool) (xs : List (List AV)), NrsP xs → True ∧ True → bif decide ((200 : Int) < (↑xs.length : Int)) then (2 : Int) = cvE xs else (∃ x, RcvP kdP xs x ∧ ((0 : Nat)
  = (0 : Nat) ∧ ((bif f then f = true else True) ∧ xs = xs) ∧ (↑xs.length : Int) = (↑xs.length : Int) ∧ (0 : Int) = x ∧ True) ∧ (((bif f then f = true else True) ∧ xs = xs) ∧ True) ∧
  True) ∧ ∀ (x : Int), RcvP kdP xs x → bif decide (x < (↑xs.length : Int)) then bif decide ((0 : Int) ≤ x ∧ x < (↑xs.length : Int)) then ∃ n n_1 n_2 n_3 n_4, List.take [AV.int
  IntKind.i64 n, AV.int IntKind.i64 n_1, AV.int IntKind.i64 n_2, AV.int IntKind.i64 n_3, AV.int IntKind.i64 n_4].length (xs.getD x.toNat []) = [AV.int IntKind.i64 n, AV.int
  IntKind.i64 n_1, AV.int IntKind.i64 n_2, AV.int IntKind.i64 n_3, AV.int IntKind.i64 n_4] ∧ True ∧ bif decide ¬YtceknalhogbbnaaDoor.inE n = (0 : Int) then (4 : Int) = cvE xs else
  bif decide (rng IntKind.i64 (x + (1 : Int))) then ∃ y, RcvP kdP xs y ∧ (rcv1 f xs).m y < (rcv1 f xs).m x ∧ ((0 : Nat) = (0 : Nat) ∧ ((bif f then f = true else True) ∧ xs = xs) ∧
  (↑xs.length : Int) = (↑xs.length : Int) ∧ x + (1 : Int) = y ∧ True) ∧ (((bif f then f = true else True) ∧ xs = xs) ∧ True) ∧ True else False else False else (∃ x, RcvP rgP xs x ∧
  ((0 : Nat) = (0 : Nat) ∧ ((bif f then f = true else True) ∧ xs = xs) ∧ (↑xs.length : Int) = (↑xs.length : Int) ∧ (0 : Int) = x ∧ True) ∧ (((bif f then f = true else True) ∧ xs =
  xs) ∧ True) ∧ True) ∧ ∀ (x : Int), RcvP rgP xs x → bif decide (x < (↑xs.length : Int)) then bif decide ((0 : Int) ≤ x ∧ x < (↑xs.length : Int)) then ∃ n n_1 n_2 n_3 n_4, List.take
  [AV.int IntKind.i64 n, AV.int IntKind.i64 n_1, AV.int IntKind.i64 n_2, AV.int IntKind.i64 n_3, AV.int IntKind.i64 n_4].length (xs.getD x.toNat []) = [AV.int IntKind.i64 n, AV.int
  IntKind.i64 n_1, AV.int IntKind.i64 n_2, AV.int IntKind.i64 n_3, AV.int IntKind.i64 n_4] ∧ bif decide (n_1 < (0 : Int)) then (1 : Int) = cvE xs else bif decide ((20 : Int) ≤ n_1)
  then (1 : Int) = cvE xs else bif decide (n_2 < (1 : Int)) then (1 : Int) = cvE xs else bif decide ((12 : Int) < n_2) then (1 : Int) = cvE xs else bif decide (n_3 < (-10000 : Int))
  then (1 : Int) = cvE xs else bif decide ((20000 : Int) < n_3) then (1 : Int) = cvE xs else bif decide (n_4 < (0 : Int)) then (1 : Int) = cvE xs else bif decide ((20000 : Int) <
  n_4) then (1 : Int) = cvE xs else bif decide (rng IntKind.i64 (x + (1 : Int))) then ∃ y, RcvP rgP xs y ∧ (rcv2 f xs).m y < (rcv2 f xs).m x ∧ ((0 : Nat) = (0 : Nat) ∧ ((bif f then f
  = true else True) ∧ xs = xs) ∧ (↑xs.length : Int) = (↑xs.length : Int) ∧ x + (1 : Int) = y ∧ True) ∧ (((bif f then f = true else True) ∧ xs = xs) ∧ True) ∧ True else False else
  False else (∃ x, CvI xs x ∧ ((0 : Nat) = (0 : Nat) ∧ (1 : Int) = x ∧ True) ∧ (((bif f then f = true else True) ∧ xs = xs) ∧ True) ∧ True) ∧ ∀ (x : Int), CvI xs x → bif decide (x <
  (↑xs.length : Int)) then bif decide (rng IntKind.i64 (x - (1 : Int))) then bif decide ((0 : Int) ≤ x - (1 : Int) ∧ x - (1 : Int) < (↑xs.length : Int)) then ∃ n n_1 n_2 n_3 n_4,
  List.take [AV.int IntKind.i64 n, AV.int IntKind.i64 n_1, AV.int IntKind.i64 n_2, AV.int IntKind.i64 n_3, AV.int IntKind.i64 n_4].length (xs.getD (x - (1 : Int)).toNat []) = [AV.int
  IntKind.i64 n, AV.int IntKind.i64 n_1, AV.int IntKind.i64 n_2, AV.int IntKind.i64 n_3, AV.int IntKind.i64 n_4] ∧ bif decide ((0 : Int) ≤ x ∧ x < (↑xs.length : Int)) then ∃ n_5 n_6
  n_7 n_8 n_9, List.take [AV.int IntKind.i64 n_5, AV.int IntKind.i64 n_6, AV.int IntKind.i64 n_7, AV.int IntKind.i64 n_8, AV.int IntKind.i64 n_9].length (xs.getD x.toNat []) =
  [AV.int IntKind.i64 n_5, AV.int IntKind.i64 n_6, AV.int IntKind.i64 n_7, AV.int IntKind.i64 n_8, AV.int IntKind.i64 n_9] ∧ True ∧ bif !decide (cmp3 n n_1 n_2 n_5 n_6 n_7 < (0 :
  Int)) then (8 : Int) = cvE xs else bif decide (rng IntKind.i64 (x + (1 : Int))) then ∃ y, CvI xs y ∧ (rcv3 f xs).m y < (rcv3 f xs).m x ∧ ((0 : Nat) = (0 : Nat) ∧ x + (1 : Int) = y
  ∧ True) ∧ (((bif f then f = true else True) ∧ xs = xs) ∧ True) ∧ True else False else False else False else False else (0 : Int) = cvE xs
set_option maxRecDepth 100000 in
theorem rcValid_P : rcValid_T cmp3 iL inLo inHi inD inE := by
  unfold rcValid_T
  intro gl f xs hp _
  have bf : cond f (f = true) True := by cases f <;> trivial
  refine cs (fun h => ?_) (fun h => ⟨⟨0, ⟨by decide, by omega, fun j h => by omega⟩, ⟨rfl, ⟨bf, rfl⟩, rfl, rfl, trivial⟩, ⟨⟨bf, rfl⟩, trivial⟩, trivial⟩, ?_⟩)
  · unfold cvE; rw [if_pos (by omega)]
  rintro i ⟨h0, h1, hn⟩
  refine cs (fun hl => cd1 (by omega) ⟨_, _, _, _, _, nr_take hp (by omega), trivial, cs (fun q => ?_) (fun q => ?_)⟩) (fun hl => ?_)
  · have hk : kdP (xs.getD i.toNat []) = true := by
      unfold kdP; unfold inE at q
      cases hc : okC (nC 0 (xs.getD i.toNat [])) with
      | false => rfl
      | true => rw [hc] at q; exact absurd rfl q
    unfold cvE; rw [if_neg (by omega), any_yes (by omega) hk]; rfl
  · refine cdI (by omega) ⟨i + 1, ⟨by omega, by omega, fun j hj => ?_⟩, by simp only [rcv1]; omega, ⟨rfl, ⟨bf, rfl⟩, rfl, rfl, trivial⟩, ⟨⟨bf, rfl⟩, trivial⟩, trivial⟩
    rcases Nat.lt_or_ge j i.toNat with k | k
    · exact hn j (by omega)
    · rw [show j = i.toNat by omega]
      unfold kdP; unfold inE at q
      cases hc : okC (nC 0 (xs.getD i.toNat [])) with
      | true => rfl
      | false => rw [hc] at q; exact absurd (by decide) q
  have ek : xs.any kdP = false := any_no fun j hj => hn j (by omega)
  refine ⟨⟨0, ⟨by decide, by omega, fun j h => by omega⟩, ⟨rfl, ⟨bf, rfl⟩, rfl, rfl, trivial⟩, ⟨⟨bf, rfl⟩, trivial⟩, trivial⟩, ?_⟩
  clear h0 h1 hn hl i
  rintro i ⟨h0, h1, hn⟩
  refine cs (fun hl => cd1 (by omega) ⟨_, _, _, _, _, nr_take hp (by omega), ?_⟩) (fun hl => ?_)
  · have bad : ¬ rgB (nC 1 (xs.getD i.toNat [])) (nC 2 (xs.getD i.toNat [])) (nC 3 (xs.getD i.toNat [])) (nC 4 (xs.getD i.toNat [])) = true → 1 = cvE xs := by
      intro q
      have hk : rgP (xs.getD i.toNat []) = true := by unfold rgP; simpa using q
      unfold cvE; rw [if_neg (by omega), ek, any_yes (by omega) hk]; rfl
    unfold rgB at bad
    rw [decide_eq_true_eq] at bad
    repeat (first
      | refine cs (fun _ => bad (by omega)) (fun _ => ?_))
    refine cdI (by omega) ⟨i + 1, ⟨by omega, by omega, fun j hj => ?_⟩, by simp only [rcv2]; omega, ⟨rfl, ⟨bf, rfl⟩, rfl, rfl, trivial⟩, ⟨⟨bf, rfl⟩, trivial⟩, trivial⟩
    rcases Nat.lt_or_ge j i.toNat with k | k
    · exact hn j (by omega)
    · rw [show j = i.toNat by omega]
      unfold rgP rgB
      rw [Bool.not_eq_false']
      exact decide_eq_true (by omega)
  have er : xs.any rgP = false := any_no fun j hj => hn j (by omega)
  have hv : cvE xs = if ordN xs then 0 else 8 := by unfold cvE; rw [if_neg (by omega), ek, er]; rfl
  rw [hv]
  refine ⟨⟨1, ⟨by decide, .inr rfl, fun j hj _ => .inl (by omega)⟩, ⟨rfl, rfl, trivial⟩, ⟨⟨bf, rfl⟩, trivial⟩, trivial⟩, ?_⟩
  clear h0 h1 hn hl i
  rintro i ⟨h0, h2, hn⟩
  refine cs (fun hl => ?_) (fun hl => ?_)
  · obtain ⟨e, f1, m, a, s, he, _⟩ := hp.fr (i - 1).toNat (by omega)
    obtain ⟨e', f2, m', a', s', he', _⟩ := hp.fr i.toNat (by omega)
    have hi : i.toNat - 1 = (i - 1).toNat := by omega
    have q1 : cmpR (xs.getD (i.toNat - 1) []) (xs.getD i.toNat []) = cmp3 e f1 m e' f2 m' := by rw [hi, he, he']; rfl
    refine cdI (by omega) (cd1 (by omega) ⟨e, f1, m, a, s, by rw [he]; rfl, cd1 (by omega) ⟨e', f2, m', a', s', by rw [he']; rfl, trivial, csplit (fun q => ?_) (fun q => ?_)⟩⟩)
    · have q : ¬ cmp3 e f1 m e' f2 m' < 0 := by simpa using q
      have : ordN xs = false := by
        refine decide_eq_false fun h => ?_
        rcases h i.toNat (by omega) with k | k
        · omega
        · rw [q1] at k; omega
      rw [this]; rfl
    · have q : cmp3 e f1 m e' f2 m' < 0 := by simpa using q
      refine cdI (by omega) ⟨i + 1, ⟨by omega, .inl (by omega), fun j hj hlj => ?_⟩, by simp only [rcv3]; omega, ⟨rfl, rfl, trivial⟩, ⟨⟨bf, rfl⟩, trivial⟩, trivial⟩
      rcases Nat.lt_or_ge j i.toNat with k | k
      · exact hn j (by omega) hlj
      · rw [show j = i.toNat by omega, q1]; exact .inr (by omega)
  · have : ordN xs = true := decide_eq_true fun j hj => hn j (by omega) hj
    rw [this]; rfl
def rcValid_S (cmp3 : Int → Int → Int → Int → Int → Int → Int) (iL : Int → ByteArray) (inLo : Int → Int) (inHi : Int → Int) (inD : Int → Int) (inE : Int → Int) : Prop := ∀ (gl : Glob) (f : Bool) (xs : List (List AV)), NrsP xs → fnK Tryd.prog { glob := gl, spec := lk [(46, (rless_s cmp3)), (45, (rdesc_s Go.Proofs.YtceknalhogbbnaaDoor.iL Go.Proofs.YtceknalhogbbnaaDoor.inLo Go.Proofs.YtceknalhogbbnaaDoor.inHi Go.Proofs.YtceknalhogbbnaaDoor.inD Go.Proofs.YtceknalhogbbnaaDoor.inE))], specH := lk [], shape := [20, 36, 88, 93], nowf := true } { nt := 96, drop := drp [(1, 7168), (3, 16384), (5, 1572864), (6, 132120608), (7, 134217728), (9, 536870912), (10, 1073741824), (12, 103079215104), (13, 18889465931341141901312), (15, 37778931862957161709568), (17, 1133367955888714851287040), (18, 7253554917687775048237056), (19, 39604409850575251763374325760)] } (invs [(4, rcv1 f xs), (11, rcv2 f xs), (17, rcv3 f xs)]) 6 Tryd.f25 [.agg [.sl 5 f xs]] (.int .i64 (cvE xs))
set_option maxRecDepth 100000 in
theorem rcValid_e (cmp3 : Int → Int → Int → Int → Int → Int → Int) (iL : Int → ByteArray) (inLo : Int → Int) (inHi : Int → Int) (inD : Int → Int) (inE : Int → Int) : rcValid_T cmp3 iL inLo inHi inD inE = rcValid_S cmp3 iL inLo inHi inD inE := by kernel_rfl
theorem rcValid_v : rcValid_S cmp3 iL inLo inHi inD inE := @Eq.mp (rcValid_T cmp3 iL inLo inHi inD inE) (rcValid_S cmp3 iL inLo inHi inD inE) (rcValid_e cmp3 iL inLo inHi inD inE) rcValid_P
theorem rcValid_ok (gl : Glob) : SOK Tryd.prog gl 25 (rcValid_s cmp3 iL inLo inHi inD inE) := by
  refine ⟨fok Tryd.func25 (by kernel_rfl) (by kernel_rfl), ?_⟩
  intro xs pre r h hp
  unfold rcValid_s at h
  split at h
  · simp only [Option.some.injEq, Prod.mk.injEq] at h
    obtain ⟨h1, h2⟩ := h
    subst h1 h2
    exact fnK_sound tyNil (by exact specOK rfl rfl ⟨(rless_ok gl), (rdesc_ok gl), trivial⟩ trivial) (by kernel_rfl) Tryd.func25 rfl (rcValid_v gl _ _ hp)
  · cases h
structure RlkP (e f m : Int) (xs : List (List AV)) (i : Int) : Prop where
  flo : 0 ≤ i
  fhi : i ≤ xs.length
  fno : ∀ j : Nat, (j : Int) < i → mtP e f m (xs.getD j []) = false
def rlkL (g : Bool) (xs : List (List AV)) (e q0 q1 q2 q3 d0 d1 d2 d3 d4 : Int) : LInv := ⟨Int, fun i => ⟨[(1, .int .i64 e), (8, .ptr 8 0), (9, .int .i64 0), (11, .ptr 11 0), (13, .ptr 13 0), (41, .sl 5 g xs), (42, .int .i64 xs.length), (43, .int .i64 i)], [(8, .cells [.int .i64 0, .int .i64 0, .int .i64 0, .int .i64 0, .int .i64 0]), (11, .cells [.int .i64 q0, .int .i64 q1, .int .i64 q2, .int .i64 q3]), (13, .cells [.int .i64 d0, .int .i64 d1, .int .i64 d2, .int .i64 d3, .int .i64 d4])]⟩, RlkP e q0 d1 xs, fun i => (xs.length - i).toNat, none⟩
/-- The loop of the look-up: the place and the date lie in blocks. -/
def rlkJ (g : Bool) (xs : List (List AV)) (e : Int) (id : Nat) (st : St) : Option LInv := cond (Nat.beq id 9) (match lk st.heap 11, lk st.heap 13 with
  | some (.cells [.int _ q0, .int _ q1, .int _ q2, .int _ q3]), some (.cells [.int _ d0, .int _ d1, .int _ d2, .int _ d3, .int _ d4]) => some (rlkL g xs e q0 q1 q2 q3 d0 d1 d2 d3 d4)
  | _, _ => none) none
def rcLook_s : Sp
  | [.agg [.sl 5 g xs], .int .i64 e, .agg [.int .i64 f, .int .i64 a, .int .i64 b, .int .i64 c], .int .i64 t] => some (NrsP xs, .tup [.agg [.int .i64 (lkN xs e f a b c t 0), .int .i64 (lkN xs e f a b c t 1), .int .i64 (lkN xs e f a b c t 2), .int .i64 (lkN xs e f a b c t 3), .int .i64 (lkN xs e f a b c t 4)], .int .i64 (lkE xs e f a b c t)])
  | _ => none
set_option maxRecDepth 100000 in
def rcLook_T : Prop :=
  ∀ (gl : Glob) (g : Bool) (xs : List (List AV)) (e f a b c t : Int), NrsP xs → True ∧ True → (-9223372036854775808 : Int) ≤ e ∧ e ≤ (9223372036854775807 : Int) →
  ((-9223372036854775808 : Int) ≤ f ∧ f ≤ (9223372036854775807 : Int)) ∧ ((-9223372036854775808 : Int) ≤ a ∧ a ≤ (9223372036854775807 : Int)) ∧ ((-9223372036854775808 : Int) ≤ b ∧ b
  ≤ (9223372036854775807 : Int)) ∧ ((-9223372036854775808 : Int) ≤ c ∧ c ≤ (9223372036854775807 : Int)) ∧ True → (-9223372036854775808 : Int) ≤ t ∧ t ≤ (9223372036854775807 : Int) →
  NrsP xs ∧ bif decide ¬cvE xs = (0 : Int) then ((0 : Int) = lkN xs e f a b c t (0 : Nat) ∧ (0 : Int) = lkN xs e f a b c t (1 : Nat) ∧ (0 : Int) = lkN xs e f a b c t (2 : Nat) ∧ (0 :
  Int) = lkN xs e f a b c t (3 : Nat) ∧ (0 : Int) = lkN xs e f a b c t (4 : Nat) ∧ True) ∧ cvE xs = lkE xs e f a b c t ∧ True else True ∧ True ∧ bif decide ¬err (vld f a b c) = (0 :
  Int) then ((0 : Int) = lkN xs e f a b c t (0 : Nat) ∧ (0 : Int) = lkN xs e f a b c t (1 : Nat) ∧ (0 : Int) = lkN xs e f a b c t (2 : Nat) ∧ (0 : Int) = lkN xs e f a b c t (3 : Nat)
  ∧ (0 : Int) = lkN xs e f a b c t (4 : Nat) ∧ True) ∧ (1 : Int) = lkE xs e f a b c t ∧ True else bif decide ¬(if inB t = true then (0 : Int) else (1 : Int)) = (0 : Int) then ((0 :
  Int) = lkN xs e f a b c t (0 : Nat) ∧ (0 : Int) = lkN xs e f a b c t (1 : Nat) ∧ (0 : Int) = lkN xs e f a b c t (2 : Nat) ∧ (0 : Int) = lkN xs e f a b c t (3 : Nat) ∧ (0 : Int) =
  lkN xs e f a b c t (4 : Nat) ∧ True) ∧ (1 : Int) = lkE xs e f a b c t ∧ True else (∃ x, RlkP e (nrm f a b c).fst (if inB t = true then dtM t else (0 : Int)) xs x ∧ (e = e ∧ (0 :
  Nat) = (0 : Nat) ∧ (0 : Int) = (0 : Int) ∧ (0 : Nat) = (0 : Nat) ∧ (0 : Nat) = (0 : Nat) ∧ ((bif g then g = true else True) ∧ xs = xs) ∧ (↑xs.length : Int) = (↑xs.length : Int) ∧
  (0 : Int) = x ∧ True) ∧ ((0 : Int) = (0 : Int) ∧ (0 : Int) = (0 : Int) ∧ (0 : Int) = (0 : Int) ∧ (0 : Int) = (0 : Int) ∧ (0 : Int) = (0 : Int) ∧ True) ∧ ((nrm f a b c).fst = (nrm f
  a b c).fst ∧ (nrm f a b c).snd.fst = (nrm f a b c).snd.fst ∧ (nrm f a b c).snd.snd.fst = (nrm f a b c).snd.snd.fst ∧ (nrm f a b c).snd.snd.snd = (nrm f a b c).snd.snd.snd ∧ True) ∧
  (((if inB t = true then dtY t else (0 : Int)) = if inB t = true then dtY t else (0 : Int)) ∧ ((if inB t = true then dtM t else (0 : Int)) = if inB t = true then dtM t else (0 :
  Int)) ∧ ((if inB t = true then dtD t else (0 : Int)) = if inB t = true then dtD t else (0 : Int)) ∧ ((if inB t = true then dtH t else (0 : Int)) = if inB t = true then dtH t else
  (0 : Int)) ∧ ((if inB t = true then dtI t else (0 : Int)) = if inB t = true then dtI t else (0 : Int)) ∧ True) ∧ True) ∧ ∀ (x : Int), RlkP e (nrm f a b c).fst (if inB t = true then
  dtM t else (0 : Int)) xs x → bif decide (x < (↑xs.length : Int)) then bif decide ((0 : Int) ≤ x ∧ x < (↑xs.length : Int)) then ∃ n n_1 n_2 n_3 n_4, List.take [AV.int IntKind.i64 n,
  AV.int IntKind.i64 n_1, AV.int IntKind.i64 n_2, AV.int IntKind.i64 n_3, AV.int IntKind.i64 n_4].length (xs.getD x.toNat []) = [AV.int IntKind.i64 n, AV.int IntKind.i64 n_1, AV.int
  IntKind.i64 n_2, AV.int IntKind.i64 n_3, AV.int IntKind.i64 n_4] ∧ bif decide (n = e) then bif decide (n_1 = (nrm f a b c).fst) then bif decide (n_2 = if inB t = true then dtM t
  else (0 : Int)) then (n = lkN xs e f a b c t (0 : Nat) ∧ n_1 = lkN xs e f a b c t (1 : Nat) ∧ n_2 = lkN xs e f a b c t (2 : Nat) ∧ n_3 = lkN xs e f a b c t (3 : Nat) ∧ n_4 = lkN xs
  e f a b c t (4 : Nat) ∧ True) ∧ (0 : Int) = lkE xs e f a b c t ∧ True else bif decide (rng IntKind.i64 (x + (1 : Int))) then ∃ y, RlkP e (nrm f a b c).fst (if inB t = true then dtM
  t else (0 : Int)) xs y ∧ (rlkL g xs e (nrm f a b c).fst (nrm f a b c).snd.fst (nrm f a b c).snd.snd.fst (nrm f a b c).snd.snd.snd (if inB t = true then dtY t else (0 : Int)) (if
  inB t = true then dtM t else (0 : Int)) (if inB t = true then dtD t else (0 : Int)) (if inB t = true then dtH t else (0 : Int)) (if inB t = true then dtI t else (0 : Int))).m y <
  (rlkL g xs e (nrm f a b c).fst (nrm f a b c).snd.fst (nrm f a b c).snd.snd.fst (nrm f a b c).snd.snd.snd (if inB t = true then dtY t else (0 : Int)) (if inB t = true then dtM t
  else (0 : Int)) (if inB t = true then dtD t else (0 : Int)) (if inB t = true then dtH t else (0 : Int)) (if inB t = true then dtI t else (0 : Int))).m x ∧ (e = e ∧ (0 : Nat) = (0 :
  Nat) ∧ (0 : Int) = (0 : Int) ∧ (0 : Nat) = (0 : Nat) ∧ (0 : Nat) = (0 : Nat) ∧ ((bif g then g = true else True) ∧ xs = xs) ∧ (↑xs.length : Int) = (↑xs.length : Int) ∧ x + (1 : Int)
  = y ∧ True) ∧ ((0 : Int) = (0 : Int) ∧ (0 : Int) = (0 : Int) ∧ (0 : Int) = (0 : Int) ∧ (0 : Int) = (0 : Int) ∧ (0 : Int) = (0 : Int) ∧ True) ∧ ((nrm f a b c).fst = (nrm f a b
  c).fst ∧ (nrm f a b c).snd.fst = (nrm f a b c).snd.fst ∧ (nrm f a b c).snd.snd.fst = (nrm f a b c).snd.snd.fst ∧ (nrm f a b c).snd.snd.snd = (nrm f a b c).snd.snd.snd ∧ True) ∧
  (((if inB t = true then dtY t else (0 : Int)) = if inB t = true then dtY t else (0 : Int)) ∧ ((if inB t = true then dtM t else (0 : Int)) = if inB t = true then dtM t else (0 :
  Int)) ∧ ((if inB t = true then dtD t else (0 : Int)) = if inB t = true then dtD t else (0 : Int)) ∧ ((if inB t = true then dtH t else (0 : Int)) = if inB t = true then dtH t else
  (0 : Int)) ∧ ((if inB t = true then dtI t else (0 : Int)) = if inB t = true then dtI t else (0 : Int)) ∧ True) ∧ True else False else bif decide (rng IntKind.i64 (x + (1 : Int)))
  then ∃ y, RlkP e (nrm f a b c).fst (if inB t = true then dtM t else (0 : Int)) xs y ∧ (rlkL g xs e (nrm f a b c).fst (nrm f a b c).snd.fst (nrm f a b c).snd.snd.fst (nrm f a b
  c).snd.snd.snd (if inB t = true then dtY t else (0 : Int)) (if inB t = true then dtM t else (0 : Int)) (if inB t = true then dtD t else (0 : Int)) (if inB t = true then dtH t else
  (0 : Int)) (if inB t = true then dtI t else (0 : Int))).m y < (rlkL g xs e (nrm f a b c).fst (nrm f a b c).snd.fst (nrm f a b c).snd.snd.fst (nrm f a b c).snd.snd.snd (if inB t =
  true then dtY t else (0 : Int)) (if inB t = true then dtM t else (0 : Int)) (if inB t = true then dtD t else (0 : Int)) (if inB t = true then dtH t else (0 : Int)) (if inB t = true
  then dtI t else (0 : Int))).m x ∧ (e = e ∧ (0 : Nat) = (0 : Nat) ∧ (0 : Int) = (0 : Int) ∧ (0 : Nat) = (0 : Nat) ∧ (0 : Nat) = (0 : Nat) ∧ ((bif g then g = true else True) ∧ xs =
  xs) ∧ (↑xs.length : Int) = (↑xs.length : Int) ∧ x + (1 : Int) = y ∧ True) ∧ ((0 : Int) = (0 : Int) ∧ (0 : Int) = (0 : Int) ∧ (0 : Int) = (0 : Int) ∧ (0 : Int) = (0 : Int) ∧ (0 :
  Int) = (0 : Int) ∧ True) ∧ ((nrm f a b c).fst = (nrm f a b c).fst ∧ (nrm f a b c).snd.fst = (nrm f a b c).snd.fst ∧ (nrm f a b c).snd.snd.fst = (nrm f a b c).snd.snd.fst ∧ (nrm f a
  b c).snd.snd.snd = (nrm f a b c).snd.snd.snd ∧ True) ∧ (((if inB t = true then dtY t else (0 : Int)) = if inB t = true then dtY t else (0 : Int)) ∧ ((if inB t = true then dtM t
  else (0 : Int)) = if inB t = true then dtM t else (0 : Int)) ∧ ((if inB t = true then dtD t else (0 : Int)) = if inB t = true then dtD t else (0 : Int)) ∧ ((if inB t = true then
  dtH t else (0 : Int)) = if inB t = true then dtH t else (0 : Int)) ∧ ((if inB t = true then dtI t else (0 : Int)) = if inB t = true then dtI t else (0 : Int)) ∧ True) ∧ True else
  False else bif decide (rng IntKind.i64 (x + (1 : Int))) then ∃ y, RlkP e (nrm f a b c).fst (if inB t = true then dtM t else (0 : Int)) xs y ∧ (rlkL g xs e (nrm f a b c).fst (nrm f
  a b c).snd.fst (nrm f a b c).snd.snd.fst (nrm f a b c).snd.snd.snd (if inB t = true then dtY t else (0 : Int)) (if inB t = true then dtM t else (0 : Int)) (if inB t = true then dtD
  t else (0 : Int)) (if inB t = true then dtH t else (0 : Int)) (if inB t = true then dtI t else (0 : Int))).m y < (rlkL g xs e (nrm f a b c).fst (nrm f a b c).snd.fst (nrm f a b
  c).snd.snd.fst (nrm f a b c).snd.snd.snd (if inB t = true then dtY t else (0 : Int)) (if inB t = true then dtM t else (0 : Int)) (if inB t = true then dtD t else (0 : Int)) (if inB
  t = true then dtH t else (0 : Int)) (if inB t = true then dtI t else (0 : Int))).m x ∧ (e = e ∧ (0 : Nat) = (0 : Nat) ∧ (0 : Int) = (0 : Int) ∧ (0 : Nat) = (0 : Nat) ∧ (0 : Nat) =
  (0 : Nat) ∧ ((bif g then g = true else True) ∧ xs = xs) ∧ (↑xs.length : Int) = (↑xs.length : Int) ∧ x + (1 : Int) = y ∧ True) ∧ ((0 : Int) = (0 : Int) ∧ (0 : Int) = (0 : Int) ∧ (0
  : Int) = (0 : Int) ∧ (0 : Int) = (0 : Int) ∧ (0 : Int) = (0 : Int) ∧ True) ∧ ((nrm f a b c).fst = (nrm f a b c).fst ∧ (nrm f a b c).snd.fst = (nrm f a b c).snd.fst ∧ (nrm f a b
  c).snd.snd.fst = (nrm f a b c).snd.snd.fst ∧ (nrm f a b c).snd.snd.snd = (nrm f a b c).snd.snd.snd ∧ True) ∧ (((if inB t = true then dtY t else (0 : Int)) = if inB t = true then
  dtY t else (0 : Int)) ∧ ((if inB t = true then dtM t else (0 : Int)) = if inB t = true then dtM t else (0 : Int)) ∧ ((if inB t = true then dtD t else (0 : Int)) = if inB t = true
  then dtD t else (0 : Int)) ∧ ((if inB t = true then dtH t else (0 : Int)) = if inB t = true then dtH t else (0 : Int)) ∧ ((if inB t = true then dtI t else (0 : Int)) = if inB t =
  true then dtI t else (0 : Int)) ∧ True) ∧ True else False else False else ((0 : Int) = lkN xs e f a b c t (0 : Nat) ∧ (0 : Int) = lkN xs e f a b c t (1 : Nat) ∧ (0 : Int) = lkN xs
  e f a b c t (2 : Nat) ∧ (0 : Int) = lkN xs e f a b c t (3 : Nat) ∧ (0 : Int) = lkN xs e f a b c t (4 : Nat) ∧ True) ∧ (9 : Int) = lkE xs e f a b c t ∧ True
set_option maxRecDepth 100000 in
theorem rcLook_P : rcLook_T := by
  unfold rcLook_T
  intro gl g xs e f a b c t hp _ _ _ _
  have bg : cond g (g = true) True := by cases g <;> trivial
  refine ⟨hp, cs (fun h => lk_bad (by unfold lkE; rw [if_neg h]) h) (fun h => ⟨trivial, trivial, ?_⟩)⟩
  have h0 : cvE xs = 0 := Decidable.not_not.1 h
  obtain ⟨z1, z2, z3, z4⟩ := cv_zero h0
  cases hv : vld f a b c with
  | false =>
    refine cs (fun _ => lk_bad (by unfold lkE; rw [if_pos h0, hv]; rfl) (by decide)) (fun k => absurd (by unfold err; simp) k)
  | true =>
    cases hi : inB t with
    | false =>
      refine cs (fun k => absurd (by unfold err; simp) k) (fun _ => cs (fun _ => lk_bad (by unfold lkE; rw [if_pos h0, hv, hi]; rfl) (by decide)) (fun k => absurd (by simp) k))
    | true =>
      refine cs (fun k => absurd (by unfold err; simp) k) (fun _ => cs (fun k => absurd (by simp) k) (fun _ => ?_))
      rw [if_pos rfl]
      refine ⟨⟨0, ⟨by decide, by omega, fun j h => by omega⟩, ⟨rfl, rfl, rfl, rfl, rfl, ⟨bg, rfl⟩, rfl, rfl, trivial⟩, ⟨rfl, rfl, rfl, rfl, rfl, trivial⟩, ⟨rfl, rfl, rfl, rfl, trivial⟩, ⟨rfl, rfl, rfl, rfl, rfl, trivial⟩, trivial⟩, ?_⟩
      have hE : lkE xs e f a b c t = if xs.any (mtP e (nrm f a b c).1 (dtM t)) then 0 else 9 := by
        unfold lkE; rw [if_pos h0, hv, hi]; rfl
      rintro i ⟨i0, i1, hn⟩
      refine cs (fun hl => cd1 (by omega) ⟨_, _, _, _, _, nr_take hp (by omega), ?_⟩) (fun hl => ?_)
      · have go : ¬ (nC 0 (xs.getD i.toNat []) = e ∧ nC 1 (xs.getD i.toNat []) = (nrm f a b c).1 ∧ nC 2 (xs.getD i.toNat []) = dtM t) → RlkP e (nrm f a b c).1 (dtM t) xs (i + 1) := by
          intro q
          refine ⟨by omega, by omega, fun j hj => ?_⟩
          rcases Nat.lt_or_ge j i.toNat with k | k
          · exact hn j (by omega)
          · rw [show j = i.toNat by omega]
            unfold mtP
            exact decide_eq_false q
        have st := fun q => (show ∃ y, RlkP e (nrm f a b c).1 (dtM t) xs y ∧ (xs.length - y).toNat < ((xs.length : Int) - i).toNat ∧ i + 1 = y from ⟨i + 1, go q, by omega, rfl⟩)
        refine cs (fun q0 => cs (fun q1 => cs (fun q2 => ?_) (fun q2 => ?_)) (fun q1 => ?_)) (fun q0 => ?_)
        · have hm : mtP e (nrm f a b c).1 (dtM t) (xs.getD i.toNat []) = true := decide_eq_true ⟨q0, q1, q2⟩
          have hany := any_yes (p := mtP e (nrm f a b c).1 (dtM t)) (by omega) hm
          have hf : xs.findIdx (mtP e (nrm f a b c).1 (dtM t)) = i.toNat := by
            refine (List.findIdx_eq (by omega)).2 ⟨by rw [← gD2]; exact hm, fun j hj => ?_⟩
            rw [← gD2 (by omega)]
            exact hn j (by omega)
          rw [hany] at hE
          unfold lkN
          rw [hE, hf]
          simp only [if_true]
          exact ⟨⟨trivial, trivial, trivial, trivial, trivial, trivial⟩, trivial, trivial⟩
        all_goals
          refine cdI (by omega) ⟨i + 1, go (by omega), by simp only [rlkL]; omega, ⟨rfl, rfl, rfl, rfl, rfl, ⟨bg, rfl⟩, rfl, rfl, trivial⟩, ⟨rfl, rfl, rfl, rfl, rfl, trivial⟩, ⟨rfl, rfl, rfl, rfl, trivial⟩, ⟨rfl, rfl, rfl, rfl, rfl, trivial⟩, trivial⟩
      · have hany : xs.any (mtP e (nrm f a b c).1 (dtM t)) = false := any_no fun j hj => hn j (by omega)
        exact lk_bad (by rw [hE, hany]; rfl) (by decide)
def rcLook_S : Prop := ∀ (gl : Glob) (g : Bool) (xs : List (List AV)) (e f a b c t : Int), NrsP xs → fnK Tryd.prog { glob := gl, spec := lk [(25, (rcValid_s Go.Proofs.YtceknalhogbbnaaDoor.cmp3 Go.Proofs.YtceknalhogbbnaaDoor.iL Go.Proofs.YtceknalhogbbnaaDoor.inLo Go.Proofs.YtceknalhogbbnaaDoor.inHi Go.Proofs.YtceknalhogbbnaaDoor.inD Go.Proofs.YtceknalhogbbnaaDoor.inE)), (44, (rNormal_s Go.Proofs.YtceknalhogbbnaaDoor.vld Go.Proofs.YtceknalhogbbnaaDoor.adr Go.Proofs.YtceknalhogbbnaaDoor.nrm)), (32, (rDate_s Go.Proofs.YtceknalhogbbnaaDoor.inB Go.Proofs.YtceknalhogbbnaaDoor.dtY Go.Proofs.YtceknalhogbbnaaDoor.dtM Go.Proofs.YtceknalhogbbnaaDoor.dtD Go.Proofs.YtceknalhogbbnaaDoor.dtH Go.Proofs.YtceknalhogbbnaaDoor.dtI Go.Proofs.YtceknalhogbbnaaDoor.dtR))], specH := lk [], shape := [46], nowf := true } { nt := 68, drop := drp [(1, 393216), (2, 524288), (3, 6291456), (4, 260046848), (5, 8321499136), (6, 266287972352), (7, 549755813888), (8, 1099511627776), (10, 105553116266496), (11, 18446603336221196288), (12, 36893488147419103232), (13, 73786976294838206464), (14, 147573952589676412928)] } (rlkJ g xs e) 6 Tryd.f42 [.agg [.sl 5 g xs], .int .i64 e, .agg [.int .i64 f, .int .i64 a, .int .i64 b, .int .i64 c], .int .i64 t] (.tup [.agg [.int .i64 (lkN xs e f a b c t 0), .int .i64 (lkN xs e f a b c t 1), .int .i64 (lkN xs e f a b c t 2), .int .i64 (lkN xs e f a b c t 3), .int .i64 (lkN xs e f a b c t 4)], .int .i64 (lkE xs e f a b c t)])
set_option maxRecDepth 100000 in
theorem rcLook_e : rcLook_T = rcLook_S := by kernel_rfl
theorem rcLook_v : rcLook_S := @Eq.mp (rcLook_T) (rcLook_S) (rcLook_e) rcLook_P
theorem rcLook_ok (gl : Glob) : SOK Tryd.prog gl 42 rcLook_s := by
  refine ⟨fok Tryd.func42 (by kernel_rfl) (by kernel_rfl), ?_⟩
  intro xs pre r h hp
  unfold rcLook_s at h
  split at h
  · simp only [Option.some.injEq, Prod.mk.injEq] at h
    obtain ⟨h1, h2⟩ := h
    subst h1 h2
    exact fnK_sound tyNil (by exact specOK rfl rfl ⟨(rcValid_ok gl), (rNormal_ok gl), (rDate_ok gl), trivial⟩ trivial) (by kernel_rfl) Tryd.func42 rfl (rcLook_v gl _ _ _ _ _ _ _ _ hp)
  · cases h
end Go.Proofs.YtceknalhogbbnaaDoor
