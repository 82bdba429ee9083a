/- Scores: plain facts of the ranges; the law of ranges. -/
import Derived.Test.YtjllgdpnbllnjaaSvN
import Derived.Test.YtjllgdpnbllnjaaSvI
namespace Go.Proofs.Ytjllgdpnbllnjaa
open Go
set_option linter.unusedVariables false
set_option linter.unusedSimpArgs false

theorem cmp_le0 {p q : Int} (h : p ≤ q) : ¬ 0 < cmpI p q := by unfold cmpI; split <;> (try split) <;> omega
theorem cmp_le1 {p q : Int} (h : p ≤ q) : cmpI p q ≤ 0 := by unfold cmpI; split <;> (try split) <;> omega
theorem cmp_ge0 {p q : Int} (h : q ≤ p) : ¬ cmpI p q < 0 := by unfold cmpI; split <;> (try split) <;> omega
structure RdF (n d N D g : Int) : Prop where
  fg : 0 < g
  fn : N * g = n
  fd : D * g = d
  fp : 1 ≤ D
  ff : FrP N D
  fc : gcdI N D = 1
theorem rd_f {n d : Int} (hd : 0 < d ∧ d ≤ 1152921504606846976) (hn : -1152921504606846976 ≤ n ∧ n ≤ 1152921504606846976) : rdE n d = 0 ∧ ∃ g, RdF n d (rdN n d) (rdD n d) g := by
  have hb : rdB n d = true := rdB_iff.2 ⟨by omega, by omega, by omega⟩
  have p := rd_pos hb
  refine ⟨rdE_iff.2 hb, gcdI n d, gcd_pos (by omega), ?_, ?_, p.1, ⟨by omega, by omega⟩, p.2.2.2.2⟩
  · unfold rdN
    rw [hb, if_pos rfl]
    have e : nF n d = n := if_neg (by omega)
    rw [e]
    exact Int.tdiv_mul_cancel (by unfold gcdI; exact Int.ofNat_dvd_left.2 (Nat.gcd_dvd_left _ _))
  · unfold rdD
    rw [hb, if_pos rfl]
    have e : dF d = d := if_neg (by omega)
    rw [e]
    exact Int.tdiv_mul_cancel (by unfold gcdI; exact Int.ofNat_dvd_left.2 (Nat.gcd_dvd_right _ _))
theorem rf_le {n d N D g : Int} (r : RdF n d N D g) (h : n ≤ d) : N ≤ D := by
  rw [← r.fn, ← r.fd] at h
  exact Int.le_of_mul_le_mul_right h r.fg
theorem rf_nn {n d N D g : Int} (r : RdF n d N D g) (h : 0 ≤ n) : 0 ≤ N := by
  rw [← r.fn, ← Int.zero_mul g] at h
  exact Int.le_of_mul_le_mul_right h r.fg
theorem rf_ge {n d N D g : Int} (r : RdF n d N D g) (h : 0 ≤ n + d) : 0 ≤ N + D := by
  rw [← r.fn, ← r.fd, ← Int.add_mul, ← Int.zero_mul g] at h
  exact Int.le_of_mul_le_mul_right h r.fg
theorem rf_one {n d N D g : Int} (r : RdF n d N D g) : (N = 1 ∧ D = 1) ↔ n = d := by
  constructor
  · rintro ⟨h1, h2⟩
    rw [← r.fn, ← r.fd, h1, h2]
  · intro h
    rw [← r.fn, ← r.fd] at h
    have e : N = D := Int.eq_of_mul_eq_mul_right (by have := r.fg; omega) h
    have c := r.fc
    have p := r.fp
    rw [e] at c
    unfold gcdI at c
    rw [Nat.gcd_self] at c
    omega
theorem rf_cross {n d N D g n' d' N' D' g' : Int} (r : RdF n d N D g) (r' : RdF n' d' N' D' g') (h : n * d' ≤ n' * d) : N * D' ≤ N' * D := by
  rw [← r.fn, ← r.fd, ← r'.fn, ← r'.fd] at h
  have e1 : N * g * (D' * g') = N * D' * (g * g') := by
    rw [Int.mul_assoc, Int.mul_assoc, ← Int.mul_assoc g, Int.mul_comm g D', Int.mul_assoc D' g]
  have e2 : N' * g' * (D * g) = N' * D * (g * g') := by
    rw [Int.mul_assoc, Int.mul_assoc, ← Int.mul_assoc g', Int.mul_comm g' D, Int.mul_assoc D g', Int.mul_comm g' g]
  rw [e1, e2] at h
  exact Int.le_of_mul_le_mul_right h (Int.mul_pos r.fg r'.fg)
theorem hk_ids (h a m o : Int) (q1 : 0 ≤ h) (q2 : 0 ≤ a) (q3 : 0 ≤ m) (q4 : 0 ≤ o) : hkN h a m o ≤ hkD h a m o ∧ 0 ≤ hkN h a m o + hkD h a m o ∧ (hkN h a m o = hkD h a m o ↔ a = 0 ∧ m = 0) := by
  unfold hkN hkD
  have e1 : (h + m) * (m + o) = h * m + h * o + (m * m + m * o) := by rw [Int.add_mul, Int.mul_add, Int.mul_add]
  have e2 : (h + a) * (a + o) = h * a + h * o + (a * a + a * o) := by rw [Int.add_mul, Int.mul_add, Int.mul_add]
  have e3 := sq_nn (m - a)
  have e4 : (m - a) * (m - a) = m * m - a * m - (a * m - a * a) := by rw [Int.sub_mul, Int.mul_sub, Int.mul_sub, Int.mul_comm m a]
  rw [e4] at e3
  rw [e1, e2]
  have n1 := Int.mul_nonneg q1 q3
  have n2 := Int.mul_nonneg q1 q4
  have n3 := Int.mul_nonneg q3 q3
  have n4 := Int.mul_nonneg q3 q4
  have n5 := Int.mul_nonneg q1 q2
  have n6 := Int.mul_nonneg q2 q2
  have n7 := Int.mul_nonneg q2 q4
  have n8 := Int.mul_nonneg q2 q3
  refine ⟨by omega, by omega, fun e => ?_, ?_⟩
  · have z1 : m * m = 0 := by omega
    have z2 : a * a = 0 := by omega
    exact ⟨by rcases Int.mul_eq_zero.1 z2 with k | k <;> exact k, by rcases Int.mul_eq_zero.1 z1 with k | k <;> exact k⟩
  · rintro ⟨rfl, rfl⟩
    simp only [Int.mul_zero, Int.zero_mul] at *
    omega
theorem sqE0 {n d : Int} (h : sqE n d = 0) : ¬ d = 0 := by
  intro e
  unfold sqE at h
  rw [if_pos e] at h; omega
theorem sq_is {n d : Int} (h : ¬ d = 0) : sqN n d = rdN n d ∧ sqD n d = rdD n d ∧ sqE n d = rdE n d := by
  unfold sqN sqD sqE
  rw [if_neg h, if_neg h, if_neg h]; exact ⟨rfl, rfl, rfl⟩
abbrev cfr : Int → Int → Int → Int → Int := fun a b c d => cmpI (a * d) (c * b)
theorem bd_of (len h a m o : Int) (hl : 0 ≤ len ∧ len ≤ 20) (q1 : 0 ≤ h) (q2 : 0 ≤ a) (q3 : 0 ≤ m) (q4 : 0 ≤ o) (hs : h + a + m + o = len) :
    BdF len h a m o (sqN h (h + m)) (sqD h (h + m)) (sqE h (h + m)) (sqN a (h + a)) (sqD a (h + a)) (sqE a (h + a)) (sqN h (h + a + m)) (sqD h (h + a + m)) (sqE h (h + a + m))
      (sqN (hkN h a m o) (hkD h a m o)) (sqD (hkN h a m o) (hkD h a m o)) (sqE (hkN h a m o) (hkD h a m o)) cfr := by
  have r3 : ¬ h + a + m = 0 → ∃ g, RdF h (h + a + m) (sqN h (h + a + m)) (sqD h (h + a + m)) g ∧ sqE h (h + a + m) = 0 := fun e => by
    obtain ⟨s1, s2, s3⟩ := sq_is (n := h) e
    obtain ⟨k0, g, k⟩ := rd_f (n := h) (d := h + a + m) (by omega) (by omega)
    rw [s1, s2, s3]; exact ⟨g, k, k0⟩
  have r4 : sqE (hkN h a m o) (hkD h a m o) = 0 → ∃ g, RdF (hkN h a m o) (hkD h a m o) (sqN (hkN h a m o) (hkD h a m o)) (sqD (hkN h a m o) (hkD h a m o)) g := fun e => by
    obtain ⟨s1, s2, s3⟩ := sq_is (n := hkN h a m o) (sqE0 e)
    have i := hk_ids h a m o q1 q2 q3 q4
    have m1 := m4 (a := h + m) (b := m + o) (by omega) (by omega)
    have m2 := m4 (a := h + a) (b := a + o) (by omega) (by omega)
    have hz := sqE0 e
    have hd : 0 ≤ hkD h a m o ∧ hkD h a m o ≤ 800000000 := by unfold hkD; omega
    obtain ⟨k0, g, k⟩ := rd_f (n := hkN h a m o) (d := hkD h a m o) (by omega) (by omega)
    rw [s1, s2]; exact ⟨g, k⟩
  have i := hk_ids h a m o q1 q2 q3 q4
  refine ⟨hl, hs, ⟨by omega, by omega, by omega, by omega⟩, fun e => ?_, fun e => ?_, fun e => ?_, fun e => ?_, fun e => ?_⟩
  · have hz := sqE0 e
    obtain ⟨s1, s2, s3⟩ := sq_is (n := h) hz
    obtain ⟨k0, g, k⟩ := rd_f (n := h) (d := h + m) (by omega) (by omega)
    obtain ⟨g', k', e'⟩ := r3 (by omega)
    rw [s1, s2]
    have l1 := rf_le k (by omega)
    have l2 := rf_nn k (by omega)
    have l3 := rf_cross k' k (by
      rw [Int.mul_comm h (h + a + m), Int.mul_comm h (h + m)]
      exact Int.mul_le_mul_of_nonneg_right (by omega) q1)
    exact ⟨k.ff, cmp_le0 (by omega), cmp_ge0 (by omega), e', cmp_le0 l3⟩
  · have hz := sqE0 e
    obtain ⟨s1, s2, s3⟩ := sq_is (n := a) hz
    obtain ⟨k0, g, k⟩ := rd_f (n := a) (d := h + a) (by omega) (by omega)
    rw [s1, s2]
    have l1 := rf_le k (by omega)
    have l2 := rf_nn k (by omega)
    exact ⟨k.ff, cmp_le0 (by omega), cmp_ge0 (by omega)⟩
  · obtain ⟨g', k', e'⟩ := r3 (sqE0 e)
    have l2 := rf_nn k' (by omega)
    exact ⟨k'.ff, cmp_ge0 (by omega)⟩
  · obtain ⟨g, k⟩ := r4 e
    have l1 := rf_le k i.1
    have l2 := rf_ge k i.2.1
    exact ⟨k.ff, cmp_le0 (by omega), cmp_ge0 (by omega)⟩
  · obtain ⟨g, k⟩ := r4 e
    rw [rf_one k]; exact i.2.2
theorem sk_of (n Q Q' : Int) (hn : 0 ≤ n) (hQ : 0 ≤ Q ∧ Q ≤ 288230376151711744) (hQ' : 0 ≤ Q' ∧ Q' ≤ 288230376151711744) :
    (¬ skE n Q n Q' = 0 → n = 0 ∨ Q' = 0) ∧ (skE n Q n Q' = 0 → FrP (skP n Q n Q') (skQ n Q n Q') ∧ cfr (skP n Q n Q') (skQ n Q n Q') 1 1 ≤ 0 ∧ ((skP n Q n Q' = 1 ∧ skQ n Q n Q' = 1) ↔ Q = 0)) := by
  by_cases hb : n < 1 ∨ Q' = 0
  · have e : skN n Q n Q' = true := decide_eq_true (by omega)
    unfold skE skP skQ
    rw [e, if_pos rfl, if_pos rfl, if_pos rfl]
    exact ⟨fun _ => by omega, fun k => by omega⟩
  · have e : skN n Q n Q' = false := decide_eq_false (by omega)
    have e2 : skR Q Q' = true := decide_eq_true ⟨by omega, by omega⟩
    obtain ⟨k0, g, k⟩ := rd_f (n := Q' - Q) (d := Q') (by omega) (by omega)
    unfold skE skP skQ
    rw [e, e2]
    simp only [Bool.false_eq_true, if_false, if_true]
    have l1 := rf_le k (by omega)
    refine ⟨fun q => absurd k0 q, fun _ => ⟨k.ff, cmp_le1 (by omega), ?_⟩⟩
    rw [rf_one k]; omega
theorem prL20 {codes : List (List AV)} (hf : FldP (List.take 160 codes) 0) : (prsV (List.take 160 codes) 0 20).length ≤ 20 ∧ ∀ r ∈ prsV (List.take 160 codes) 0 20, okPr r = true := by
  have a1 := nxV_bd (n := 20 + 1) hf.b hf.lo
  refine ⟨?_, fun r hr => prL_ok hf.b _ _ (nxA_le hf.lo) r hr⟩
  unfold prsV
  rw [prL_len]
  unfold prsN
  omega
theorem bounds_law (gl : Glob) (g g' : Bool) (codes more : List (List AV)) (th : Int) (h1 : BytA codes) (h2 : BytA more) :
    PureC Try.prog gl 8 [.sl 1 g codes, .sl 1 g' more, .int .u8 th] (.bool true) := by
  have sok : ∀ {f : FuncId} {s s' : Sp}, SOK Try.prog gl f s → (∀ xs p r, s' xs = some (p, r) → p → ∃ q, s xs = some (q, r) ∧ q) → SOK Try.prog gl f s' :=
    fun h k => ⟨h.1, fun xs p r e hp => by obtain ⟨q, e1, hq⟩ := k xs p r e hp; exact h.2 xs q r e1 hq⟩
  have o1 : SOK Try.prog gl 21 (ofG_s oN oS oA oQ ckE) := sok (sof_ok gl) fun xs p r e hp => by
    unfold ofG_s at e; split at e
    · simp only [Option.some.injEq, Prod.mk.injEq] at e; obtain ⟨rfl, rfl⟩ := e; exact ⟨_, rfl, hp⟩
    · cases e
  have t1 : SOK Try.prog gl 22 (tbG_s cH cA cM cO ckE) := sok (stable_ok gl) fun xs p r e hp => by
    unfold tbG_s at e; split at e
    · simp only [Option.some.injEq, Prod.mk.injEq] at e; obtain ⟨rfl, rfl⟩ := e; exact ⟨_, rfl, hp⟩
    · cases e
  have k1 : SOK Try.prog gl 25 (skG_s skP skQ skE) := sok (sskill_ok gl) fun xs p r e hp => by
    unfold skG_s at e; split at e
    · simp only [Option.some.injEq, Prod.mk.injEq] at e; obtain ⟨rfl, rfl⟩ := e; exact ⟨_, rfl, trivial⟩
    · cases e
  have c1 : SOK Try.prog gl 38 (frG_s cfr) := sok (scmp_ok gl) fun xs p r e hp => by
    unfold frG_s at e; split at e
    · simp only [Option.some.injEq, Prod.mk.injEq] at e; obtain ⟨rfl, rfl⟩ := e; exact ⟨_, rfl, hp⟩
    · cases e
  have d1 : SOK Try.prog gl 11 (scG_s (fun h a m o => sqN h (h + m)) (fun h a m o => sqD h (h + m)) (fun h a m o => sqE h (h + m))) := sok (sD_ok gl) fun xs p r e hp => by
    unfold scG_s at e; split at e
    · simp only [Option.some.injEq, Prod.mk.injEq] at e; obtain ⟨rfl, rfl⟩ := e; exact ⟨_, rfl, hp⟩
    · cases e
  have d2 : SOK Try.prog gl 13 (scG_s (fun h a m o => sqN a (h + a)) (fun h a m o => sqD a (h + a)) (fun h a m o => sqE a (h + a))) := sok (sF_ok gl) fun xs p r e hp => by
    unfold scG_s at e; split at e
    · simp only [Option.some.injEq, Prod.mk.injEq] at e; obtain ⟨rfl, rfl⟩ := e; exact ⟨_, rfl, hp⟩
    · cases e
  have d3 : SOK Try.prog gl 15 (scG_s (fun h a m o => sqN h (h + a + m)) (fun h a m o => sqD h (h + a + m)) (fun h a m o => sqE h (h + a + m))) := sok (sT_ok gl) fun xs p r e hp => by
    unfold scG_s at e; split at e
    · simp only [Option.some.injEq, Prod.mk.injEq] at e; obtain ⟨rfl, rfl⟩ := e; exact ⟨_, rfl, hp⟩
    · cases e
  have d4 : SOK Try.prog gl 17 (scG_s (fun h a m o => sqN (hkN h a m o) (hkD h a m o)) (fun h a m o => sqD (hkN h a m o) (hkD h a m o)) (fun h a m o => sqE (hkN h a m o) (hkD h a m o))) := sok (sH_ok gl) fun xs p r e hp => by
    unfold scG_s at e; split at e
    · simp only [Option.some.injEq, Prod.mk.injEq] at e; obtain ⟨rfl, rfl⟩ := e; exact ⟨_, rfl, hp⟩
    · cases e
  have pr : HOK Try.prog gl 20 (prG_s prsV prsA) := by
    refine ⟨(fpairs_ok gl).1, ?_⟩
    intro xs bs pre r bs2 h hp
    unfold prG_s at h
    split at h
    · simp only [Option.some.injEq, Prod.mk.injEq] at h
      obtain ⟨rfl, rfl, rfl⟩ := h
      exact (fpairs_ok gl).2 _ _ _ _ _ rfl hp
    · cases h
  have f1 : FldP (List.take 160 codes) 0 := ⟨fun x hx => h1 x (List.mem_of_mem_take hx), by rw [List.length_take]; omega, by decide⟩
  have f2 : FldP (List.take 160 more) 0 := ⟨fun x hx => h2 x (List.mem_of_mem_take hx), by rw [List.length_take]; omega, by decide⟩
  have v1 : PrV codes prsV := ⟨f1, prsV_P f1, (prL20 f1).1, fun n => (pt_prs (prsV_P f1) n).1⟩
  have v2 : PrV more prsV := ⟨f2, prsV_P f2, (prL20 f2).1, fun n => (pt_prs (prsV_P f2) n).1⟩
  have y1 := (prL20 f1).2
  have y2 := (prL20 f2).2
  have w1 := v1.l
  have w2 := v2.l
  refine fnK_sound (tyOf (by kernel_rfl)) (by exact specOK rfl rfl ⟨sawake_ok gl, o1, t1, k1, c1, d1, d2, d3, d4, trivial⟩ ⟨fnew_ok gl, pr, trivial⟩) (by kernel_rfl) Try.func8 rfl
    (lBounds_v gl g g' codes more th _ _ _ _ _ _ _ _ _ _ _ _ _ _ _ _ _ _ _ _ _ _ _ _ _ _ _ ⟨v1, v2, ?_, ?_⟩)
  · have c := ck_ok (by omega) y1
    generalize prsV (List.take 160 codes) 0 20 = L at *
    have t := tb_bd L (th.tmod 10) L.length
    unfold cH cA cM cO
    rw [if_pos c, if_pos c, if_pos c, if_pos c]
    exact bd_of _ _ _ _ _ (by omega) t.p1 t.p2 t.p3 t.p4 t.ps
  · generalize prsV (List.take 160 codes) 0 20 = L at *
    generalize prsV (List.take 160 more) 0 20 = M at *
    have hm : 0 ≤ min (L.length : Int) M.length ∧ min (L.length : Int) M.length ≤ L.length ∧ min (L.length : Int) M.length ≤ M.length := by omega
    generalize min (L.length : Int) M.length = n at *
    have gen : ∀ X : List (List AV), X.length ≤ 20 → n ≤ X.length → (∀ r ∈ X, okPr r = true) → ckE (X.take n.toNat) = 0 ∧ oN (X.take n.toNat) = n ∧ 0 ≤ oQ (X.take n.toNat) ∧ oQ (X.take n.toNat) ≤ 288230376151711744 := by
      intro X hX hnX hr
      have hl : (X.take n.toNat).length = n.toNat := by rw [List.length_take]; omega
      have hr' : ∀ r ∈ X.take n.toNat, okPr r = true := fun r h => hr r (List.mem_of_mem_take h)
      have c := ck_ok (by omega) hr'
      obtain ⟨b1, b2, b3⟩ := of_bd (fun j hj => by rw [gD hj]; exact hr' _ (List.getElem_mem hj)) (X.take n.toNat).length (Nat.le_refl _)
      unfold oN oQ
      rw [if_pos c, if_pos c]
      exact ⟨c, by omega, by omega, by omega⟩
    obtain ⟨a1, a2, a3⟩ := gen L w1 hm.2.1 y1
    obtain ⟨b1, b2, b3⟩ := gen M w2 hm.2.2 y2
    have s := sk_of n (oQ (L.take n.toNat)) (oQ (M.take n.toNat)) hm.1 a3 b3
    rw [a2, b2]
    exact ⟨ck_ok (by omega) y1, a1, b1, s.1, s.2⟩
end Go.Proofs.Ytjllgdpnbllnjaa
