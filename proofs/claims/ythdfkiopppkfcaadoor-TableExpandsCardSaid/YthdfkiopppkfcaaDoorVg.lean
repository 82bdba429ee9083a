/- Operations that only compute, IV: slices, indices, and all of them in one. -/
import Derived.Test.YthdfkiopppkfcaaDoorVf
namespace Go.Proofs.YthdfkiopppkfcaaDoor
open Go
set_option linter.unusedVariables false
set_option linter.unusedSimpArgs false

/-- A slice that is read: size of its elements, whether it is full, and they. -/
def viewS : AV → (Nat → Bool → List (List AV) → Prop) → Prop
  | .sl s f xs, k => k s f xs
  | .acc _ s xs, k => k s false xs
  | .frz _ s n xs, k => cond (decide (n = xs.length)) (k s false xs) False
  | _, _ => False
theorem viewS_sound {x : AV} {k : Nat → Bool → List (List AV) → Prop} (h : viewS x k) : ∃ s f xs, k s f xs ∧ ∀ S m v, CV S x m v →
    ∃ A c, v = .slice A xs.length c ∧ xs.length ≤ c ∧ c ≤ maxLen ∧ (f = true → c = xs.length) ∧ (A = none → c = 0) ∧ (∀ a, A = some a → (c ≠ 0 → a.spot = none) ∧ CE S xs s a.block a.off) := by
  cases x <;> simp only [viewS] at h
  case sl s f xs => exact ⟨s, f, xs, h, fun S m v hv => by simpa only [CV] using hv⟩
  case acc i s xs =>
    refine ⟨s, false, xs, h, fun S m v hv => ?_⟩
    simp only [CV] at hv
    obtain ⟨⟨A, c, e, h1, h2, h3, h4⟩, _⟩ := hv
    exact ⟨A, c, e, h1, h2, (fun e => by cases e), h3, h4⟩
  case frz i s n xs =>
    obtain ⟨hn, h'⟩ := cond_F h
    refine ⟨s, false, xs, h', fun S m v hv => ?_⟩
    simp only [CV] at hv
    obtain ⟨⟨A, c, e, h1, h2, h3, h4⟩, _⟩ := hv.2 (of_decide_eq_true hn)
    exact ⟨A, c, e, h1, h2, (fun e => by cases e), h3, h4⟩
def intK : AV → (Int → Prop) → Prop
  | .int _ i, k => k i
  | _, _ => False
theorem intK_sound {x : AV} {k : Int → Prop} (h : intK x k) : ∃ i, k i ∧ ∀ S m v, CV S x m v → ∃ q, v = .int q i := by
  cases x <;> simp only [intK] at h
  case int q i => exact ⟨i, h, fun S m v hv => by simp only [CV] at hv; exact ⟨q, hv.1⟩⟩
def optK : Option AV → Int → (Int → Prop) → Prop
  | none, d, k => k d
  | some x, _, k => intK x k
theorem optK_sound {x : Option AV} {d : Int} {k : Int → Prop} (h : optK x d k) : ∃ i, k i ∧ (x = none → i = d) ∧ ∀ y, x = some y → ∀ S m v, CV S y m v → ∃ q, v = .int q i := by
  cases x with
  | none => exact ⟨d, h, fun _ => rfl, fun y e => by cases e⟩
  | some y =>
    obtain ⟨i, h1, h2⟩ := intK_sound h
    exact ⟨i, h1, (fun e => by cases e), fun z e => by injection e with e; subst e; exact h2⟩
/-- The bounds of a slice expression without a third one. -/
theorem run_bounds {P : Program} {b : Bool} {n c : Nat} {lo hi : Option Value} {l h : Int} (w : World) (h1 : 0 ≤ h ∧ h ≤ c) (h2 : 0 ≤ l ∧ l ≤ h)
    (hl : (lo = none ∧ l = 0) ∨ ∃ q, lo = some (.int q l)) (hh : (hi = none ∧ h = n) ∨ ∃ q, hi = some (.int q h)) :
    (Instr.sliceBounds b n c lo hi none).run P w = .ok (l.toNat, h.toNat, c) w := by
  unfold Instr.sliceBounds
  rcases hh with ⟨rfl, e⟩ | ⟨q, rfl⟩
  · subst e
    rcases hl with ⟨rfl, rfl⟩ | ⟨q, rfl⟩
    · simp
    · simp [run_sliceBound _ q l n _ h2.1 h2.2]
  · have e1 := fun w code => run_sliceBound (P := P) w q h c code h1.1 h1.2
    rcases hl with ⟨rfl, rfl⟩ | ⟨q', rfl⟩
    · simp [e1]
    · have e2 := fun w code => run_sliceBound (P := P) w q' l h.toNat code h2.1 (by omega)
      simp [e1, e2]
theorem run_bounds3 {P : Program} {b : Bool} {n c : Nat} {lo : Option Value} {l h : Int} {q1 q2 : IntKind} (w : World) (h1 : 0 ≤ h ∧ h ≤ c) (h2 : 0 ≤ l ∧ l ≤ h)
    (hl : (lo = none ∧ l = 0) ∨ ∃ q, lo = some (.int q l)) :
    (Instr.sliceBounds b n c lo (some (.int q1 h)) (some (.int q2 h))).run P w = .ok (l.toNat, h.toNat, h.toNat) w := by
  unfold Instr.sliceBounds
  have e1 := fun w code => run_sliceBound (P := P) w q2 h c code h1.1 h1.2
  have e3 := fun w code => run_sliceBound (P := P) w q1 h h.toNat code h1.1 (by omega)
  rcases hl with ⟨rfl, rfl⟩ | ⟨q', rfl⟩
  · simp [e1, e3]
  · have e2 := fun w code => run_sliceBound (P := P) w q' l h.toNat code h2.1 (by omega)
    simp [e1, e2, e3]
/-- A slice of a row whose elements may change: the row, the size, its length then, where, how many, whether full. -/
def viewR : AV → (Nat → Nat → Nat → Nat → Nat → Bool → Prop) → Prop
  | .rw k s n, c => c k s n 0 n false
  | .mw k s q eo n f, c => c k s q eo n f
  | _, _ => False
theorem viewR_sound {x : AV} {K : Nat → Nat → Nat → Nat → Nat → Bool → Prop} (h : viewR x K) : ∃ k s q eo n f, K k s q eo n f ∧ ∀ S m v, CV S x m v → CV S (.mw k s q eo n f) m v := by
  cases x <;> simp only [viewR] at h
  case rw k s n =>
    refine ⟨k, s, n, 0, n, false, h, fun S m v hv => ?_⟩
    simp only [CV] at hv ⊢
    obtain ⟨⟨A, c, e, h1, h2, h3, h4⟩, A1, q1, c1, h5, h6, h7⟩ := hv
    refine ⟨A, c, e, h1, h2, h3, fun a ha => (by obtain ⟨g, e⟩ := h4 a ha; rw [e]), (fun e => by cases e), A1, q1, c1, h5, h6, fun hq hc => ?_⟩
    have hv' := h7 hq
    rw [e] at hv'
    injection hv' with e1 _ _
    subst e1
    cases A with
    | none => exact absurd (h3 rfl) hc
    | some a =>
      obtain ⟨g, e⟩ := h4 a rfl
      subst e
      exact ⟨g, rfl, by simp⟩
  case mw k s q eo n f => exact ⟨k, s, q, eo, n, f, h, fun S m v hv => hv⟩
def isRow : AV → Bool
  | .rw _ _ _ => true
  | .mw _ _ _ _ _ _ => true
  | _ => false
def asli (P : Program) (t : TypeId) (x : AV) (lo hi mx : Option AV) (K : AV → Prop) : Prop :=
  match P.underlying t with
  | some .string => (match x, mx with
    | .str s, none => optK hi s.size fun h => chk (0 ≤ h ∧ h ≤ s.size) (optK lo 0 fun l => chk (0 ≤ l ∧ l ≤ h) (K (.str (s.extract l.toNat h.toNat))))
    | _, _ => False)
  | some (.slice e) => (match P.info? e, isRow x with
    | some i, true => viewR x fun k s q eo n f => cond (Nat.beq i.size s)
      (match mx with
       | none => optK hi n fun h => chk (0 ≤ h ∧ h ≤ n) (optK lo 0 fun l => chk (0 ≤ l ∧ l ≤ h) (K (.mw k s q (eo + l.toNat) (h.toNat - l.toNat) (f && hi.isNone))))
       | some mv => intK mv fun mm => optK hi (-1) fun h => chk (h = mm) (chk (0 ≤ h ∧ h ≤ n) (optK lo 0 fun l => chk (0 ≤ l ∧ l ≤ h) (K (.mw k s q (eo + l.toNat) (h.toNat - l.toNat) true))))) False
    | some i, false => viewS x fun s f xs => cond (Nat.beq i.size s)
      (match mx with
       | none => optK hi xs.length fun h => chk (0 ≤ h ∧ h ≤ xs.length) (optK lo 0 fun l => chk (0 ≤ l ∧ l ≤ h) (K (.sl s (f && hi.isNone) ((xs.take h.toNat).drop l.toNat))))
       | some mv => intK mv fun mm => optK hi (-1) fun h => chk (h = mm) (chk (0 ≤ h ∧ h ≤ xs.length) (optK lo 0 fun l => chk (0 ≤ l ∧ l ≤ h) (K (.sl s true ((xs.take h.toNat).drop l.toNat)))))) False
    | none, _ => False)
  | some (.array n e) => (match x, mx, P.info? e with
    | .ptr k off, none, some i => cond (Nat.ble n 9223372036854775807) (optK hi n fun h => chk (0 ≤ h ∧ h ≤ n) (optK lo 0 fun l => chk (0 ≤ l ∧ l ≤ h) (K (.ms k (off + l.toNat * i.size) (h.toNat - l.toNat) (n - l.toNat) i.size)))) False
    | _, _, _ => False)
  | _ => False
theorem opt_cases {a : Option AV} {v : Option Value} {S : Pin} {m : Nm} {i d : Int} (hv : ∀ y, a = some y → ∃ u, v = some u ∧ CV S y m u) (hn : a = none → v = none) (h1 : a = none → i = d)
    (h2 : ∀ y, a = some y → ∀ S m v, CV S y m v → ∃ q, v = .int q i) : (v = none ∧ i = d) ∨ ∃ q, v = some (.int q i) := by
  cases a with
  | none => exact .inl ⟨hn rfl, h1 rfl⟩
  | some y =>
    obtain ⟨u, rfl, hu⟩ := hv y rfl
    obtain ⟨q, rfl⟩ := h2 y rfl S m u hu
    exact .inr ⟨q, rfl⟩
/-- Operands that may be left out. -/
def Opt (S : Pin) (m : Nm) (a : Option AV) (v : Option Value) : Prop := (∀ y, a = some y → ∃ u, v = some u ∧ CV S y m u) ∧ (a = none → v = none)
theorem asli_sound {P : Program} {t : TypeId} {x : AV} {lo hi mx : Option AV} {K : AV → Prop} (h : asli P t x lo hi mx K) :
    ∃ r, K r ∧ ∀ (S : Pin) (m : Nm) (w : World) (v : Value) (vl vh vm : Option Value), CV S x m v → Opt S m lo vl → Opt S m hi vh → Opt S m mx vm →
      ∃ z, (Instr.sliceAt t v vl vh vm).run P w = .ok z w ∧ CV S r m z := by
  unfold asli at h
  split at h
  · rename_i hd
    split at h
    · rename_i s
      obtain ⟨i, h, a1, a2⟩ := optK_sound h
      obtain ⟨hb, h⟩ := chk_iff.1 h
      obtain ⟨l, h, b1, b2⟩ := optK_sound h
      obtain ⟨hc, h⟩ := chk_iff.1 h
      refine ⟨_, h, fun S m w v vl vh vm hv ol oh om => ?_⟩
      simp only [CV] at hv
      obtain ⟨rfl, hs⟩ := hv
      have em : vm = none := om.2 rfl
      subst em
      have hl := opt_cases ol.1 ol.2 b1 b2
      have hh := opt_cases oh.1 oh.2 a1 a2
      refine ⟨.string (s.extract l.toNat i.toNat), ?_, ?_⟩
      · simp [Instr.sliceAt, Instr.slice, run_underlying hd, run_bounds w hb hc hl hh]
      · simp only [CV]
        refine ⟨trivial, ?_⟩
        simp only [ByteArray.size_extract]
        omega
    · exact h.elim
  · rename_i e hd
    split at h
    · rename_i inf hi' hrow
      obtain ⟨k, s, Q, eo, n, f, h0, hx⟩ := viewR_sound h
      clear h
      obtain ⟨hsz, h⟩ := cond_F h0
      clear h0
      have hsz := Nat.eq_of_beq_eq_true hsz
      have fin : ∀ (S : Pin) (m : Nm) (A : Option Addr) (c : Nat) (l i M : Int) (g : Bool), n ≤ c → c ≤ maxLen → (A = none → c = 0) → (∀ a, A = some a → a.spot = none) → (∃ A1 q1 c1, m k = some (.iface 0 (.slice A1 q1 c1)) ∧ Q ≤ q1 ∧ (Q = q1 → c ≠ 0 → ∃ g, A1 = some ⟨g, 0, none⟩ ∧ A = some ⟨g, eo * s, none⟩)) → 0 ≤ l ∧ l ≤ i → 0 ≤ i ∧ i ≤ n → i ≤ M ∧ M ≤ c → (g = true → M = i) →
          CV S (.mw k s Q (eo + l.toNat) (i.toNat - l.toNat) g) m (.slice (if M.toNat = l.toNat then A else A.map (·.add (l.toNat * inf.size))) (i.toNat - l.toNat) (M.toNat - l.toNat)) := by
        intro S m A c l i M g hc1 hc2 hA hsp hE hl hi hM hg
        simp only [CV]
        obtain ⟨A1, q1, c1, hE1, hE2, hE3⟩ := hE
        refine ⟨_, _, rfl, by omega, by omega, fun e => ?_, fun a ha => ?_, (fun e => by rw [hg e]), A1, q1, c1, hE1, hE2, fun hq hc => ?_⟩
        · by_cases hm : M.toNat = l.toNat
          · omega
          · rw [if_neg hm] at e
            cases A with
            | none => have := hA rfl; omega
            | some a => cases e
        · by_cases hm : M.toNat = l.toNat
          · rw [if_pos hm] at ha; exact hsp a ha
          · rw [if_neg hm] at ha
            cases A with
            | none => cases ha
            | some a0 =>
              simp only [Option.map_some, Option.some.injEq] at ha
              subst ha
              unfold Addr.add
              split
              · exact hsp a0 rfl
              · rfl
        · rw [if_neg (by omega)]
          obtain ⟨g', h1, h2⟩ := hE3 hq (by omega)
          refine ⟨g', h1, ?_⟩
          rw [h2]
          simp only [Option.map_some, add_none]
          rw [hsz, Nat.add_mul]
      split at h
      · obtain ⟨i, h1, a1, a2⟩ := optK_sound h
        clear h
        obtain ⟨hb, h⟩ := chk_iff.1 h1
        clear h1
        obtain ⟨l, h1, b1, b2⟩ := optK_sound h
        clear h
        obtain ⟨hc, h⟩ := chk_iff.1 h1
        refine ⟨_, h, fun S m w v vl vh vm hv ol oh om => ?_⟩
        have hv' := hx S m v hv
        simp only [CV] at hv'
        obtain ⟨A, c, rfl, hc1, hc2, hA, hsp, hf, hE⟩ := hv'
        have em : vm = none := om.2 rfl
        subst em
        have hl := opt_cases ol.1 ol.2 b1 b2
        have hh := opt_cases oh.1 oh.2 a1 a2
        refine ⟨_, ?_, fin S m A c l i c (f && hi.isNone) hc1 hc2 hA hsp hE hc hb ⟨by omega, by omega⟩ (fun e => ?_)⟩
        · simp [Instr.sliceAt, Instr.slice, run_underlying hd, run_bounds (b := true) w (⟨hb.1, by omega⟩ : 0 ≤ i ∧ i ≤ c) hc hl hh, sizeOf, typeInfo, hi']
        · simp only [Bool.and_eq_true, Option.isNone_iff_eq_none] at e
          rw [hf e.1, a1 e.2]
      · obtain ⟨mm, h1, c2⟩ := intK_sound h
        clear h
        obtain ⟨i, h, a1, a2⟩ := optK_sound h1
        clear h1
        obtain ⟨hq, h1⟩ := chk_iff.1 h
        clear h
        obtain ⟨hb, h⟩ := chk_iff.1 h1
        clear h1
        obtain ⟨l, h1, b1, b2⟩ := optK_sound h
        clear h
        obtain ⟨hc, hK⟩ := chk_iff.1 h1
        subst hq
        refine ⟨_, hK, fun S m w v vl vh vm hv ol oh om => ?_⟩
        have hv' := hx S m v hv
        simp only [CV] at hv'
        obtain ⟨A, c, rfl, hc1, hc2, hA, hsp, hf, hE⟩ := hv'
        obtain ⟨u, rfl, hu⟩ := om.1 _ rfl
        obtain ⟨q2, rfl⟩ := c2 S m u hu
        have hl := opt_cases ol.1 ol.2 b1 b2
        have hh := opt_cases oh.1 oh.2 a1 a2
        rcases hh with ⟨rfl, e⟩ | ⟨q1, rfl⟩
        · omega
        · refine ⟨_, ?_, fin S m A c l i i true hc1 hc2 hA hsp hE hc hb ⟨by omega, by omega⟩ (fun e => rfl)⟩
          simp [Instr.sliceAt, Instr.slice, run_underlying hd, run_bounds3 (b := true) w (⟨hb.1, by omega⟩ : 0 ≤ i ∧ i ≤ c) hc hl, sizeOf, typeInfo, hi']
    · rename_i inf hi' hrow
      obtain ⟨s, f, xs, h, hx⟩ := viewS_sound h
      obtain ⟨hsz, h⟩ := cond_F h
      have hsz := Nat.eq_of_beq_eq_true hsz
      have fin : ∀ (S : Pin) (A : Option Addr) (c : Nat) (l i M : Int) (g : Bool), xs.length ≤ c → c ≤ maxLen → (A = none → c = 0) → (∀ a, A = some a → (c ≠ 0 → a.spot = none) ∧ CE S xs s a.block a.off) → 0 ≤ l ∧ l ≤ i → 0 ≤ i ∧ i ≤ xs.length → i ≤ M ∧ M ≤ c → (g = true → M = i) →
          ∀ m, CV S (.sl s g ((xs.take i.toNat).drop l.toNat)) m (.slice (if M.toNat = l.toNat then A else A.map (·.add (l.toNat * inf.size))) (i.toNat - l.toNat) (M.toNat - l.toNat)) := by
        intro S A c l i M g hc1 hc2 hA hE hl hi hM hg m
        have len : ((xs.take i.toNat).drop l.toNat).length = i.toNat - l.toNat := by simp; omega
        simp only [CV, len]
        refine ⟨_, _, rfl, by omega, by omega, fun e => by rw [hg e], fun e => ?_, fun a ha => ?_⟩
        · by_cases hm : M.toNat = l.toNat
          · omega
          · rw [if_neg hm] at e
            cases A with
            | none => have := hA rfl; omega
            | some a => cases e
        · by_cases hm : M.toNat = l.toNat
          · rw [if_pos hm] at ha
            have hnil : (xs.take i.toNat).drop l.toNat = [] := List.eq_nil_of_length_eq_zero (by omega)
            rw [hnil]
            exact ⟨fun h0 => absurd (by omega) h0, by simp only [CE]⟩
          · rw [if_neg hm] at ha
            cases A with
            | none => cases ha
            | some a0 =>
              simp only [Option.map_some, Option.some.injEq] at ha
              subst ha
              obtain ⟨h1, h2⟩ := hE a0 rfl
              have h1 := h1 (by omega)
              obtain ⟨b, o, sp⟩ := a0
              simp only at h1
              subst h1
              rw [add_none]
              exact ⟨fun _ => rfl, by rw [hsz]; exact (h2.take _).drop _⟩
      split at h
      · obtain ⟨i, h, a1, a2⟩ := optK_sound h
        obtain ⟨hb, h⟩ := chk_iff.1 h
        obtain ⟨l, h, b1, b2⟩ := optK_sound h
        obtain ⟨hc, h⟩ := chk_iff.1 h
        refine ⟨_, h, fun S m w v vl vh vm hv ol oh om => ?_⟩
        obtain ⟨A, c, rfl, hc1, hc2, hf, hA, hE⟩ := hx S m v hv
        have em : vm = none := om.2 rfl
        subst em
        have hl := opt_cases ol.1 ol.2 b1 b2
        have hh := opt_cases oh.1 oh.2 a1 a2
        refine ⟨_, ?_, fin S A c l i c (f && hi.isNone) hc1 hc2 hA hE hc hb ⟨by omega, by omega⟩ (fun e => ?_) m⟩
        · simp [Instr.sliceAt, Instr.slice, run_underlying hd, run_bounds (b := true) w (⟨hb.1, by omega⟩ : 0 ≤ i ∧ i ≤ c) hc hl hh, sizeOf, typeInfo, hi']
        · simp only [Bool.and_eq_true, Option.isNone_iff_eq_none] at e
          rw [hf e.1, a1 e.2]
      · rename_i mv
        obtain ⟨mm, h, c2⟩ := intK_sound h
        obtain ⟨i, h, a1, a2⟩ := optK_sound h
        obtain ⟨hq, h⟩ := chk_iff.1 h
        obtain ⟨hb, h⟩ := chk_iff.1 h
        obtain ⟨l, h, b1, b2⟩ := optK_sound h
        obtain ⟨hc, hK⟩ := chk_iff.1 h
        subst hq
        refine ⟨_, hK, fun S m w v vl vh vm hv ol oh om => ?_⟩
        obtain ⟨A, c, rfl, hc1, hc2, hf, hA, hE⟩ := hx S m v hv
        obtain ⟨u, rfl, hu⟩ := om.1 _ rfl
        obtain ⟨q2, rfl⟩ := c2 S m u hu
        have hl := opt_cases ol.1 ol.2 b1 b2
        have hh := opt_cases oh.1 oh.2 a1 a2
        rcases hh with ⟨rfl, e⟩ | ⟨q1, rfl⟩
        · omega
        · refine ⟨_, ?_, fin S A c l i i true hc1 hc2 hA hE hc hb ⟨by omega, by omega⟩ (fun e => rfl) m⟩
          simp [Instr.sliceAt, Instr.slice, run_underlying hd, run_bounds3 (b := true) w (⟨hb.1, by omega⟩ : 0 ≤ i ∧ i ≤ c) hc hl, sizeOf, typeInfo, hi']
    · exact h.elim
  · rename_i n e hd
    split at h
    · rename_i k off inf hi'
      obtain ⟨hn, h⟩ := cond_F h
      have hn := Nat.le_of_ble_eq_true hn
      obtain ⟨i, h, a1, a2⟩ := optK_sound h
      obtain ⟨hb, h⟩ := chk_iff.1 h
      obtain ⟨l, h, b1, b2⟩ := optK_sound h
      obtain ⟨hc, h⟩ := chk_iff.1 h
      refine ⟨_, h, fun S m w v vl vh vm hv ol oh om => ?_⟩
      simp only [CV] at hv
      obtain ⟨g, hm, rfl⟩ := hv
      have em : vm = none := om.2 rfl
      subst em
      have hl := opt_cases ol.1 ol.2 b1 b2
      have hh := opt_cases oh.1 oh.2 a1 a2
      refine ⟨.slice (some (if n = l.toNat then ⟨g, off, none⟩ else ⟨g, off + l.toNat * inf.size, none⟩)) (i.toNat - l.toNat) (n - l.toNat), ?_, ?_⟩
      · simp [Instr.sliceAt, run_underlying hd, Instr.sureAddr, run_bounds (b := false) w hb hc hl hh, sizeOf, typeInfo, hi', add_none]
      · simp only [CV]
        by_cases e : n = l.toNat
        · rw [if_pos e]
          exact ⟨g, off, hm, rfl, fun h => by omega, by omega, by unfold maxLen; omega⟩
        · rw [if_neg e]
          exact ⟨g, _, hm, rfl, fun _ => rfl, by omega, by unfold maxLen; omega⟩
    · exact h.elim
  · exact h.elim
end Go.Proofs.YthdfkiopppkfcaaDoor
