/- Names changed; contracts of functions that are handed the call's own blocks. -/
import Derived.Test.YthdfkiopppkfcaaDoorVt
namespace Go.Proofs.YthdfkiopppkfcaaDoor
open Go
open Go.RowKit (Below)
set_option linter.unusedVariables false
set_option linter.unusedSimpArgs false

mutual
/-- Other names, by f. -/
def rnA (f : Nat → Option Nat) : AV → (AV → Prop) → Prop
  | .rw j s n, k => match f j with | some i => k (.rw i s n) | none => False
  | .mw j s q eo n b, k => match f j with | some i => k (.mw i s q eo n b) | none => False
  | .prw j s q p fo, k => match f j with | some i => k (.prw i s q p fo) | none => False
  | .agg cs, k => rnL f cs fun l => k (.agg l)
  | .tup cs, k => rnL f cs fun l => k (.tup l)
  | .fn g cs, k => rnL f cs fun l => k (.fn g l)
  | .acc _ s ys, k => k (.sl s false ys)
  | .frz _ s n ys, k => chk (n = ys.length) (k (.sl s false ys))
  | .ptr j o, k => match f j with | some i => k (.ptr i o) | none => False
  | .mpv j, k => match f j with | some i => k (.mpv i) | none => False
  | .ms j o n c s, k => match f j with | some i => k (.ms i o n c s) | none => False
  | .int q n, k => k (.int q n)
  | .bool b, k => k (.bool b)
  | .str b, k => k (.str b)
  | .sl s b ys, k => k (.sl s b ys)
  | .nils, k => k .nils
  | .ro cs, k => k (.ro cs)
  | .nilp, k => k .nilp
  | .undef, k => k .undef
  | .dead, k => k .dead
def rnL (f : Nat → Option Nat) : List AV → (List AV → Prop) → Prop
  | [], k => k []
  | x :: xs, k => rnA f x fun y => rnL f xs fun l => k (y :: l)
end
/-- The names of m' are those of m, by f. -/
def Rn (f : Nat → Option Nat) (m m' : Nm) : Prop := ∀ i j, f i = some j → m' j = m i
mutual
theorem rnA_sound {f : Nat → Option Nat} : ∀ (x : AV) (k : AV → Prop), rnA f x k → ∃ y, k y ∧ ∀ S m m' v, Rn f m m' → CV S x m v → CV S y m' v
  | .rw j s n, k, h => by
    simp only [rnA] at h
    split at h
    · rename_i i hi
      refine ⟨_, h, fun S m m' v hf hv => ?_⟩
      simp only [CV] at hv ⊢
      rw [hf j i hi]; exact hv
    · exact h.elim
  | .mpv j, k, h => by
    simp only [rnA] at h
    split at h
    · rename_i i hi
      refine ⟨_, h, fun S m m' v hf hv => ?_⟩
      simp only [CV] at hv ⊢
      rw [hf j i hi]; exact hv
    · exact h.elim
  | .mw j s q eo n b, k, h => by
    simp only [rnA] at h
    split at h
    · rename_i i hi
      refine ⟨_, h, fun S m m' v hf hv => ?_⟩
      simp only [CV] at hv ⊢
      rw [hf j i hi]; exact hv
    · exact h.elim
  | .prw j s q p fo, k, h => by
    simp only [rnA] at h
    split at h
    · rename_i i hi
      refine ⟨_, h, fun S m m' v hf hv => ?_⟩
      simp only [CV] at hv ⊢
      rw [hf j i hi]; exact hv
    · exact h.elim
  | .ptr j o, k, h => by
    simp only [rnA] at h
    split at h
    · rename_i i hi
      refine ⟨_, h, fun S m m' v hf hv => ?_⟩
      simp only [CV] at hv ⊢
      rw [hf j i hi]; exact hv
    · exact h.elim
  | .ms j o n c s, k, h => by
    simp only [rnA] at h
    split at h
    · rename_i i hi
      refine ⟨_, h, fun S m m' v hf hv => ?_⟩
      simp only [CV] at hv ⊢
      rw [hf j i hi]; exact hv
    · exact h.elim
  | .agg cs, k, h => by
    simp only [rnA] at h
    obtain ⟨l, h1, h2⟩ := rnL_sound cs _ h
    refine ⟨_, h1, fun S m m' v hf hv => ?_⟩
    simp only [CV] at hv ⊢
    obtain ⟨us, e, hu⟩ := hv
    exact ⟨us, e, h2 S m m' _ hf hu⟩
  | .tup cs, k, h => by
    simp only [rnA] at h
    obtain ⟨l, h1, h2⟩ := rnL_sound cs _ h
    refine ⟨_, h1, fun S m m' v hf hv => ?_⟩
    simp only [CV] at hv ⊢
    obtain ⟨us, e, hu⟩ := hv
    exact ⟨us, e, h2 S m m' _ hf hu⟩
  | .fn g cs, k, h => by
    simp only [rnA] at h
    obtain ⟨l, h1, h2⟩ := rnL_sound cs _ h
    refine ⟨_, h1, fun S m m' v hf hv => ?_⟩
    simp only [CV] at hv ⊢
    obtain ⟨us, e, hu⟩ := hv
    exact ⟨us, e, h2 S m m' _ hf hu⟩
  | .acc j s ys, k, h => by
    simp only [rnA] at h
    refine ⟨_, h, fun S m m' v hf hv => ?_⟩
    simp only [CV] at hv ⊢
    obtain ⟨⟨A, c, e, h1, h2, h3, h4⟩, _⟩ := hv
    exact ⟨A, c, e, h1, h2, (fun q => by cases q), h3, h4⟩
  | .frz j s n ys, k, h => by
    simp only [rnA] at h
    obtain ⟨hn, h'⟩ := chk_iff.1 h
    refine ⟨_, h', fun S m m' v hf hv => ?_⟩
    simp only [CV] at hv ⊢
    obtain ⟨⟨A, c, e, h1, h2, h3, h4⟩, _⟩ := hv.2 hn
    exact ⟨A, c, e, h1, h2, (fun q => by cases q), h3, h4⟩
  | .int q n, k, h => by simp only [rnA] at h; exact ⟨_, h, fun S m m' v hf hv => by simp only [CV] at hv ⊢; exact hv⟩
  | .bool b, k, h => by simp only [rnA] at h; exact ⟨_, h, fun S m m' v hf hv => by simp only [CV] at hv ⊢; exact hv⟩
  | .str b, k, h => by simp only [rnA] at h; exact ⟨_, h, fun S m m' v hf hv => by simp only [CV] at hv ⊢; exact hv⟩
  | .sl s b ys, k, h => by simp only [rnA] at h; exact ⟨_, h, fun S m m' v hf hv => by simp only [CV] at hv ⊢; exact hv⟩
  | .nils, k, h => by simp only [rnA] at h; exact ⟨_, h, fun S m m' v hf hv => by simp only [CV] at hv ⊢; exact hv⟩
  | .ro cs, k, h => by simp only [rnA] at h; exact ⟨_, h, fun S m m' v hf hv => by simp only [CV] at hv ⊢; exact hv⟩
  | .nilp, k, h => by simp only [rnA] at h; exact ⟨_, h, fun S m m' v hf hv => by simp only [CV] at hv ⊢; exact hv⟩
  | .undef, k, h => by simp only [rnA] at h; exact ⟨_, h, fun S m m' v hf hv => by simp only [CV] at hv ⊢; exact hv⟩
  | .dead, k, h => by simp only [rnA] at h; exact ⟨_, h, fun S m m' v hf hv => by simp only [CV]⟩
theorem rnL_sound {f : Nat → Option Nat} : ∀ (xs : List AV) (k : List AV → Prop), rnL f xs k → ∃ l, k l ∧ ∀ S m m' vs, Rn f m m' → CVl S xs m vs → CVl S l m' vs
  | [], k, h => by
    simp only [rnL] at h
    exact ⟨_, h, fun S m m' vs hf hv => by simp only [CVl] at hv ⊢; exact hv⟩
  | x :: xs, k, h => by
    simp only [rnL] at h
    obtain ⟨y, h1, h2⟩ := rnA_sound x _ h
    obtain ⟨l, h3, h4⟩ := rnL_sound xs _ h1
    refine ⟨_, h3, fun S m m' vs hf hv => ?_⟩
    simp only [CVl] at hv ⊢
    obtain ⟨u, us, e, hu, hus⟩ := hv
    exact ⟨u, us, e, h2 S m m' u hf hu, h4 S m m' us hf hus⟩
end
def rnB (f : Nat → Option Nat) : Blk → (Blk → Prop) → Prop
  | .cells cs, k => rnL f cs fun l => k (.cells l)
  | .row e s xs, k => cond (Nat.blt e 2000000) (k (.row e s xs)) False
  | .tok e s n, k => k (.tok e s n)
  | .mp kt et l, k => k (.mp kt et l)
  | .gone, k => k .gone
theorem rnB_sound {f : Nat → Option Nat} (b : Blk) (k : Blk → Prop) (h : rnB f b k) : ∃ b', k b' ∧ ∀ S m m' w i j, Rn f m m' → f i = some j → Held S m w i b → Held S m' w j b' := by
  cases b with
  | cells cs =>
    simp only [rnB] at h
    obtain ⟨l, h1, h2⟩ := rnL_sound cs _ h
    refine ⟨_, h1, fun S m m' w i j hf hij hh => ?_⟩
    obtain ⟨g, arr, t, p1, p2, p3, p4⟩ := hh
    exact ⟨g, arr, t, by rw [hf i j hij]; exact p1, p2, h2 S m m' _ hf p3, p4⟩
  | row e s xs =>
    simp only [rnB] at h
    obtain ⟨hb, h⟩ := cond_F h
    have he : e < 2000000 := Nat.le_of_ble_eq_true hb
    refine ⟨_, h, fun S m m' w i j hf hij hh => ?_⟩
    obtain ⟨A, c, p1, p2⟩ := hh
    rw [rowNm_lo he] at p2
    exact ⟨A, c, by rw [hf i j hij]; exact p1, by rw [rowNm_lo he]; exact p2⟩
  | gone =>
    refine ⟨_, h, fun S m m' w i j hf hij hh => ?_⟩
    obtain ⟨u, p1, p2⟩ := hh
    exact ⟨u, by rw [hf i j hij]; exact p1, p2⟩
  | mp kt et l =>
    refine ⟨_, h, fun S m m' w i j hf hij hh => ?_⟩
    obtain ⟨g, D, p1, p2⟩ := hh
    exact ⟨g, D, by rw [hf i j hij]; exact p1, p2⟩
  | tok e s n =>
    refine ⟨_, h, fun S m m' w i j hf hij hh => ?_⟩
    obtain ⟨A, c, p1, p2⟩ := hh
    exact ⟨A, c, by rw [hf i j hij]; exact p1, p2⟩
def rnBs (f : Nat → Option Nat) : List Blk → (List Blk → Prop) → Prop
  | [], k => k []
  | b :: bs, k => rnB f b fun c => rnBs f bs fun l => k (c :: l)
theorem rnBs_sound {f : Nat → Option Nat} : ∀ (bs : List Blk) (k : List Blk → Prop), rnBs f bs k → ∃ cs, k cs ∧ cs.length = bs.length ∧ ∀ (q : Nat) (b c : Blk), bs[q]? = some b → cs[q]? = some c → ∀ S m m' w i j, Rn f m m' → f i = some j → Held S m w i b → Held S m' w j c
  | [], k, h => ⟨[], h, rfl, fun q b c e => by simp at e⟩
  | b :: bs, k, h => by
    simp only [rnBs] at h
    obtain ⟨c, h1, h2⟩ := rnB_sound b _ h
    obtain ⟨cs, h3, h4, h5⟩ := rnBs_sound bs _ h1
    refine ⟨_, h3, by simp [h4], fun q b' c' e1 e2 => ?_⟩
    cases q with
    | zero => simp at e1 e2; subst e1; subst e2; exact h2
    | succ q => simp at e1 e2; exact h5 q b' c' e1 e2
/-- The place of a name in a list. -/
def idx (k : Nat) : List Nat → Nat → Option Nat
  | [], _ => none
  | j :: l, i => cond (Nat.beq j k) (some i) (idx k l (i + 1))
theorem idx_get {k : Nat} : ∀ {l : List Nat} {i p : Nat}, idx k l i = some p → i ≤ p ∧ l[p - i]? = some k
  | [], _, _, h => by simp [idx] at h
  | j :: l, i, p, h => by
    simp only [idx] at h
    cases hj : Nat.beq j k with
    | true =>
      rw [hj] at h
      simp only [cond_true, Option.some.injEq] at h
      subst h
      have := Nat.eq_of_beq_eq_true hj
      subst this
      exact ⟨Nat.le_refl _, by simp⟩
    | false =>
      rw [hj] at h
      simp only [cond_false] at h
      obtain ⟨h1, h2⟩ := idx_get h
      refine ⟨by omega, ?_⟩
      rw [show p - i = (p - (i + 1)) + 1 by omega]; simpa using h2
mutual
def nmsA : AV → List Nat
  | .rw j _ _ => [j]
  | .mw j _ _ _ _ _ => [j]
  | .prw j _ _ _ _ => [j]
  | .ptr j _ => [j]
  | .ms j _ _ _ _ => [j]
  | .mpv j => [j]
  | .agg cs => nmsL cs
  | .tup cs => nmsL cs
  | .fn _ cs => nmsL cs
  | _ => []
def nmsL : List AV → List Nat
  | [] => []
  | x :: xs => nmsA x ++ nmsL xs
end
def dedup : List Nat → List Nat → List Nat
  | [], acc => acc
  | k :: l, acc => cond (inL k acc) (dedup l acc) (dedup l (acc ++ [k]))
theorem dedup_nodup : ∀ (l acc : List Nat), acc.Nodup → (dedup l acc).Nodup
  | [], acc, h => h
  | k :: l, acc, h => by
    simp only [dedup]
    cases hk : inL k acc with
    | true => exact dedup_nodup l acc h
    | false =>
      refine dedup_nodup l _ ?_
      rw [List.nodup_append]
      refine ⟨h, by simp, fun a ha b hb => ?_⟩
      simp at hb
      subst hb
      rintro rfl
      exact inL_mem hk ha
def nmsB : Blk → List Nat
  | .cells cs => nmsL cs
  | _ => []
/-- The names of some values, and of the blocks that they lead to. -/
def foot (h : Nat → Option Blk) : Nat → List Nat → List Nat
  | 0, ks => ks
  | n + 1, ks => foot h n (dedup (ks.flatMap fun k => match h k with | some b => nmsB b | none => []) ks)
theorem foot_nodup (h : Nat → Option Blk) : ∀ (n : Nat) (ks : List Nat), ks.Nodup → (foot h n ks).Nodup
  | 0, ks, hk => hk
  | n + 1, ks, hk => foot_nodup h n _ (dedup_nodup _ _ hk)
def blksOf (h : Nat → Option Blk) : List Nat → (List Blk → Prop) → Prop
  | [], k => k []
  | i :: is, k => match h i with | some b => blksOf h is fun l => k (b :: l) | none => False
theorem blksOf_sound {h : Nat → Option Blk} : ∀ (ks : List Nat) (k : List Blk → Prop), blksOf h ks k → ∃ bs, k bs ∧ bs.length = ks.length ∧ ∀ (q i : Nat), ks[q]? = some i → ∃ b, bs[q]? = some b ∧ h i = some b
  | [], k, H => ⟨[], H, rfl, fun q i e => by simp at e⟩
  | j :: is, k, H => by
    simp only [blksOf] at H
    split at H
    · rename_i b hb
      obtain ⟨bs, h1, h2, h3⟩ := blksOf_sound is _ H
      refine ⟨_, h1, by simp [h2], fun q i e => ?_⟩
      cases q with
      | zero => simp at e; subst e; exact ⟨b, rfl, hb⟩
      | succ q => simp at e; obtain ⟨c, hc, hd⟩ := h3 q i e; exact ⟨c, by simpa using hc, hd⟩
    · exact H.elim
end Go.Proofs.YthdfkiopppkfcaaDoor
