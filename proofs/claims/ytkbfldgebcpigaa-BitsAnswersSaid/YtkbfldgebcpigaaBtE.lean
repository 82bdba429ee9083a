/- Bits: Same, and the reference's At, Valid, All. -/
import Derived.Test.YtkbfldgebcpigaaBtD
namespace Go.Proofs.Ytkbfldgebcpigaa
open Go
set_option linter.unusedVariables false
set_option linter.unusedSimpArgs false

def rbat_s : Sp
  | [.agg [.sl 1 f ys, .int .i64 n], .int .i64 i] => some (BytP ys ∧ 0 ≤ i ∧ i < 8 * ys.length, .int .i64 (bitOf (bn ys) i.toNat))
  | _ => none
set_option maxRecDepth 100000 in
def rbat_T : Prop :=
  ∀ (gl : Glob) (f : Bool) (ys : List (List AV)) (n i : Int), BytP ys ∧ (0 : Int) ≤ i ∧ i < (8 : Int) * (↑ys.length : Int) → True ∧ ((-9223372036854775808 : Int) ≤ n ∧ n ≤
  (9223372036854775807 : Int)) ∧ True → (-9223372036854775808 : Int) ≤ i ∧ i ≤ (9223372036854775807 : Int) → bif decide (rng IntKind.i64 (i.tdiv (8 : Int))) then bif decide ((0 :
  Int) ≤ i.tdiv (8 : Int) ∧ i.tdiv (8 : Int) < (↑ys.length : Int)) then ∃ n, List.take [AV.int IntKind.u8 n].length (ys.getD (i.tdiv (8 : Int)).toNat []) = [AV.int IntKind.u8 n] ∧
  bif decide (rng IntKind.i64 ((7 : Int) - i.tmod (8 : Int))) then bif decide ((0 : Int) ≤ IntKind.u64.wrap ((7 : Int) - i.tmod (8 : Int))) then bits BinOp.and IntKind.i64 (n / (2 :
  Int) ^ min (IntKind.u64.wrap ((7 : Int) - i.tmod (8 : Int))).toNat (8 : Nat)) (1 : Int) = (↑(bitOf (bn ys) i.toNat) : Int) else False else False else False else False
set_option maxRecDepth 100000 in
theorem rbat_P : rbat_T := by
  unfold rbat_T
  intro gl f ys n i ⟨hb, h0, h1⟩ _ _
  have e1 : i.tdiv 8 = i / 8 := Int.tdiv_eq_ediv_of_nonneg h0
  have e2 : i.tmod 8 = i % 8 := Int.tmod_eq_emod_of_nonneg h0
  have hl := hb.fl
  rw [e1, e2]
  obtain ⟨a1, a2⟩ := bn_at hb (j := (i / 8).toNat) (by omega)
  have ew : IntKind.u64.wrap (7 - i % 8) = 7 - i % 8 := wrap_eq (by show _ ∧ _; omega)
  rw [ew]
  refine cdI (by omega) (cd1 (by omega) ⟨_, by rw [a1]; rfl, cdI (by omega) (cd1 (by omega) ?_)⟩)
  have e3 : min (7 - i % 8).toNat 8 = 7 - i.toNat % 8 := by omega
  rw [e3, shr_and _ (by omega) _ a2]
  unfold bitOf
  rw [show (i / 8).toNat = i.toNat / 8 by omega]
def rbat_S : Prop := ∀ (gl : Glob) (f : Bool) (ys : List (List AV)) (n i : Int), BytP ys ∧ 0 ≤ i ∧ i < 8 * ys.length → fnK Try.prog { glob := gl, spec := lk [], specH := lk [], shape := [8, 9, 10, 11], nowf := true } { nt := 18, drop := drp [(1, 262112)] } (fun _ _ => none) 6 Try.f14 [.agg [.sl 1 f ys, .int .i64 n], .int .i64 i] (.int .i64 (bitOf (bn ys) i.toNat))
set_option maxRecDepth 100000 in
theorem rbat_e : rbat_T = rbat_S := by kernel_rfl
theorem rbat_v : rbat_S := @Eq.mp (rbat_T) (rbat_S) (rbat_e) rbat_P
theorem rbat_ok (gl : Glob) : SOK Try.prog gl 14 rbat_s := by
  refine ⟨fok Try.func14 (by kernel_rfl) (by kernel_rfl), ?_⟩
  intro xs pre r h hp
  unfold rbat_s at h
  split at h
  · simp only [Option.some.injEq, Prod.mk.injEq] at h
    obtain ⟨h1, h2⟩ := h
    subst h1 h2
    exact fnK_sound tyNil (by exact specOK rfl rfl trivial trivial) (by kernel_rfl) Try.func14 rfl (rbat_v gl _ _ _ _ hp)
  · cases h
theorem hi_zero : ∀ f, f < 8 → ∀ z, z < 256 → (∀ t, t < f → z / 2 ^ t % 2 = 0) → z % 2 ^ f = 0 := by decide +kernel
theorem vd_bits {ys : List (List AV)} (hb : BytP ys) {n : Int} (h0 : 0 ≤ n) (h1 : n ≤ 40000) (h2 : (ys.length : Int) = (n + 7) / 8) : validB (bn ys) n = true ↔ ∀ k : Nat, n ≤ k → (k : Int) < 8 * ys.length → bitOf (bn ys) k = 0 := by
  rw [validB_iff, bn_len]
  constructor
  · rintro ⟨_, _, _, hz⟩ k k0 k1
    unfold bitOf
    rw [show k / 8 = ys.length - 1 by omega]
    exact low_zero _ _ _ hz (by omega)
  · intro h
    refine ⟨h0, h1, h2, ?_⟩
    by_cases hl : ys.length = 0
    · rw [show (8 * (ys.length : Int) - n).toNat = 0 by omega, Nat.pow_zero, Nat.mod_one]
    · refine hi_zero _ (by omega) _ (bn_bytes hb _) fun t ht => ?_
      have := h (8 * ys.length - 1 - t) (by omega) (by omega)
      unfold bitOf at this
      rw [show (8 * ys.length - 1 - t) / 8 = ys.length - 1 by omega, show 7 - (8 * ys.length - 1 - t) % 8 = t by omega] at this
      exact this
structure RvP (ys : List (List AV)) (n i : Int) : Prop where
  flo : n ≤ i
  fhi : i ≤ 8 * ys.length
  fz : ∀ k : Nat, n ≤ k → (k : Int) < i → bitOf (bn ys) k = 0
def rvI (f : Bool) (ys : List (List AV)) (n : Int) : LInv := ⟨Int, fun i => ⟨[(1, .ptr 1 0), (3, .int .i64 i)], [(1, .cells [.sl 1 f ys, .int .i64 n])]⟩, RvP ys n, fun i => (8 * ys.length - i).toNat, none⟩
def rbvalid_s : Sp
  | [.agg [.sl 1 f ys, .int .i64 n]] => some (BytP ys, .bool (validB (bn ys) n))
  | _ => none
set_option maxRecDepth 100000 in
def rbvalid_T : Prop :=
  ∀ (gl : Glob) (f : Bool) (ys : List (List AV)) (n : Int), BytP ys → True ∧ ((-9223372036854775808 : Int) ≤ n ∧ n ≤ (9223372036854775807 : Int)) ∧ True → bif decide (n < (0 : Int))
  then false = validB (bn ys) n else bif decide ((40000 : Int) < n) then false = validB (bn ys) n else bif decide (rng IntKind.i64 (n + (7 : Int))) then bif decide (rng IntKind.i64
  ((n + (7 : Int)).tdiv (8 : Int))) then bif decide ¬(↑ys.length : Int) = (n + (7 : Int)).tdiv (8 : Int) then false = validB (bn ys) n else (∃ x, RvP ys n x ∧ ((0 : Nat) = (0 : Nat)
  ∧ n = x ∧ True) ∧ (((bif f then f = true else True) ∧ ys = ys) ∧ n = n ∧ True) ∧ True) ∧ ∀ (x : Int), RvP ys n x → bif decide (rng IntKind.i64 ((8 : Int) * (↑ys.length : Int)))
  then bif decide (x < (8 : Int) * (↑ys.length : Int)) then (BytP ys ∧ (0 : Int) ≤ x ∧ x < (8 : Int) * (↑ys.length : Int)) ∧ bif decide ¬(↑(bitOf (bn ys) x.toNat) : Int) = (0 : Int)
  then false = validB (bn ys) n else bif decide (rng IntKind.i64 (x + (1 : Int))) then ∃ y, RvP ys n y ∧ (rvI f ys n).m y < (rvI f ys n).m x ∧ ((0 : Nat) = (0 : Nat) ∧ x + (1 : Int)
  = y ∧ True) ∧ (((bif f then f = true else True) ∧ ys = ys) ∧ n = n ∧ True) ∧ True else False else true = validB (bn ys) n else False else False else False
set_option maxRecDepth 100000 in
theorem rbvalid_P : rbvalid_T := by
  unfold rbvalid_T
  intro gl f ys n hb _
  have bf : cond f (f = true) True := by cases f <;> trivial
  have hl := hb.fl
  have hbl := bn_len ys
  refine cs (fun h => ?_) (fun h0 => cs (fun h => ?_) (fun h1 => ?_))
  · unfold validB; rw [decide_eq_false (by omega)]; rfl
  · unfold validB; rw [decide_eq_false (show ¬ n ≤ 40000 by omega), Bool.and_false]; rfl
  have e1 : (n + 7).tdiv 8 = (n + 7) / 8 := Int.tdiv_eq_ediv_of_nonneg (by omega)
  rw [e1]
  refine cdI (by omega) (cdI (by omega) (cs (fun h => ?_) (fun h2 => ⟨⟨n, ⟨by omega, by omega, fun k k0 k1 => by omega⟩, ⟨rfl, rfl, trivial⟩, ⟨⟨bf, rfl⟩, rfl, trivial⟩, trivial⟩, ?_⟩)))
  · unfold validB; rw [hbl, decide_eq_false h, Bool.and_false]; rfl
  have h2 := Decidable.not_not.1 h2
  have key := vd_bits hb (by omega) (by omega) h2
  rintro i ⟨i0, i1, hz⟩
  refine cdI (by omega) (cs (fun hi => ⟨⟨hb, by omega, hi⟩, cs (fun q => ?_) (fun q => ?_)⟩) (fun hi => ?_))
  · cases hv : validB (bn ys) n with
    | false => rfl
    | true => exact absurd (by rw [key.1 hv i.toNat (by omega) (by omega)]; rfl) q
  · refine cdI (by omega) ⟨i + 1, ⟨by omega, by omega, fun k k0 k1 => ?_⟩, by simp only [rvI]; omega, ⟨rfl, rfl, trivial⟩, ⟨⟨bf, rfl⟩, rfl, trivial⟩, trivial⟩
    rcases Nat.lt_or_ge k i.toNat with h | h
    · exact hz k k0 (by omega)
    · rw [show k = i.toNat by omega]; have q := Decidable.not_not.1 q; omega
  · exact (key.2 fun k k0 k1 => hz k k0 (by omega)).symm
def rbvalid_S : Prop := ∀ (gl : Glob) (f : Bool) (ys : List (List AV)) (n : Int), BytP ys → fnK Try.prog { glob := gl, spec := lk [(14, rbat_s)], specH := lk [], nowf := true } { nt := 36, drop := drp [(1, 2097136), (3, 12582912), (4, 520093696), (5, 3221225472), (6, 30064771072)] } (invs [(4, rvI f ys n)]) 6 Try.f12 [.agg [.sl 1 f ys, .int .i64 n]] (.bool (validB (bn ys) n))
set_option maxRecDepth 100000 in
theorem rbvalid_e : rbvalid_T = rbvalid_S := by kernel_rfl
theorem rbvalid_v : rbvalid_S := @Eq.mp (rbvalid_T) (rbvalid_S) (rbvalid_e) rbvalid_P
theorem rbvalid_ok (gl : Glob) : SOK Try.prog gl 12 rbvalid_s := by
  refine ⟨fok Try.func12 (by kernel_rfl) (by kernel_rfl), ?_⟩
  intro xs pre r h hp
  unfold rbvalid_s at h
  split at h
  · simp only [Option.some.injEq, Prod.mk.injEq] at h
    obtain ⟨h1, h2⟩ := h
    subst h1 h2
    exact fnK_sound tyNil (by exact specOK rfl rfl ⟨(rbat_ok gl), trivial⟩ trivial) (by kernel_rfl) Try.func12 rfl (rbvalid_v gl _ _ _ hp)
  · cases h
def ir (l : List Nat) : List (List AV) := l.map fun n : Nat => [.int .i64 (n : Int)]
structure RaP (ys : List (List AV)) (n : Int) (x : Int × List (List AV)) : Prop where
  flo : 0 ≤ x.1
  fhi : x.1 ≤ n
  fz : x.2 = ir (unpack (bn ys) x.1.toNat)
def raI (f : Bool) (ys : List (List AV)) (n : Int) : LInv := ⟨Int × List (List AV), fun x => ⟨[(1, .ptr 1001 0), (3, .rw 1500 1 x.2.length), (4, .int .i64 x.1)], [(1001, .cells [.sl 1 f ys, .int .i64 n]), (1500, .row 3 1 x.2)]⟩, RaP ys n, fun x => (n - x.1).toNat, none⟩
def rball_s : SpH
  | [.agg [.sl 1 f ys, .int .i64 n]], [] => some (BytP ys ∧ validB (bn ys) n = true, .rw 0 1 (ir (ub ys n)).length, [.row 3 1 (ir (ub ys n))])
  | _, _ => none
set_option maxRecDepth 100000 in
def rball_T : Prop :=
  ∀ (gl : Glob) (f : Bool) (ys : List (List AV)) (n : Int), BytP ys ∧ validB (bn ys) n = true → True ∧ ((-9223372036854775808 : Int) ≤ n ∧ n ≤ (9223372036854775807 : Int)) ∧ True →
  (∃ x, RaP ys n x ∧ ((0 : Nat) = (0 : Nat) ∧ (0 : Nat) = x.snd.length ∧ (0 : Int) = x.fst ∧ True) ∧ (((bif f then f = true else True) ∧ ys = ys) ∧ n = n ∧ True) ∧ [] = x.snd ∧ True)
  ∧ ∀ (x : Int × List (List AV)), RaP ys n x → bif decide (x.fst < n) then (BytP ys ∧ (0 : Int) ≤ x.fst ∧ x.fst < (8 : Int) * (↑ys.length : Int)) ∧ bif decide (x.snd.length =
  x.snd.length ∧ x.snd.length + [[AV.int IntKind.i64 (↑(bitOf (bn ys) x.fst.toNat) : Int)]].length ≤ (9223372036854775807 : Nat) ∧ (x.snd.length + [[AV.int IntKind.i64 (↑(bitOf (bn
  ys) x.fst.toNat) : Int)]].length) * (8 : Nat) ≤ (140737488355328 : Nat)) then bif decide (rng IntKind.i64 (x.fst + (1 : Int))) then ∃ y, RaP ys n y ∧ (raI f ys n).m y < (raI f ys
  n).m x ∧ ((0 : Nat) = (0 : Nat) ∧ (x.snd ++ [[AV.int IntKind.i64 (↑(bitOf (bn ys) x.fst.toNat) : Int)]]).length = y.snd.length ∧ x.fst + (1 : Int) = y.fst ∧ True) ∧ (((bif f then f
  = true else True) ∧ ys = ys) ∧ n = n ∧ True) ∧ x.snd ++ [[AV.int IntKind.i64 (↑(bitOf (bn ys) x.fst.toNat) : Int)]] = y.snd ∧ True else False else False else x.snd.length = (ir (ub
  ys n)).length ∧ x.snd = ir (ub ys n) ∧ True
set_option maxRecDepth 100000 in
theorem rball_P : rball_T := by
  unfold rball_T
  intro gl f ys n ⟨hb, hv⟩ _
  have bf : cond f (f = true) True := by cases f <;> trivial
  have hvb := validB_iff.1 hv
  rw [bn_len] at hvb
  refine ⟨⟨(0, []), ⟨by simp, by simp only; omega, rfl⟩, ⟨rfl, rfl, rfl, trivial⟩, ⟨⟨bf, rfl⟩, rfl, trivial⟩, rfl, trivial⟩, ?_⟩
  rintro ⟨i, zs⟩ ⟨i0, i1, hz⟩
  simp only at i0 i1 hz
  dsimp only
  have zl : zs.length = i.toNat := by rw [hz]; simp [ir, unpack]
  refine cs (fun hi => ⟨⟨hb, i0, by omega⟩, cd1 ⟨rfl, by simp; omega, by simp; omega⟩ (cdI (by omega) ⟨(i + 1, _), ⟨by simp only; omega, by simp only; omega, ?_⟩, by simp only [raI]; omega, ⟨rfl, rfl, rfl, trivial⟩, ⟨⟨bf, rfl⟩, rfl, trivial⟩, rfl, trivial⟩)⟩) (fun hi => ?_)
  · simp only
    rw [show (i + 1).toNat = i.toNat + 1 by omega, unpack_succ, hz]
    simp [ir]
  · have e : zs = ir (ub ys n) := by rw [hz, show i = n by omega]; rfl
    rw [e]; exact ⟨rfl, rfl, trivial⟩
def rball_S : Prop := ∀ (gl : Glob) (f : Bool) (ys : List (List AV)) (n : Int), BytP ys ∧ validB (bn ys) n = true → fnH Try.prog { glob := gl, spec := lk [(14, rbat_s)], specH := lk [], nowf := true } { nt := 18, drop := drp [(3, 224), (4, 1536), (5, 129024), (6, 131072)], fr := 1000, kp := [], emp := fun id => cond (Nat.beq id 2) [(3, 1500, 3, 1)] [], own := true } (invs [(3, raI f ys n)]) 6 Try.f35 [.agg [.sl 1 f ys, .int .i64 n]] [] (.rw 0 1 (ir (ub ys n)).length) [.row 3 1 (ir (ub ys n))]
set_option maxRecDepth 100000 in
theorem rball_e : rball_T = rball_S := by kernel_rfl
theorem rball_v : rball_S := @Eq.mp (rball_T) (rball_S) (rball_e) rball_P
theorem rball_ok (gl : Glob) : HOK Try.prog gl 35 rball_s := by
  refine ⟨fok Try.func35 (by kernel_rfl) (by kernel_rfl), ?_⟩
  intro xs bs pre r bs2 h hp
  unfold rball_s at h
  split at h
  · simp only [Option.some.injEq, Prod.mk.injEq] at h
    obtain ⟨h1, h2, h3⟩ := h
    subst h1 h2 h3
    exact fnH_sound tyNil (by exact specOK rfl rfl ⟨(rbat_ok gl), trivial⟩ trivial) (by kernel_rfl) Try.func35 (rball_v gl _ _ _ hp)
  · cases h
end Go.Proofs.Ytkbfldgebcpigaa
