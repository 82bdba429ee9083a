/- Scores: fractions and summaries, the program's functions and the reference's. -/
import Derived.Test.YtjllgdpnbllnjaaSfA
namespace Go.Proofs.Ytjllgdpnbllnjaa
open Go
set_option linter.unusedVariables false
set_option linter.unusedSimpArgs false

def P60 : Int := 1152921504606846976
def gcdI (a b : Int) : Int := (Nat.gcd a.natAbs b.natAbs : Int)
def rdB (n d : Int) : Bool := decide (¬ d = 0 ∧ (-1152921504606846976 ≤ n ∧ n ≤ 1152921504606846976) ∧ -1152921504606846976 ≤ d ∧ d ≤ 1152921504606846976)
def nF (n d : Int) : Int := if d < 0 then 0 - n else n
def dF (d : Int) : Int := if d < 0 then 0 - d else d
def rdN (n d : Int) : Int := if rdB n d then (nF n d).tdiv (gcdI n d) else 0
def rdD (n d : Int) : Int := if rdB n d then (dF d).tdiv (gcdI n d) else 0
def rdE (n d : Int) : Int := if rdB n d then 0 else 1
structure RedI (n d : Int) (x : Int × Int) : Prop where
  a : 0 ≤ x.1 ∧ x.1 ≤ 1152921504606846976
  b : 0 ≤ x.2 ∧ x.2 ≤ 1152921504606846976
  g : gcdI x.1 x.2 = gcdI n d
def redI (n d : Int) : LInv := ⟨Int × Int, fun x => ⟨[(0, .int .i64 (nF n d)), (1, .int .i64 (dF d)), (4, .ptr 4 0), (6, .int .i64 x.1), (7, .int .i64 x.2)], [(4, .cells [.int .i64 0, .int .i64 0])]⟩, RedI n d, fun x => x.2.toNat, none⟩
theorem gcd_step {a b : Int} : gcdI b (a.tmod b) = gcdI a b := by
  unfold gcdI
  rw [Int.natAbs_tmod, Nat.gcd_comm b.natAbs, ← Nat.gcd_rec, Nat.gcd_comm]
theorem gcd_zero {a : Int} (h : 0 ≤ a) : gcdI a 0 = a := by
  unfold gcdI
  rw [Int.natAbs_zero, Nat.gcd_zero_right]; omega
theorem gcd_pos {a b : Int} (h : ¬ b = 0) : 0 < gcdI a b := by
  unfold gcdI
  have := Nat.gcd_pos_of_pos_right a.natAbs (show 0 < b.natAbs by omega)
  omega
theorem tdv2 (a b : Int) : (a.tdiv b).natAbs ≤ a.natAbs := by rw [Int.natAbs_tdiv]; exact Nat.div_le_self _ _
theorem rdB_iff {n d : Int} : rdB n d = true ↔ ¬ d = 0 ∧ (-1152921504606846976 ≤ n ∧ n ≤ 1152921504606846976) ∧ -1152921504606846976 ≤ d ∧ d ≤ 1152921504606846976 := by unfold rdB; simp
theorem rd_no {n d : Int} (h : rdB n d = false) : (0 = rdN n d ∧ 0 = rdD n d ∧ True) ∧ 1 = rdE n d ∧ True := by
  unfold rdN rdD rdE; rw [h]; exact ⟨⟨rfl, rfl, trivial⟩, rfl, trivial⟩
theorem red_tail {n d : Int} (hb : rdB n d = true) (x : Int × Int) (hx : RedI n d x) : cond (decide ¬x.snd = 0) (cond (decide ¬x.snd = 0) (∃ y, RedI n d y ∧ (redI n d).m y < (redI n d).m x ∧ (nF n d = nF n d ∧ dF d = dF d ∧ (0 : Nat) = 0 ∧ x.snd = y.fst ∧ x.fst.tmod x.snd = y.snd ∧ True) ∧ ((0 : Int) = 0 ∧ (0 : Int) = 0 ∧ True) ∧ True) False)
    (cond (decide ¬x.fst = 0) (cond (decide (rng .i64 ((nF n d).tdiv x.fst))) (cond (decide ¬x.fst = 0) (cond (decide (rng .i64 ((dF d).tdiv x.fst))) (((nF n d).tdiv x.fst = rdN n d ∧ (dF d).tdiv x.fst = rdD n d ∧ True) ∧ 0 = rdE n d ∧ True) False) False) False) False) := by
  obtain ⟨a, b⟩ := x
  obtain ⟨⟨a0, a1⟩, ⟨b0, b1⟩, hg⟩ := hx
  obtain ⟨h0, h1, h2⟩ := rdB_iff.1 hb
  dsimp only at a0 a1 b0 b1 hg ⊢
  refine cs (fun hn => cs (fun _ => ?_) (fun k => absurd hn k)) (fun hn => ?_)
  · have e : a.tmod b = a % b := Int.tmod_eq_emod_of_nonneg a0
    have r0 := Int.emod_nonneg a hn
    have r1 := Int.emod_lt_of_pos a (show 0 < b by omega)
    refine ⟨(b, a.tmod b), ⟨⟨b0, b1⟩, by dsimp only; omega, ?_⟩, by simp only [redI]; omega, ⟨rfl, rfl, rfl, rfl, rfl, trivial⟩, ⟨rfl, rfl, trivial⟩, trivial⟩
    exact gcd_step.trans hg
  · have hb0 : b = 0 := Decidable.not_not.1 hn
    subst hb0
    rw [gcd_zero a0] at hg
    have hp := gcd_pos (a := n) h0
    have t1 := tdv2 (nF n d) a
    have t2 := tdv2 (dF d) a
    have n1 : -1152921504606846976 ≤ nF n d ∧ nF n d ≤ 1152921504606846976 := by unfold nF; split <;> omega
    have d1 : -1152921504606846976 ≤ dF d ∧ dF d ≤ 1152921504606846976 := by unfold dF; split <;> omega
    refine cs (fun _ => cdI (by omega) (cs (fun _ => cdI (by omega) ?_) (fun k => absurd (show ¬ a = 0 by omega) k))) (fun k => absurd (show ¬ a = 0 by omega) k)
    unfold rdN rdD rdE
    rw [hb, hg]
    exact ⟨⟨rfl, rfl, trivial⟩, rfl, trivial⟩
theorem red_ini {n d : Int} (hb : rdB n d = true) : RedI n d (max (nF n d) (0 - nF n d), dF d) := by
  obtain ⟨h0, h1, h2⟩ := rdB_iff.1 hb
  refine ⟨?_, ?_, ?_⟩
  · dsimp only; unfold nF; split <;> omega
  · dsimp only; unfold dF; split <;> omega
  · unfold gcdI
    have e1 : (max (nF n d) (0 - nF n d)).natAbs = n.natAbs := by unfold nF; split <;> omega
    have e2 : (dF d).natAbs = d.natAbs := by unfold dF; split <;> omega
    dsimp only
    rw [e1, e2]
def swithin_s : Sp
  | [.int .i64 n, .int .i64 lo, .int .i64 hi] => some (True, .bool (decide (lo ≤ n ∧ n ≤ hi)))
  | _ => none
set_option maxRecDepth 100000 in
def swithin_T : Prop :=
  ∀ (gl : Glob) (n lo hi : Int), (-9223372036854775808 : Int) ≤ n ∧ n ≤ (9223372036854775807 : Int) → (-9223372036854775808 : Int) ≤ lo ∧ lo ≤ (9223372036854775807 : Int) →
  (-9223372036854775808 : Int) ≤ hi ∧ hi ≤ (9223372036854775807 : Int) → bif decide (lo ≤ n) then decide (n ≤ hi) = decide (lo ≤ n ∧ n ≤ hi) else false = decide (lo ≤ n ∧ n ≤ hi)
set_option maxRecDepth 100000 in
theorem swithin_P : swithin_T := by
  unfold swithin_T
  intro gl n lo hi _ _ _
  refine cs (fun h => decide_eq_decide.2 ⟨fun k => ⟨h, k⟩, fun k => k.2⟩) (fun h => (decide_eq_false (fun k => h k.1)).symm)
def swithin_S : Prop := ∀ (gl : Glob) (n lo hi : Int), fnK Try.prog { glob := gl, spec := lk [], specH := lk [], nowf := true } { nt := 15, drop := drp [(1, 32640)] } (fun _ _ => none) 6 Try.f46 [.int .i64 n, .int .i64 lo, .int .i64 hi] (.bool (decide (lo ≤ n ∧ n ≤ hi)))
set_option maxRecDepth 100000 in
theorem swithin_e : swithin_T = swithin_S := by kernel_rfl
theorem swithin_v : swithin_S := @Eq.mp (swithin_T) (swithin_S) (swithin_e) swithin_P
theorem swithin_ok (gl : Glob) : SOK Try.prog gl 46 swithin_s := by
  refine ⟨fok Try.func46 (by kernel_rfl) (by kernel_rfl), ?_⟩
  intro xs pre r h hp
  unfold swithin_s at h
  split at h
  · simp only [Option.some.injEq, Prod.mk.injEq] at h
    obtain ⟨h1, h2⟩ := h
    subst h1 h2
    exact fnK_sound tyNil (by exact specOK rfl rfl trivial trivial) (by kernel_rfl) Try.func46 rfl (swithin_v gl _ _ _)
  · cases h
def sred_s (rdN : Int → Int → Int) (rdD : Int → Int → Int) (rdE : Int → Int → Int) : Sp
  | [.int .i64 n, .int .i64 d] => some (True, .tup [.agg [.int .i64 (rdN n d), .int .i64 (rdD n d)], .int .i64 (rdE n d)])
  | _ => none
set_option maxRecDepth 100000 in
def sred_T (rdN : Int → Int → Int) (rdD : Int → Int → Int) (rdE : Int → Int → Int) : Prop :=
  ∀ (gl : Glob) (n d : Int), (-9223372036854775808 : Int) ≤ n ∧ n ≤ (9223372036854775807 : Int) → (-9223372036854775808 : Int) ≤ d ∧ d ≤ (9223372036854775807 : Int) → bif decide (d =
  (0 : Int)) then ((0 : Int) = rdN n d ∧ (0 : Int) = rdD n d ∧ True) ∧ (1 : Int) = rdE n d ∧ True else True ∧ bif !decide ((-1152921504606846976 : Int) ≤ n ∧ n ≤ (1152921504606846976
  : Int)) then ((0 : Int) = rdN n d ∧ (0 : Int) = rdD n d ∧ True) ∧ (1 : Int) = rdE n d ∧ True else True ∧ bif !decide ((-1152921504606846976 : Int) ≤ d ∧ d ≤ (1152921504606846976 :
  Int)) then ((0 : Int) = rdN n d ∧ (0 : Int) = rdD n d ∧ True) ∧ (1 : Int) = rdE n d ∧ True else bif decide (d < (0 : Int)) then bif decide (rng IntKind.i64 ((0 : Int) - n)) then
  bif decide (rng IntKind.i64 ((0 : Int) - d)) then bif decide (rng IntKind.i64 ((0 : Int) - ((0 : Int) - n))) then (∃ x, RedI n d x ∧ ((0 : Int) - n = nF n d ∧ (0 : Int) - d = dF d
  ∧ (0 : Nat) = (0 : Nat) ∧ max ((0 : Int) - n) ((0 : Int) - ((0 : Int) - n)) = x.fst ∧ (0 : Int) - d = x.snd ∧ True) ∧ ((0 : Int) = (0 : Int) ∧ (0 : Int) = (0 : Int) ∧ True) ∧ True)
  ∧ ∀ (x : Int × Int), RedI n d x → bif decide ¬x.snd = (0 : Int) then bif decide ¬x.snd = (0 : Int) then ∃ y, RedI n d y ∧ (redI n d).m y < (redI n d).m x ∧ (nF n d = nF n d ∧ dF d
  = dF d ∧ (0 : Nat) = (0 : Nat) ∧ x.snd = y.fst ∧ x.fst.tmod x.snd = y.snd ∧ True) ∧ ((0 : Int) = (0 : Int) ∧ (0 : Int) = (0 : Int) ∧ True) ∧ True else False else bif decide ¬x.fst
  = (0 : Int) then bif decide (rng IntKind.i64 ((nF n d).tdiv x.fst)) then bif decide ¬x.fst = (0 : Int) then bif decide (rng IntKind.i64 ((dF d).tdiv x.fst)) then ((nF n d).tdiv
  x.fst = rdN n d ∧ (dF d).tdiv x.fst = rdD n d ∧ True) ∧ (0 : Int) = rdE n d ∧ True else False else False else False else False else False else False else False else bif decide (rng
  IntKind.i64 ((0 : Int) - n)) then (∃ x, RedI n d x ∧ (n = nF n d ∧ d = dF d ∧ (0 : Nat) = (0 : Nat) ∧ max n ((0 : Int) - n) = x.fst ∧ d = x.snd ∧ True) ∧ ((0 : Int) = (0 : Int) ∧
  (0 : Int) = (0 : Int) ∧ True) ∧ True) ∧ ∀ (x : Int × Int), RedI n d x → bif decide ¬x.snd = (0 : Int) then bif decide ¬x.snd = (0 : Int) then ∃ y, RedI n d y ∧ (redI n d).m y <
  (redI n d).m x ∧ (nF n d = nF n d ∧ dF d = dF d ∧ (0 : Nat) = (0 : Nat) ∧ x.snd = y.fst ∧ x.fst.tmod x.snd = y.snd ∧ True) ∧ ((0 : Int) = (0 : Int) ∧ (0 : Int) = (0 : Int) ∧ True)
  ∧ True else False else bif decide ¬x.fst = (0 : Int) then bif decide (rng IntKind.i64 ((nF n d).tdiv x.fst)) then bif decide ¬x.fst = (0 : Int) then bif decide (rng IntKind.i64
  ((dF d).tdiv x.fst)) then ((nF n d).tdiv x.fst = rdN n d ∧ (dF d).tdiv x.fst = rdD n d ∧ True) ∧ (0 : Int) = rdE n d ∧ True else False else False else False else False else False
set_option maxRecDepth 100000 in
theorem sred_P : sred_T rdN rdD rdE := by
  unfold sred_T
  intro gl n d hn hd
  have no : ¬ (¬ d = 0 ∧ (-1152921504606846976 ≤ n ∧ n ≤ 1152921504606846976) ∧ -1152921504606846976 ≤ d ∧ d ≤ 1152921504606846976) → rdB n d = false := fun h => decide_eq_false h
  refine cs (fun h => rd_no (no fun k => k.1 h)) (fun h0 => ⟨trivial, csplit (fun q => rd_no (no fun k => by simp only [decide_eq_true k.2.1] at q; cases q)) (fun q1' => ⟨trivial, csplit (fun q => rd_no (no fun k => by simp only [decide_eq_true k.2.2] at q; cases q)) (fun q2' => ?_)⟩)⟩)
  have h1 : -1152921504606846976 ≤ n ∧ n ≤ 1152921504606846976 := by simpa using q1'
  have h2 : -1152921504606846976 ≤ d ∧ d ≤ 1152921504606846976 := by simpa using q2'
  have hb : rdB n d = true := rdB_iff.2 ⟨h0, h1, h2⟩
  refine cs (fun hl => ?_) (fun hl => ?_)
  · have en : nF n d = 0 - n := if_pos hl
    have ed : dF d = 0 - d := if_pos hl
    have hi := red_ini hb
    rw [en, ed] at hi
    refine cdI (by omega) (cdI (by omega) (cdI (by omega) ⟨⟨_, hi, ⟨en.symm, ed.symm, rfl, rfl, rfl, trivial⟩, ⟨rfl, rfl, trivial⟩, trivial⟩, red_tail hb⟩))
  · have en : nF n d = n := if_neg hl
    have ed : dF d = d := if_neg hl
    have hi := red_ini hb
    rw [en, ed] at hi
    refine cdI (by omega) ⟨⟨_, hi, ⟨en.symm, ed.symm, rfl, rfl, rfl, trivial⟩, ⟨rfl, rfl, trivial⟩, trivial⟩, red_tail hb⟩
def sred_S (rdN : Int → Int → Int) (rdD : Int → Int → Int) (rdE : Int → Int → Int) : Prop := ∀ (gl : Glob) (n d : Int), fnK Try.prog { glob := gl, spec := lk [(46, swithin_s)], specH := lk [], nowf := true } { nt := 45, drop := drp [(1, 524032), (2, 1048576), (3, 2097152), (4, 125829120), (5, 4160749568), (6, 4294967296), (7, 257698037760), (8, 34909494181888)] } (invs [(6, redI n d)]) 6 Try.f36 [.int .i64 n, .int .i64 d] (.tup [.agg [.int .i64 (rdN n d), .int .i64 (rdD n d)], .int .i64 (rdE n d)])
set_option maxRecDepth 100000 in
theorem sred_e (rdN : Int → Int → Int) (rdD : Int → Int → Int) (rdE : Int → Int → Int) : sred_T rdN rdD rdE = sred_S rdN rdD rdE := by kernel_rfl
theorem sred_v : sred_S rdN rdD rdE := @Eq.mp (sred_T rdN rdD rdE) (sred_S rdN rdD rdE) (sred_e rdN rdD rdE) sred_P
theorem sred_ok (gl : Glob) : SOK Try.prog gl 36 (sred_s rdN rdD rdE) := by
  refine ⟨fok Try.func36 (by kernel_rfl) (by kernel_rfl), ?_⟩
  intro xs pre r h hp
  unfold sred_s at h
  split at h
  · simp only [Option.some.injEq, Prod.mk.injEq] at h
    obtain ⟨h1, h2⟩ := h
    subst h1 h2
    exact fnK_sound tyNil (by exact specOK rfl rfl ⟨swithin_ok gl, trivial⟩ trivial) (by kernel_rfl) Try.func36 rfl (sred_v gl _ _)
  · cases h
def rred_s (rdN : Int → Int → Int) (rdD : Int → Int → Int) (rdE : Int → Int → Int) : Sp
  | [.int .i64 n, .int .i64 d] => some (True, .tup [.agg [.int .i64 (rdN n d), .int .i64 (rdD n d)], .int .i64 (rdE n d)])
  | _ => none
set_option maxRecDepth 100000 in
def rred_T (rdN : Int → Int → Int) (rdD : Int → Int → Int) (rdE : Int → Int → Int) : Prop :=
  ∀ (gl : Glob) (n d : Int), (-9223372036854775808 : Int) ≤ n ∧ n ≤ (9223372036854775807 : Int) → (-9223372036854775808 : Int) ≤ d ∧ d ≤ (9223372036854775807 : Int) → bif decide (d =
  (0 : Int)) then ((0 : Int) = rdN n d ∧ (0 : Int) = rdD n d ∧ True) ∧ (1 : Int) = rdE n d ∧ True else bif decide ((1152921504606846976 : Int) < n) then ((0 : Int) = rdN n d ∧ (0 :
  Int) = rdD n d ∧ True) ∧ (1 : Int) = rdE n d ∧ True else bif decide (n < (-1152921504606846976 : Int)) then ((0 : Int) = rdN n d ∧ (0 : Int) = rdD n d ∧ True) ∧ (1 : Int) = rdE n d
  ∧ True else bif decide ((1152921504606846976 : Int) < d) then ((0 : Int) = rdN n d ∧ (0 : Int) = rdD n d ∧ True) ∧ (1 : Int) = rdE n d ∧ True else bif decide (d <
  (-1152921504606846976 : Int)) then ((0 : Int) = rdN n d ∧ (0 : Int) = rdD n d ∧ True) ∧ (1 : Int) = rdE n d ∧ True else bif decide (d < (0 : Int)) then bif decide (rng IntKind.i64
  ((0 : Int) - n)) then bif decide (rng IntKind.i64 ((0 : Int) - d)) then bif decide (rng IntKind.i64 ((0 : Int) - ((0 : Int) - n))) then (∃ x, RedI n d x ∧ ((0 : Int) - n = nF n d ∧
  (0 : Int) - d = dF d ∧ (0 : Nat) = (0 : Nat) ∧ max ((0 : Int) - n) ((0 : Int) - ((0 : Int) - n)) = x.fst ∧ (0 : Int) - d = x.snd ∧ True) ∧ ((0 : Int) = (0 : Int) ∧ (0 : Int) = (0 :
  Int) ∧ True) ∧ True) ∧ ∀ (x : Int × Int), RedI n d x → bif decide ¬x.snd = (0 : Int) then bif decide ¬x.snd = (0 : Int) then ∃ y, RedI n d y ∧ (redI n d).m y < (redI n d).m x ∧ (nF
  n d = nF n d ∧ dF d = dF d ∧ (0 : Nat) = (0 : Nat) ∧ x.snd = y.fst ∧ x.fst.tmod x.snd = y.snd ∧ True) ∧ ((0 : Int) = (0 : Int) ∧ (0 : Int) = (0 : Int) ∧ True) ∧ True else False
  else bif decide ¬x.fst = (0 : Int) then bif decide (rng IntKind.i64 ((nF n d).tdiv x.fst)) then bif decide ¬x.fst = (0 : Int) then bif decide (rng IntKind.i64 ((dF d).tdiv x.fst))
  then ((nF n d).tdiv x.fst = rdN n d ∧ (dF d).tdiv x.fst = rdD n d ∧ True) ∧ (0 : Int) = rdE n d ∧ True else False else False else False else False else False else False else False
  else bif decide (rng IntKind.i64 ((0 : Int) - n)) then (∃ x, RedI n d x ∧ (n = nF n d ∧ d = dF d ∧ (0 : Nat) = (0 : Nat) ∧ max n ((0 : Int) - n) = x.fst ∧ d = x.snd ∧ True) ∧ ((0 :
  Int) = (0 : Int) ∧ (0 : Int) = (0 : Int) ∧ True) ∧ True) ∧ ∀ (x : Int × Int), RedI n d x → bif decide ¬x.snd = (0 : Int) then bif decide ¬x.snd = (0 : Int) then ∃ y, RedI n d y ∧
  (redI n d).m y < (redI n d).m x ∧ (nF n d = nF n d ∧ dF d = dF d ∧ (0 : Nat) = (0 : Nat) ∧ x.snd = y.fst ∧ x.fst.tmod x.snd = y.snd ∧ True) ∧ ((0 : Int) = (0 : Int) ∧ (0 : Int) =
  (0 : Int) ∧ True) ∧ True else False else bif decide ¬x.fst = (0 : Int) then bif decide (rng IntKind.i64 ((nF n d).tdiv x.fst)) then bif decide ¬x.fst = (0 : Int) then bif decide
  (rng IntKind.i64 ((dF d).tdiv x.fst)) then ((nF n d).tdiv x.fst = rdN n d ∧ (dF d).tdiv x.fst = rdD n d ∧ True) ∧ (0 : Int) = rdE n d ∧ True else False else False else False else
  False else False
set_option maxRecDepth 100000 in
theorem rred_P : rred_T rdN rdD rdE := by
  unfold rred_T
  intro gl n d hn hd
  have no : ¬ (¬ d = 0 ∧ (-1152921504606846976 ≤ n ∧ n ≤ 1152921504606846976) ∧ -1152921504606846976 ≤ d ∧ d ≤ 1152921504606846976) → rdB n d = false := fun h => decide_eq_false h
  refine cs (fun h => rd_no (no fun k => k.1 h)) (fun h0 => cs (fun h => rd_no (no fun k => by omega)) (fun h1 => cs (fun h => rd_no (no fun k => by omega)) (fun h2 => cs (fun h => rd_no (no fun k => by omega)) (fun h3 => cs (fun h => rd_no (no fun k => by omega)) (fun h4 => ?_)))))
  have hb : rdB n d = true := rdB_iff.2 ⟨h0, by omega, by omega⟩
  refine cs (fun hl => ?_) (fun hl => ?_)
  · have en : nF n d = 0 - n := if_pos hl
    have ed : dF d = 0 - d := if_pos hl
    have hi := red_ini hb
    rw [en, ed] at hi
    refine cdI (by omega) (cdI (by omega) (cdI (by omega) ⟨⟨_, hi, ⟨en.symm, ed.symm, rfl, rfl, rfl, trivial⟩, ⟨rfl, rfl, trivial⟩, trivial⟩, red_tail hb⟩))
  · have en : nF n d = n := if_neg hl
    have ed : dF d = d := if_neg hl
    have hi := red_ini hb
    rw [en, ed] at hi
    refine cdI (by omega) ⟨⟨_, hi, ⟨en.symm, ed.symm, rfl, rfl, rfl, trivial⟩, ⟨rfl, rfl, trivial⟩, trivial⟩, red_tail hb⟩
def rred_S (rdN : Int → Int → Int) (rdD : Int → Int → Int) (rdE : Int → Int → Int) : Prop := ∀ (gl : Glob) (n d : Int), fnK Try.prog { glob := gl, spec := lk [], specH := lk [], nowf := true } { nt := 51, drop := drp [(1, 33554176), (2, 67108864), (3, 134217728), (4, 8053063680), (5, 266287972352), (6, 274877906944), (7, 16492674416640), (8, 2234207627640832)] } (invs [(6, redI n d)]) 6 Try.f37 [.int .i64 n, .int .i64 d] (.tup [.agg [.int .i64 (rdN n d), .int .i64 (rdD n d)], .int .i64 (rdE n d)])
set_option maxRecDepth 100000 in
theorem rred_e (rdN : Int → Int → Int) (rdD : Int → Int → Int) (rdE : Int → Int → Int) : rred_T rdN rdD rdE = rred_S rdN rdD rdE := by kernel_rfl
theorem rred_v : rred_S rdN rdD rdE := @Eq.mp (rred_T rdN rdD rdE) (rred_S rdN rdD rdE) (rred_e rdN rdD rdE) rred_P
theorem rred_ok (gl : Glob) : SOK Try.prog gl 37 (rred_s rdN rdD rdE) := by
  refine ⟨fok Try.func37 (by kernel_rfl) (by kernel_rfl), ?_⟩
  intro xs pre r h hp
  unfold rred_s at h
  split at h
  · simp only [Option.some.injEq, Prod.mk.injEq] at h
    obtain ⟨h1, h2⟩ := h
    subst h1 h2
    exact fnK_sound tyNil (by exact specOK rfl rfl trivial trivial) (by kernel_rfl) Try.func37 rfl (rred_v gl _ _)
  · cases h
end Go.Proofs.Ytjllgdpnbllnjaa
