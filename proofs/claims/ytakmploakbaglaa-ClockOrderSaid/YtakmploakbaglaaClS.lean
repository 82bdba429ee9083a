/- The clock: the law of order. -/
import Derived.Test.YtakmploakbaglaaClP
import Derived.Test.YtakmploakbaglaaClY
namespace Go.Proofs.Ytakmploakbaglaa
open Go
set_option linter.unusedVariables false
set_option linter.unusedSimpArgs false

def pckV (xs : List (List AV)) (i : Int) (ls : List (List AV)) : Int := cellI (ls.getD (srcN xs i ls.length).toNat [])
structure PckP (ls : List (List AV)) (q : Nat) : Prop where
  ints : IntsA ls
  eq : ls.length = q
  len : 1 ≤ q
def srcPk_s (pckV : List (List AV) → Int → List (List AV) → Int) : SpH
  | [.ptr 0 0, .rw 1 1 q], [.cells [.sl 1 false xs, .int .i64 i], .row 3 1 ls] => some ((SrcI xs ∧ 0 ≤ i) ∧ PckP ls q, .int .i64 (pckV xs i ls), [.cells [.sl 1 false xs, .int .i64 (rawA xs i)], .row 3 1 ls])
  | _, _ => none
set_option maxRecDepth 100000 in
def srcPk_T (pckV : List (List AV) → Int → List (List AV) → Int) : Prop :=
  ∀ (gl : Glob) (xs ls : List (List AV)) (i : Int) (q : Nat), (SrcI xs ∧ (0 : Int) ≤ i) ∧ PckP ls q → True → True → True → (-9223372036854775808 : Int) ≤ i ∧ i ≤ (9223372036854775807
  : Int) → (SrcI xs ∧ (0 : Int) ≤ i) ∧ bif decide ((0 : Int) ≤ srcN xs i (↑q : Int) ∧ srcN xs i (↑q : Int) < (↑q : Int)) then bif decide (q = ls.length ∧ (srcN xs i (↑q : Int)).toNat
  < ls.length) then ∃ n, List.take [AV.int IntKind.i64 n].length (List.drop (0 : Nat) (ls.getD (srcN xs i (↑q : Int)).toNat [])) = [AV.int IntKind.i64 n] ∧ n = pckV xs i ls ∧ ((True
  ∧ xs = xs) ∧ rawA xs i = rawA xs i ∧ True) ∧ ls = ls ∧ True else False else False
set_option maxRecDepth 100000 in
theorem srcPk_P : srcPk_T pckV := by
  unfold srcPk_T
  intro gl xs ls i q ⟨⟨hs, h0⟩, hp⟩
  obtain ⟨p1, p2, p3⟩ := hp
  intros
  have hm := srcN_lt (xs := xs) (i := i) (n := (q : Int)) (by omega)
  have hk : (srcN xs i (q : Int)).toNat < ls.length := by omega
  obtain ⟨n, hn, hr⟩ := p1 ls[(srcN xs i (q : Int)).toNat] (List.getElem_mem hk)
  have hg : ls.getD (srcN xs i (q : Int)).toNat [] = [.int .i64 n] := by rw [List.getD_eq_getElem?_getD, List.getElem?_eq_getElem hk, hn]; rfl
  refine ⟨⟨hs, h0⟩, cd1 hm (cd1 ⟨p2.symm, hk⟩ ⟨n, by rw [List.drop_zero, hg]; rfl, ?_, ⟨⟨trivial, rfl⟩, rfl, trivial⟩, rfl, trivial⟩)⟩
  unfold pckV; rw [p2, hg]; rfl
def srcPk_S (pckV : List (List AV) → Int → List (List AV) → Int) : Prop := ∀ (gl : Glob) (xs ls : List (List AV)) (i : Int) (q : Nat), (SrcI xs ∧ 0 ≤ i) ∧ PckP ls q → fnH Try.prog { glob := gl, spec := lk [], specH := lk [(24, srcn_s)], shape := [11], nowf := true } { nt := 12, drop := drp [(1, 4064)], fr := 1000, kp := [0, 1] } (fun _ _ => none) 6 Try.f31 [.ptr 0 0, .rw 1 1 q] [.cells [.sl 1 false xs, .int .i64 i], .row 3 1 ls] (.int .i64 (pckV xs i ls)) [.cells [.sl 1 false xs, .int .i64 (rawA xs i)], .row 3 1 ls]
set_option maxRecDepth 100000 in
theorem srcPk_e (pckV : List (List AV) → Int → List (List AV) → Int) : srcPk_T pckV = srcPk_S pckV := by kernel_rfl
theorem srcPk_v : srcPk_S pckV := @Eq.mp (srcPk_T pckV) (srcPk_S pckV) (srcPk_e pckV) srcPk_P
theorem srcPk_ok (gl : Glob) : HOK Try.prog gl 31 (srcPk_s pckV) := by
  refine ⟨fok Try.func31 (by kernel_rfl) (by kernel_rfl), ?_⟩
  intro xs bs pre r bs2 h hp
  unfold srcPk_s at h
  split at h
  · simp only [Option.some.injEq, Prod.mk.injEq] at h
    obtain ⟨h1, h2, h3⟩ := h
    subst h1 h2 h3
    exact fnH_sound tyNil (by exact specOK rfl rfl trivial ⟨srcn_ok gl, trivial⟩) (by kernel_rfl) Try.func31 (srcPk_v gl _ _ _ _ hp)
  · cases h
theorem pck_bd {xs : List (List AV)} {i : Int} {ls : List (List AV)} {lo hi : Int} (h : ∀ x ∈ ls, lo ≤ cellI x ∧ cellI x ≤ hi) (h0 : lo ≤ 0 ∧ 0 ≤ hi) : lo ≤ pckV xs i ls ∧ pckV xs i ls ≤ hi := by
  unfold pckV
  generalize (srcN xs i ls.length).toNat = k
  rw [List.getD_eq_getElem?_getD]
  rcases Nat.lt_or_ge k ls.length with q | q
  · rw [List.getElem?_eq_getElem q]; exact h _ (List.getElem_mem q)
  · rw [List.getElem?_eq_none q]; exact h0
theorem date_all {s t : Int} (hs : 0 ≤ s ∧ s ≤ 52595999) (ht : 0 ≤ t ∧ t ≤ 52595999) : decide (s = t) = (decide (dtY s = dtY t) && (decide (dtM s = dtM t) && (decide (dtD s = dtD t) && (decide (dtH s = dtH t) && (decide (dtI s = dtI t) && true))))) := by
  rw [Bool.eq_iff_iff]
  simp only [Bool.and_eq_true, decide_eq_true_eq, and_true]
  constructor
  · rintro rfl; simp
  · rintro ⟨h1, h2, h3, h4, h5⟩
    obtain ⟨v, e⟩ := date_ok hs
    obtain ⟨v', e'⟩ := date_ok ht
    rw [← e, ← e', h1, h2, h3, h4, h5]
def lOrd_s (inB : Int → Bool) (dtY : Int → Int) (dtM : Int → Int) (dtD : Int → Int) (dtH : Int → Int) (dtI : Int → Int) (fmtC : Int → ByteArray) (mnV : List (List AV) → Int → Int) (mnA : List (List AV) → Int → Int) (pckV : List (List AV) → Int → List (List AV) → Int) : Sp
  | [.sl 1 false zs] => some (IntsA zs, .bool true)
  | _ => none
set_option maxRecDepth 100000 in
def lOrd_T (inB : Int → Bool) (dtY : Int → Int) (dtM : Int → Int) (dtD : Int → Int) (dtH : Int → Int) (dtI : Int → Int) (fmtC : Int → ByteArray) (mnV : List (List AV) → Int → Int) (mnA : List (List AV) → Int → Int) (pckV : List (List AV) → Int → List (List AV) → Int) (dtR : Int → Int) (cumI : Int → Int → Int) (prsM : ByteArray → Int) (prsV : ByteArray → Bool) (rsV : Int → Int → Int → Int → Int) (rsOk : Int → Int → Int → Int → Bool) : Prop :=
  ∀ (gl : Glob) (zs : List (List AV)), (∀ (x : List AV), List.Mem x zs → ∃ n, x = [AV.int IntKind.i64 n] ∧ rng IntKind.i64 n) → True → True ∧ (SrcI (List.take (2000 : Nat) zs) ∧ (0 :
  Int) ≤ (0 : Int)) ∧ ((SrcI (List.take (2000 : Nat) zs) ∧ (0 : Int) ≤ mnA (List.take (2000 : Nat) zs) (0 : Int)) ∧ ((-1000000 : Int) ≤ (-60000 : Int) ∧ (-60000 : Int) ≤ (1000000 :
  Int)) ∧ (-60000 : Int) ≤ (60000 : Int) ∧ (60000 : Int) ≤ (1000000 : Int)) ∧ (SrcI (List.take (2000 : Nat) zs) ∧ (0 : Int) ≤ rawA (List.take (2000 : Nat) zs) (mnA (List.take (2000 :
  Nat) zs) (0 : Int))) ∧ True ∧ ((SrcI (List.take (2000 : Nat) zs) ∧ (0 : Int) ≤ rawA (List.take (2000 : Nat) zs) (rawA (List.take (2000 : Nat) zs) (mnA (List.take (2000 : Nat) zs)
  (0 : Int)))) ∧ PckP [[AV.int IntKind.i64 (0 : Int)], [AV.int IntKind.i64 (1 : Int)], [AV.int IntKind.i64 (-1 : Int)], [AV.int IntKind.i64 (60 : Int)], [AV.int IntKind.i64 (1440 :
  Int)], [AV.int IntKind.i64 ((-60000 : Int) + srcN (List.take (2000 : Nat) zs) (mnA (List.take (2000 : Nat) zs) (0 : Int)) (120001 : Int))], [AV.int IntKind.i64 (modZ (rawV
  (List.take (2000 : Nat) zs) (rawA (List.take (2000 : Nat) zs) (mnA (List.take (2000 : Nat) zs) (0 : Int)))) (16777216 : Int))]] (7 : Nat)) ∧ bif decide (rng IntKind.i64 (mnV
  (List.take (2000 : Nat) zs) (0 : Int) + pckV (List.take (2000 : Nat) zs) (rawA (List.take (2000 : Nat) zs) (rawA (List.take (2000 : Nat) zs) (mnA (List.take (2000 : Nat) zs) (0 :
  Int)))) [[AV.int IntKind.i64 (0 : Int)], [AV.int IntKind.i64 (1 : Int)], [AV.int IntKind.i64 (-1 : Int)], [AV.int IntKind.i64 (60 : Int)], [AV.int IntKind.i64 (1440 : Int)],
  [AV.int IntKind.i64 ((-60000 : Int) + srcN (List.take (2000 : Nat) zs) (mnA (List.take (2000 : Nat) zs) (0 : Int)) (120001 : Int))], [AV.int IntKind.i64 (modZ (rawV (List.take
  (2000 : Nat) zs) (rawA (List.take (2000 : Nat) zs) (mnA (List.take (2000 : Nat) zs) (0 : Int)))) (16777216 : Int))]])) then True ∧ True ∧ True ∧ True ∧ bif decide ¬(if inB (mnV
  (List.take (2000 : Nat) zs) (0 : Int)) = true then (0 : Int) else (1 : Int)) = (0 : Int) then false = true else bif decide ¬(if inB (max (0 : Int) (min (52595999 : Int) (mnV
  (List.take (2000 : Nat) zs) (0 : Int) + pckV (List.take (2000 : Nat) zs) (rawA (List.take (2000 : Nat) zs) (rawA (List.take (2000 : Nat) zs) (mnA (List.take (2000 : Nat) zs) (0 :
  Int)))) [[AV.int IntKind.i64 (0 : Int)], [AV.int IntKind.i64 (1 : Int)], [AV.int IntKind.i64 (-1 : Int)], [AV.int IntKind.i64 (60 : Int)], [AV.int IntKind.i64 (1440 : Int)],
  [AV.int IntKind.i64 ((-60000 : Int) + srcN (List.take (2000 : Nat) zs) (mnA (List.take (2000 : Nat) zs) (0 : Int)) (120001 : Int))], [AV.int IntKind.i64 (modZ (rawV (List.take
  (2000 : Nat) zs) (rawA (List.take (2000 : Nat) zs) (mnA (List.take (2000 : Nat) zs) (0 : Int)))) (16777216 : Int))]]))) = true then (0 : Int) else (1 : Int)) = (0 : Int) then false
  = true else bif decide ¬(if inB (mnV (List.take (2000 : Nat) zs) (0 : Int)) = true then (0 : Int) else (1 : Int)) = (0 : Int) then false = true else bif decide ¬(if inB (max (0 :
  Int) (min (52595999 : Int) (mnV (List.take (2000 : Nat) zs) (0 : Int) + pckV (List.take (2000 : Nat) zs) (rawA (List.take (2000 : Nat) zs) (rawA (List.take (2000 : Nat) zs) (mnA
  (List.take (2000 : Nat) zs) (0 : Int)))) [[AV.int IntKind.i64 (0 : Int)], [AV.int IntKind.i64 (1 : Int)], [AV.int IntKind.i64 (-1 : Int)], [AV.int IntKind.i64 (60 : Int)], [AV.int
  IntKind.i64 (1440 : Int)], [AV.int IntKind.i64 ((-60000 : Int) + srcN (List.take (2000 : Nat) zs) (mnA (List.take (2000 : Nat) zs) (0 : Int)) (120001 : Int))], [AV.int IntKind.i64
  (modZ (rawV (List.take (2000 : Nat) zs) (rawA (List.take (2000 : Nat) zs) (mnA (List.take (2000 : Nat) zs) (0 : Int)))) (16777216 : Int))]]))) = true then (0 : Int) else (1 : Int))
  = (0 : Int) then false = true else bif decide ((if inB (mnV (List.take (2000 : Nat) zs) (0 : Int)) = true then dtY (mnV (List.take (2000 : Nat) zs) (0 : Int)) else (0 : Int)) = if
  inB (max (0 : Int) (min (52595999 : Int) (mnV (List.take (2000 : Nat) zs) (0 : Int) + pckV (List.take (2000 : Nat) zs) (rawA (List.take (2000 : Nat) zs) (rawA (List.take (2000 :
  Nat) zs) (mnA (List.take (2000 : Nat) zs) (0 : Int)))) [[AV.int IntKind.i64 (0 : Int)], [AV.int IntKind.i64 (1 : Int)], [AV.int IntKind.i64 (-1 : Int)], [AV.int IntKind.i64 (60 :
  Int)], [AV.int IntKind.i64 (1440 : Int)], [AV.int IntKind.i64 ((-60000 : Int) + srcN (List.take (2000 : Nat) zs) (mnA (List.take (2000 : Nat) zs) (0 : Int)) (120001 : Int))],
  [AV.int IntKind.i64 (modZ (rawV (List.take (2000 : Nat) zs) (rawA (List.take (2000 : Nat) zs) (mnA (List.take (2000 : Nat) zs) (0 : Int)))) (16777216 : Int))]]))) = true then dtY
  (max (0 : Int) (min (52595999 : Int) (mnV (List.take (2000 : Nat) zs) (0 : Int) + pckV (List.take (2000 : Nat) zs) (rawA (List.take (2000 : Nat) zs) (rawA (List.take (2000 : Nat)
  zs) (mnA (List.take (2000 : Nat) zs) (0 : Int)))) [[AV.int IntKind.i64 (0 : Int)], [AV.int IntKind.i64 (1 : Int)], [AV.int IntKind.i64 (-1 : Int)], [AV.int IntKind.i64 (60 : Int)],
  [AV.int IntKind.i64 (1440 : Int)], [AV.int IntKind.i64 ((-60000 : Int) + srcN (List.take (2000 : Nat) zs) (mnA (List.take (2000 : Nat) zs) (0 : Int)) (120001 : Int))], [AV.int
  IntKind.i64 (modZ (rawV (List.take (2000 : Nat) zs) (rawA (List.take (2000 : Nat) zs) (mnA (List.take (2000 : Nat) zs) (0 : Int)))) (16777216 : Int))]]))) else (0 : Int)) then bif
  decide ((if inB (mnV (List.take (2000 : Nat) zs) (0 : Int)) = true then dtM (mnV (List.take (2000 : Nat) zs) (0 : Int)) else (0 : Int)) = if inB (max (0 : Int) (min (52595999 :
  Int) (mnV (List.take (2000 : Nat) zs) (0 : Int) + pckV (List.take (2000 : Nat) zs) (rawA (List.take (2000 : Nat) zs) (rawA (List.take (2000 : Nat) zs) (mnA (List.take (2000 : Nat)
  zs) (0 : Int)))) [[AV.int IntKind.i64 (0 : Int)], [AV.int IntKind.i64 (1 : Int)], [AV.int IntKind.i64 (-1 : Int)], [AV.int IntKind.i64 (60 : Int)], [AV.int IntKind.i64 (1440 :
  Int)], [AV.int IntKind.i64 ((-60000 : Int) + srcN (List.take (2000 : Nat) zs) (mnA (List.take (2000 : Nat) zs) (0 : Int)) (120001 : Int))], [AV.int IntKind.i64 (modZ (rawV
  (List.take (2000 : Nat) zs) (rawA (List.take (2000 : Nat) zs) (mnA (List.take (2000 : Nat) zs) (0 : Int)))) (16777216 : Int))]]))) = true then dtM (max (0 : Int) (min (52595999 :
  Int) (mnV (List.take (2000 : Nat) zs) (0 : Int) + pckV (List.take (2000 : Nat) zs) (rawA (List.take (2000 : Nat) zs) (rawA (List.take (2000 : Nat) zs) (mnA (List.take (2000 : Nat)
  zs) (0 : Int)))) [[AV.int IntKind.i64 (0 : Int)], [AV.int IntKind.i64 (1 : Int)], [AV.int IntKind.i64 (-1 : Int)], [AV.int IntKind.i64 (60 : Int)], [AV.int IntKind.i64 (1440 :
  Int)], [AV.int IntKind.i64 ((-60000 : Int) + srcN (List.take (2000 : Nat) zs) (mnA (List.take (2000 : Nat) zs) (0 : Int)) (120001 : Int))], [AV.int IntKind.i64 (modZ (rawV
  (List.take (2000 : Nat) zs) (rawA (List.take (2000 : Nat) zs) (mnA (List.take (2000 : Nat) zs) (0 : Int)))) (16777216 : Int))]]))) else (0 : Int)) then bif decide ((if inB (mnV
  (List.take (2000 : Nat) zs) (0 : Int)) = true then dtD (mnV (List.take (2000 : Nat) zs) (0 : Int)) else (0 : Int)) = if inB (max (0 : Int) (min (52595999 : Int) (mnV (List.take
  (2000 : Nat) zs) (0 : Int) + pckV (List.take (2000 : Nat) zs) (rawA (List.take (2000 : Nat) zs) (rawA (List.take (2000 : Nat) zs) (mnA (List.take (2000 : Nat) zs) (0 : Int))))
  [[AV.int IntKind.i64 (0 : Int)], [AV.int IntKind.i64 (1 : Int)], [AV.int IntKind.i64 (-1 : Int)], [AV.int IntKind.i64 (60 : Int)], [AV.int IntKind.i64 (1440 : Int)], [AV.int
  IntKind.i64 ((-60000 : Int) + srcN (List.take (2000 : Nat) zs) (mnA (List.take (2000 : Nat) zs) (0 : Int)) (120001 : Int))], [AV.int IntKind.i64 (modZ (rawV (List.take (2000 : Nat)
  zs) (rawA (List.take (2000 : Nat) zs) (mnA (List.take (2000 : Nat) zs) (0 : Int)))) (16777216 : Int))]]))) = true then dtD (max (0 : Int) (min (52595999 : Int) (mnV (List.take
  (2000 : Nat) zs) (0 : Int) + pckV (List.take (2000 : Nat) zs) (rawA (List.take (2000 : Nat) zs) (rawA (List.take (2000 : Nat) zs) (mnA (List.take (2000 : Nat) zs) (0 : Int))))
  [[AV.int IntKind.i64 (0 : Int)], [AV.int IntKind.i64 (1 : Int)], [AV.int IntKind.i64 (-1 : Int)], [AV.int IntKind.i64 (60 : Int)], [AV.int IntKind.i64 (1440 : Int)], [AV.int
  IntKind.i64 ((-60000 : Int) + srcN (List.take (2000 : Nat) zs) (mnA (List.take (2000 : Nat) zs) (0 : Int)) (120001 : Int))], [AV.int IntKind.i64 (modZ (rawV (List.take (2000 : Nat)
  zs) (rawA (List.take (2000 : Nat) zs) (mnA (List.take (2000 : Nat) zs) (0 : Int)))) (16777216 : Int))]]))) else (0 : Int)) then bif decide ((if inB (mnV (List.take (2000 : Nat) zs)
  (0 : Int)) = true then dtH (mnV (List.take (2000 : Nat) zs) (0 : Int)) else (0 : Int)) = if inB (max (0 : Int) (min (52595999 : Int) (mnV (List.take (2000 : Nat) zs) (0 : Int) +
  pckV (List.take (2000 : Nat) zs) (rawA (List.take (2000 : Nat) zs) (rawA (List.take (2000 : Nat) zs) (mnA (List.take (2000 : Nat) zs) (0 : Int)))) [[AV.int IntKind.i64 (0 : Int)],
  [AV.int IntKind.i64 (1 : Int)], [AV.int IntKind.i64 (-1 : Int)], [AV.int IntKind.i64 (60 : Int)], [AV.int IntKind.i64 (1440 : Int)], [AV.int IntKind.i64 ((-60000 : Int) + srcN
  (List.take (2000 : Nat) zs) (mnA (List.take (2000 : Nat) zs) (0 : Int)) (120001 : Int))], [AV.int IntKind.i64 (modZ (rawV (List.take (2000 : Nat) zs) (rawA (List.take (2000 : Nat)
  zs) (mnA (List.take (2000 : Nat) zs) (0 : Int)))) (16777216 : Int))]]))) = true then dtH (max (0 : Int) (min (52595999 : Int) (mnV (List.take (2000 : Nat) zs) (0 : Int) + pckV
  (List.take (2000 : Nat) zs) (rawA (List.take (2000 : Nat) zs) (rawA (List.take (2000 : Nat) zs) (mnA (List.take (2000 : Nat) zs) (0 : Int)))) [[AV.int IntKind.i64 (0 : Int)],
  [AV.int IntKind.i64 (1 : Int)], [AV.int IntKind.i64 (-1 : Int)], [AV.int IntKind.i64 (60 : Int)], [AV.int IntKind.i64 (1440 : Int)], [AV.int IntKind.i64 ((-60000 : Int) + srcN
  (List.take (2000 : Nat) zs) (mnA (List.take (2000 : Nat) zs) (0 : Int)) (120001 : Int))], [AV.int IntKind.i64 (modZ (rawV (List.take (2000 : Nat) zs) (rawA (List.take (2000 : Nat)
  zs) (mnA (List.take (2000 : Nat) zs) (0 : Int)))) (16777216 : Int))]]))) else (0 : Int)) then bif decide (decide (mnV (List.take (2000 : Nat) zs) (0 : Int) < max (0 : Int) (min
  (52595999 : Int) (mnV (List.take (2000 : Nat) zs) (0 : Int) + pckV (List.take (2000 : Nat) zs) (rawA (List.take (2000 : Nat) zs) (rawA (List.take (2000 : Nat) zs) (mnA (List.take
  (2000 : Nat) zs) (0 : Int)))) [[AV.int IntKind.i64 (0 : Int)], [AV.int IntKind.i64 (1 : Int)], [AV.int IntKind.i64 (-1 : Int)], [AV.int IntKind.i64 (60 : Int)], [AV.int IntKind.i64
  (1440 : Int)], [AV.int IntKind.i64 ((-60000 : Int) + srcN (List.take (2000 : Nat) zs) (mnA (List.take (2000 : Nat) zs) (0 : Int)) (120001 : Int))], [AV.int IntKind.i64 (modZ (rawV
  (List.take (2000 : Nat) zs) (rawA (List.take (2000 : Nat) zs) (mnA (List.take (2000 : Nat) zs) (0 : Int)))) (16777216 : Int))]]))) = decide ((if inB (mnV (List.take (2000 : Nat)
  zs) (0 : Int)) = true then dtI (mnV (List.take (2000 : Nat) zs) (0 : Int)) else (0 : Int)) < if inB (max (0 : Int) (min (52595999 : Int) (mnV (List.take (2000 : Nat) zs) (0 : Int)
  + pckV (List.take (2000 : Nat) zs) (rawA (List.take (2000 : Nat) zs) (rawA (List.take (2000 : Nat) zs) (mnA (List.take (2000 : Nat) zs) (0 : Int)))) [[AV.int IntKind.i64 (0 :
  Int)], [AV.int IntKind.i64 (1 : Int)], [AV.int IntKind.i64 (-1 : Int)], [AV.int IntKind.i64 (60 : Int)], [AV.int IntKind.i64 (1440 : Int)], [AV.int IntKind.i64 ((-60000 : Int) +
  srcN (List.take (2000 : Nat) zs) (mnA (List.take (2000 : Nat) zs) (0 : Int)) (120001 : Int))], [AV.int IntKind.i64 (modZ (rawV (List.take (2000 : Nat) zs) (rawA (List.take (2000 :
  Nat) zs) (mnA (List.take (2000 : Nat) zs) (0 : Int)))) (16777216 : Int))]]))) = true then dtI (max (0 : Int) (min (52595999 : Int) (mnV (List.take (2000 : Nat) zs) (0 : Int) + pckV
  (List.take (2000 : Nat) zs) (rawA (List.take (2000 : Nat) zs) (rawA (List.take (2000 : Nat) zs) (mnA (List.take (2000 : Nat) zs) (0 : Int)))) [[AV.int IntKind.i64 (0 : Int)],
  [AV.int IntKind.i64 (1 : Int)], [AV.int IntKind.i64 (-1 : Int)], [AV.int IntKind.i64 (60 : Int)], [AV.int IntKind.i64 (1440 : Int)], [AV.int IntKind.i64 ((-60000 : Int) + srcN
  (List.take (2000 : Nat) zs) (mnA (List.take (2000 : Nat) zs) (0 : Int)) (120001 : Int))], [AV.int IntKind.i64 (modZ (rawV (List.take (2000 : Nat) zs) (rawA (List.take (2000 : Nat)
  zs) (mnA (List.take (2000 : Nat) zs) (0 : Int)))) (16777216 : Int))]]))) else (0 : Int))) then bif decide (decide (mnV (List.take (2000 : Nat) zs) (0 : Int) < max (0 : Int) (min
  (52595999 : Int) (mnV (List.take (2000 : Nat) zs) (0 : Int) + pckV (List.take (2000 : Nat) zs) (rawA (List.take (2000 : Nat) zs) (rawA (List.take (2000 : Nat) zs) (mnA (List.take
  (2000 : Nat) zs) (0 : Int)))) [[AV.int IntKind.i64 (0 : Int)], [AV.int IntKind.i64 (1 : Int)], [AV.int IntKind.i64 (-1 : Int)], [AV.int IntKind.i64 (60 : Int)], [AV.int IntKind.i64
  (1440 : Int)], [AV.int IntKind.i64 ((-60000 : Int) + srcN (List.take (2000 : Nat) zs) (mnA (List.take (2000 : Nat) zs) (0 : Int)) (120001 : Int))], [AV.int IntKind.i64 (modZ (rawV
  (List.take (2000 : Nat) zs) (rawA (List.take (2000 : Nat) zs) (mnA (List.take (2000 : Nat) zs) (0 : Int)))) (16777216 : Int))]]))) = Op.bytesLess (fmtC (mnV (List.take (2000 : Nat)
  zs) (0 : Int))).toList (fmtC (max (0 : Int) (min (52595999 : Int) (mnV (List.take (2000 : Nat) zs) (0 : Int) + pckV (List.take (2000 : Nat) zs) (rawA (List.take (2000 : Nat) zs)
  (rawA (List.take (2000 : Nat) zs) (mnA (List.take (2000 : Nat) zs) (0 : Int)))) [[AV.int IntKind.i64 (0 : Int)], [AV.int IntKind.i64 (1 : Int)], [AV.int IntKind.i64 (-1 : Int)],
  [AV.int IntKind.i64 (60 : Int)], [AV.int IntKind.i64 (1440 : Int)], [AV.int IntKind.i64 ((-60000 : Int) + srcN (List.take (2000 : Nat) zs) (mnA (List.take (2000 : Nat) zs) (0 :
  Int)) (120001 : Int))], [AV.int IntKind.i64 (modZ (rawV (List.take (2000 : Nat) zs) (rawA (List.take (2000 : Nat) zs) (mnA (List.take (2000 : Nat) zs) (0 : Int)))) (16777216 :
  Int))]])))).toList) then bif decide (decide (mnV (List.take (2000 : Nat) zs) (0 : Int) = max (0 : Int) (min (52595999 : Int) (mnV (List.take (2000 : Nat) zs) (0 : Int) + pckV
  (List.take (2000 : Nat) zs) (rawA (List.take (2000 : Nat) zs) (rawA (List.take (2000 : Nat) zs) (mnA (List.take (2000 : Nat) zs) (0 : Int)))) [[AV.int IntKind.i64 (0 : Int)],
  [AV.int IntKind.i64 (1 : Int)], [AV.int IntKind.i64 (-1 : Int)], [AV.int IntKind.i64 (60 : Int)], [AV.int IntKind.i64 (1440 : Int)], [AV.int IntKind.i64 ((-60000 : Int) + srcN
  (List.take (2000 : Nat) zs) (mnA (List.take (2000 : Nat) zs) (0 : Int)) (120001 : Int))], [AV.int IntKind.i64 (modZ (rawV (List.take (2000 : Nat) zs) (rawA (List.take (2000 : Nat)
  zs) (mnA (List.take (2000 : Nat) zs) (0 : Int)))) (16777216 : Int))]]))) = (decide ((if inB (mnV (List.take (2000 : Nat) zs) (0 : Int)) = true then dtY (mnV (List.take (2000 : Nat)
  zs) (0 : Int)) else (0 : Int)) = if inB (max (0 : Int) (min (52595999 : Int) (mnV (List.take (2000 : Nat) zs) (0 : Int) + pckV (List.take (2000 : Nat) zs) (rawA (List.take (2000 :
  Nat) zs) (rawA (List.take (2000 : Nat) zs) (mnA (List.take (2000 : Nat) zs) (0 : Int)))) [[AV.int IntKind.i64 (0 : Int)], [AV.int IntKind.i64 (1 : Int)], [AV.int IntKind.i64 (-1 :
  Int)], [AV.int IntKind.i64 (60 : Int)], [AV.int IntKind.i64 (1440 : Int)], [AV.int IntKind.i64 ((-60000 : Int) + srcN (List.take (2000 : Nat) zs) (mnA (List.take (2000 : Nat) zs)
  (0 : Int)) (120001 : Int))], [AV.int IntKind.i64 (modZ (rawV (List.take (2000 : Nat) zs) (rawA (List.take (2000 : Nat) zs) (mnA (List.take (2000 : Nat) zs) (0 : Int)))) (16777216 :
  Int))]]))) = true then dtY (max (0 : Int) (min (52595999 : Int) (mnV (List.take (2000 : Nat) zs) (0 : Int) + pckV (List.take (2000 : Nat) zs) (rawA (List.take (2000 : Nat) zs)
  (rawA (List.take (2000 : Nat) zs) (mnA (List.take (2000 : Nat) zs) (0 : Int)))) [[AV.int IntKind.i64 (0 : Int)], [AV.int IntKind.i64 (1 : Int)], [AV.int IntKind.i64 (-1 : Int)],
  [AV.int IntKind.i64 (60 : Int)], [AV.int IntKind.i64 (1440 : Int)], [AV.int IntKind.i64 ((-60000 : Int) + srcN (List.take (2000 : Nat) zs) (mnA (List.take (2000 : Nat) zs) (0 :
  Int)) (120001 : Int))], [AV.int IntKind.i64 (modZ (rawV (List.take (2000 : Nat) zs) (rawA (List.take (2000 : Nat) zs) (mnA (List.take (2000 : Nat) zs) (0 : Int)))) (16777216 :
  Int))]]))) else (0 : Int)) && (decide ((if inB (mnV (List.take (2000 : Nat) zs) (0 : Int)) = true then dtM (mnV (List.take (2000 : Nat) zs) (0 : Int)) else (0 : Int)) = if inB (max
  (0 : Int) (min (52595999 : Int) (mnV (List.take (2000 : Nat) zs) (0 : Int) + pckV (List.take (2000 : Nat) zs) (rawA (List.take (2000 : Nat) zs) (rawA (List.take (2000 : Nat) zs)
  (mnA (List.take (2000 : Nat) zs) (0 : Int)))) [[AV.int IntKind.i64 (0 : Int)], [AV.int IntKind.i64 (1 : Int)], [AV.int IntKind.i64 (-1 : Int)], [AV.int IntKind.i64 (60 : Int)],
  [AV.int IntKind.i64 (1440 : Int)], [AV.int IntKind.i64 ((-60000 : Int) + srcN (List.take (2000 : Nat) zs) (mnA (List.take (2000 : Nat) zs) (0 : Int)) (120001 : Int))], [AV.int
  IntKind.i64 (modZ (rawV (List.take (2000 : Nat) zs) (rawA (List.take (2000 : Nat) zs) (mnA (List.take (2000 : Nat) zs) (0 : Int)))) (16777216 : Int))]]))) = true then dtM (max (0 :
  Int) (min (52595999 : Int) (mnV (List.take (2000 : Nat) zs) (0 : Int) + pckV (List.take (2000 : Nat) zs) (rawA (List.take (2000 : Nat) zs) (rawA (List.take (2000 : Nat) zs) (mnA
  (List.take (2000 : Nat) zs) (0 : Int)))) [[AV.int IntKind.i64 (0 : Int)], [AV.int IntKind.i64 (1 : Int)], [AV.int IntKind.i64 (-1 : Int)], [AV.int IntKind.i64 (60 : Int)], [AV.int
  IntKind.i64 (1440 : Int)], [AV.int IntKind.i64 ((-60000 : Int) + srcN (List.take (2000 : Nat) zs) (mnA (List.take (2000 : Nat) zs) (0 : Int)) (120001 : Int))], [AV.int IntKind.i64
  (modZ (rawV (List.take (2000 : Nat) zs) (rawA (List.take (2000 : Nat) zs) (mnA (List.take (2000 : Nat) zs) (0 : Int)))) (16777216 : Int))]]))) else (0 : Int)) && (decide ((if inB
  (mnV (List.take (2000 : Nat) zs) (0 : Int)) = true then dtD (mnV (List.take (2000 : Nat) zs) (0 : Int)) else (0 : Int)) = if inB (max (0 : Int) (min (52595999 : Int) (mnV
  (List.take (2000 : Nat) zs) (0 : Int) + pckV (List.take (2000 : Nat) zs) (rawA (List.take (2000 : Nat) zs) (rawA (List.take (2000 : Nat) zs) (mnA (List.take (2000 : Nat) zs) (0 :
  Int)))) [[AV.int IntKind.i64 (0 : Int)], [AV.int IntKind.i64 (1 : Int)], [AV.int IntKind.i64 (-1 : Int)], [AV.int IntKind.i64 (60 : Int)], [AV.int IntKind.i64 (1440 : Int)],
  [AV.int IntKind.i64 ((-60000 : Int) + srcN (List.take (2000 : Nat) zs) (mnA (List.take (2000 : Nat) zs) (0 : Int)) (120001 : Int))], [AV.int IntKind.i64 (modZ (rawV (List.take
  (2000 : Nat) zs) (rawA (List.take (2000 : Nat) zs) (mnA (List.take (2000 : Nat) zs) (0 : Int)))) (16777216 : Int))]]))) = true then dtD (max (0 : Int) (min (52595999 : Int) (mnV
  (List.take (2000 : Nat) zs) (0 : Int) + pckV (List.take (2000 : Nat) zs) (rawA (List.take (2000 : Nat) zs) (rawA (List.take (2000 : Nat) zs) (mnA (List.take (2000 : Nat) zs) (0 :
  Int)))) [[AV.int IntKind.i64 (0 : Int)], [AV.int IntKind.i64 (1 : Int)], [AV.int IntKind.i64 (-1 : Int)], [AV.int IntKind.i64 (60 : Int)], [AV.int IntKind.i64 (1440 : Int)],
  [AV.int IntKind.i64 ((-60000 : Int) + srcN (List.take (2000 : Nat) zs) (mnA (List.take (2000 : Nat) zs) (0 : Int)) (120001 : Int))], [AV.int IntKind.i64 (modZ (rawV (List.take
  (2000 : Nat) zs) (rawA (List.take (2000 : Nat) zs) (mnA (List.take (2000 : Nat) zs) (0 : Int)))) (16777216 : Int))]]))) else (0 : Int)) && (decide ((if inB (mnV (List.take (2000 :
  Nat) zs) (0 : Int)) = true then dtH (mnV (List.take (2000 : Nat) zs) (0 : Int)) else (0 : Int)) = if inB (max (0 : Int) (min (52595999 : Int) (mnV (List.take (2000 : Nat) zs) (0 :
  Int) + pckV (List.take (2000 : Nat) zs) (rawA (List.take (2000 : Nat) zs) (rawA (List.take (2000 : Nat) zs) (mnA (List.take (2000 : Nat) zs) (0 : Int)))) [[AV.int IntKind.i64 (0 :
  Int)], [AV.int IntKind.i64 (1 : Int)], [AV.int IntKind.i64 (-1 : Int)], [AV.int IntKind.i64 (60 : Int)], [AV.int IntKind.i64 (1440 : Int)], [AV.int IntKind.i64 ((-60000 : Int) +
  srcN (List.take (2000 : Nat) zs) (mnA (List.take (2000 : Nat) zs) (0 : Int)) (120001 : Int))], [AV.int IntKind.i64 (modZ (rawV (List.take (2000 : Nat) zs) (rawA (List.take (2000 :
  Nat) zs) (mnA (List.take (2000 : Nat) zs) (0 : Int)))) (16777216 : Int))]]))) = true then dtH (max (0 : Int) (min (52595999 : Int) (mnV (List.take (2000 : Nat) zs) (0 : Int) + pckV
  (List.take (2000 : Nat) zs) (rawA (List.take (2000 : Nat) zs) (rawA (List.take (2000 : Nat) zs) (mnA (List.take (2000 : Nat) zs) (0 : Int)))) [[AV.int IntKind.i64 (0 : Int)],
  [AV.int IntKind.i64 (1 : Int)], [AV.int IntKind.i64 (-1 : Int)], [AV.int IntKind.i64 (60 : Int)], [AV.int IntKind.i64 (1440 : Int)], [AV.int IntKind.i64 ((-60000 : Int) + srcN
  (List.take (2000 : Nat) zs) (mnA (List.take (2000 : Nat) zs) (0 : Int)) (120001 : Int))], [AV.int IntKind.i64 (modZ (rawV (List.take (2000 : Nat) zs) (rawA (List.take (2000 : Nat)
  zs) (mnA (List.take (2000 : Nat) zs) (0 : Int)))) (16777216 : Int))]]))) else (0 : Int)) && (decide ((if inB (mnV (List.take (2000 : Nat) zs) (0 : Int)) = true then dtI (mnV
  (List.take (2000 : Nat) zs) (0 : Int)) else (0 : Int)) = if inB (max (0 : Int) (min (52595999 : Int) (mnV (List.take (2000 : Nat) zs) (0 : Int) + pckV (List.take (2000 : Nat) zs)
  (rawA (List.take (2000 : Nat) zs) (rawA (List.take (2000 : Nat) zs) (mnA (List.take (2000 : Nat) zs) (0 : Int)))) [[AV.int IntKind.i64 (0 : Int)], [AV.int IntKind.i64 (1 : Int)],
  [AV.int IntKind.i64 (-1 : Int)], [AV.int IntKind.i64 (60 : Int)], [AV.int IntKind.i64 (1440 : Int)], [AV.int IntKind.i64 ((-60000 : Int) + srcN (List.take (2000 : Nat) zs) (mnA
  (List.take (2000 : Nat) zs) (0 : Int)) (120001 : Int))], [AV.int IntKind.i64 (modZ (rawV (List.take (2000 : Nat) zs) (rawA (List.take (2000 : Nat) zs) (mnA (List.take (2000 : Nat)
  zs) (0 : Int)))) (16777216 : Int))]]))) = true then dtI (max (0 : Int) (min (52595999 : Int) (mnV (List.take (2000 : Nat) zs) (0 : Int) + pckV (List.take (2000 : Nat) zs) (rawA
  (List.take (2000 : Nat) zs) (rawA (List.take (2000 : Nat) zs) (mnA (List.take (2000 : Nat) zs) (0 : Int)))) [[AV.int IntKind.i64 (0 : Int)], [AV.int IntKind.i64 (1 : Int)], [AV.int
  IntKind.i64 (-1 : Int)], [AV.int IntKind.i64 (60 : Int)], [AV.int IntKind.i64 (1440 : Int)], [AV.int IntKind.i64 ((-60000 : Int) + srcN (List.take (2000 : Nat) zs) (mnA (List.take
  (2000 : Nat) zs) (0 : Int)) (120001 : Int))], [AV.int IntKind.i64 (modZ (rawV (List.take (2000 : Nat) zs) (rawA (List.take (2000 : Nat) zs) (mnA (List.take (2000 : Nat) zs) (0 :
  Int)))) (16777216 : Int))]]))) else (0 : Int)) && true)))))) then True ∧ true = true else false = true else false = true else false = true else bif decide (decide (mnV (List.take
  (2000 : Nat) zs) (0 : Int) < max (0 : Int) (min (52595999 : Int) (mnV (List.take (2000 : Nat) zs) (0 : Int) + pckV (List.take (2000 : Nat) zs) (rawA (List.take (2000 : Nat) zs)
  (rawA (List.take (2000 : Nat) zs) (mnA (List.take (2000 : Nat) zs) (0 : Int)))) [[AV.int IntKind.i64 (0 : Int)], [AV.int IntKind.i64 (1 : Int)], [AV.int IntKind.i64 (-1 : Int)],
  [AV.int IntKind.i64 (60 : Int)], [AV.int IntKind.i64 (1440 : Int)], [AV.int IntKind.i64 ((-60000 : Int) + srcN (List.take (2000 : Nat) zs) (mnA (List.take (2000 : Nat) zs) (0 :
  Int)) (120001 : Int))], [AV.int IntKind.i64 (modZ (rawV (List.take (2000 : Nat) zs) (rawA (List.take (2000 : Nat) zs) (mnA (List.take (2000 : Nat) zs) (0 : Int)))) (16777216 :
  Int))]]))) = decide ((if inB (mnV (List.take (2000 : Nat) zs) (0 : Int)) = true then dtH (mnV (List.take (2000 : Nat) zs) (0 : Int)) else (0 : Int)) < if inB (max (0 : Int) (min
  (52595999 : Int) (mnV (List.take (2000 : Nat) zs) (0 : Int) + pckV (List.take (2000 : Nat) zs) (rawA (List.take (2000 : Nat) zs) (rawA (List.take (2000 : Nat) zs) (mnA (List.take
  (2000 : Nat) zs) (0 : Int)))) [[AV.int IntKind.i64 (0 : Int)], [AV.int IntKind.i64 (1 : Int)], [AV.int IntKind.i64 (-1 : Int)], [AV.int IntKind.i64 (60 : Int)], [AV.int IntKind.i64
  (1440 : Int)], [AV.int IntKind.i64 ((-60000 : Int) + srcN (List.take (2000 : Nat) zs) (mnA (List.take (2000 : Nat) zs) (0 : Int)) (120001 : Int))], [AV.int IntKind.i64 (modZ (rawV
  (List.take (2000 : Nat) zs) (rawA (List.take (2000 : Nat) zs) (mnA (List.take (2000 : Nat) zs) (0 : Int)))) (16777216 : Int))]]))) = true then dtH (max (0 : Int) (min (52595999 :
  Int) (mnV (List.take (2000 : Nat) zs) (0 : Int) + pckV (List.take (2000 : Nat) zs) (rawA (List.take (2000 : Nat) zs) (rawA (List.take (2000 : Nat) zs) (mnA (List.take (2000 : Nat)
  zs) (0 : Int)))) [[AV.int IntKind.i64 (0 : Int)], [AV.int IntKind.i64 (1 : Int)], [AV.int IntKind.i64 (-1 : Int)], [AV.int IntKind.i64 (60 : Int)], [AV.int IntKind.i64 (1440 :
  Int)], [AV.int IntKind.i64 ((-60000 : Int) + srcN (List.take (2000 : Nat) zs) (mnA (List.take (2000 : Nat) zs) (0 : Int)) (120001 : Int))], [AV.int IntKind.i64 (modZ (rawV
  (List.take (2000 : Nat) zs) (rawA (List.take (2000 : Nat) zs) (mnA (List.take (2000 : Nat) zs) (0 : Int)))) (16777216 : Int))]]))) else (0 : Int))) then bif decide (decide (mnV
  (List.take (2000 : Nat) zs) (0 : Int) < max (0 : Int) (min (52595999 : Int) (mnV (List.take (2000 : Nat) zs) (0 : Int) + pckV (List.take (2000 : Nat) zs) (rawA (List.take (2000 :
  Nat) zs) (rawA (List.take (2000 : Nat) zs) (mnA (List.take (2000 : Nat) zs) (0 : Int)))) [[AV.int IntKind.i64 (0 : Int)], [AV.int IntKind.i64 (1 : Int)], [AV.int IntKind.i64 (-1 :
  Int)], [AV.int IntKind.i64 (60 : Int)], [AV.int IntKind.i64 (1440 : Int)], [AV.int IntKind.i64 ((-60000 : Int) + srcN (List.take (2000 : Nat) zs) (mnA (List.take (2000 : Nat) zs)
  (0 : Int)) (120001 : Int))], [AV.int IntKind.i64 (modZ (rawV (List.take (2000 : Nat) zs) (rawA (List.take (2000 : Nat) zs) (mnA (List.take (2000 : Nat) zs) (0 : Int)))) (16777216 :
  Int))]]))) = Op.bytesLess (fmtC (mnV (List.take (2000 : Nat) zs) (0 : Int))).toList (fmtC (max (0 : Int) (min (52595999 : Int) (mnV (List.take (2000 : Nat) zs) (0 : Int) + pckV
  (List.take (2000 : Nat) zs) (rawA (List.take (2000 : Nat) zs) (rawA (List.take (2000 : Nat) zs) (mnA (List.take (2000 : Nat) zs) (0 : Int)))) [[AV.int IntKind.i64 (0 : Int)],
  [AV.int IntKind.i64 (1 : Int)], [AV.int IntKind.i64 (-1 : Int)], [AV.int IntKind.i64 (60 : Int)], [AV.int IntKind.i64 (1440 : Int)], [AV.int IntKind.i64 ((-60000 : Int) + srcN
  (List.take (2000 : Nat) zs) (mnA (List.take (2000 : Nat) zs) (0 : Int)) (120001 : Int))], [AV.int IntKind.i64 (modZ (rawV (List.take (2000 : Nat) zs) (rawA (List.take (2000 : Nat)
  zs) (mnA (List.take (2000 : Nat) zs) (0 : Int)))) (16777216 : Int))]])))).toList) then bif decide (decide (mnV (List.take (2000 : Nat) zs) (0 : Int) = max (0 : Int) (min (52595999
  : Int) (mnV (List.take (2000 : Nat) zs) (0 : Int) + pckV (List.take (2000 : Nat) zs) (rawA (List.take (2000 : Nat) zs) (rawA (List.take (2000 : Nat) zs) (mnA (List.take (2000 :
  Nat) zs) (0 : Int)))) [[AV.int IntKind.i64 (0 : Int)], [AV.int IntKind.i64 (1 : Int)], [AV.int IntKind.i64 (-1 : Int)], [AV.int IntKind.i64 (60 : Int)], [AV.int IntKind.i64 (1440 :
  Int)], [AV.int IntKind.i64 ((-60000 : Int) + srcN (List.take (2000 : Nat) zs) (mnA (List.take (2000 : Nat) zs) (0 : Int)) (120001 : Int))], [AV.int IntKind.i64 (modZ (rawV
  (List.take (2000 : Nat) zs) (rawA (List.take (2000 : Nat) zs) (mnA (List.take (2000 : Nat) zs) (0 : Int)))) (16777216 : Int))]]))) = (decide ((if inB (mnV (List.take (2000 : Nat)
  zs) (0 : Int)) = true then dtY (mnV (List.take (2000 : Nat) zs) (0 : Int)) else (0 : Int)) = if inB (max (0 : Int) (min (52595999 : Int) (mnV (List.take (2000 : Nat) zs) (0 : Int)
  + pckV (List.take (2000 : Nat) zs) (rawA (List.take (2000 : Nat) zs) (rawA (List.take (2000 : Nat) zs) (mnA (List.take (2000 : Nat) zs) (0 : Int)))) [[AV.int IntKind.i64 (0 :
  Int)], [AV.int IntKind.i64 (1 : Int)], [AV.int IntKind.i64 (-1 : Int)], [AV.int IntKind.i64 (60 : Int)], [AV.int IntKind.i64 (1440 : Int)], [AV.int IntKind.i64 ((-60000 : Int) +
  srcN (List.take (2000 : Nat) zs) (mnA (List.take (2000 : Nat) zs) (0 : Int)) (120001 : Int))], [AV.int IntKind.i64 (modZ (rawV (List.take (2000 : Nat) zs) (rawA (List.take (2000 :
  Nat) zs) (mnA (List.take (2000 : Nat) zs) (0 : Int)))) (16777216 : Int))]]))) = true then dtY (max (0 : Int) (min (52595999 : Int) (mnV (List.take (2000 : Nat) zs) (0 : Int) + pckV
  (List.take (2000 : Nat) zs) (rawA (List.take (2000 : Nat) zs) (rawA (List.take (2000 : Nat) zs) (mnA (List.take (2000 : Nat) zs) (0 : Int)))) [[AV.int IntKind.i64 (0 : Int)],
  [AV.int IntKind.i64 (1 : Int)], [AV.int IntKind.i64 (-1 : Int)], [AV.int IntKind.i64 (60 : Int)], [AV.int IntKind.i64 (1440 : Int)], [AV.int IntKind.i64 ((-60000 : Int) + srcN
  (List.take (2000 : Nat) zs) (mnA (List.take (2000 : Nat) zs) (0 : Int)) (120001 : Int))], [AV.int IntKind.i64 (modZ (rawV (List.take (2000 : Nat) zs) (rawA (List.take (2000 : Nat)
  zs) (mnA (List.take (2000 : Nat) zs) (0 : Int)))) (16777216 : Int))]]))) else (0 : Int)) && (decide ((if inB (mnV (List.take (2000 : Nat) zs) (0 : Int)) = true then dtM (mnV
  (List.take (2000 : Nat) zs) (0 : Int)) else (0 : Int)) = if inB (max (0 : Int) (min (52595999 : Int) (mnV (List.take (2000 : Nat) zs) (0 : Int) + pckV (List.take (2000 : Nat) zs)
  (rawA (List.take (2000 : Nat) zs) (rawA (List.take (2000 : Nat) zs) (mnA (List.take (2000 : Nat) zs) (0 : Int)))) [[AV.int IntKind.i64 (0 : Int)], [AV.int IntKind.i64 (1 : Int)],
  [AV.int IntKind.i64 (-1 : Int)], [AV.int IntKind.i64 (60 : Int)], [AV.int IntKind.i64 (1440 : Int)], [AV.int IntKind.i64 ((-60000 : Int) + srcN (List.take (2000 : Nat) zs) (mnA
  (List.take (2000 : Nat) zs) (0 : Int)) (120001 : Int))], [AV.int IntKind.i64 (modZ (rawV (List.take (2000 : Nat) zs) (rawA (List.take (2000 : Nat) zs) (mnA (List.take (2000 : Nat)
  zs) (0 : Int)))) (16777216 : Int))]]))) = true then dtM (max (0 : Int) (min (52595999 : Int) (mnV (List.take (2000 : Nat) zs) (0 : Int) + pckV (List.take (2000 : Nat) zs) (rawA
  (List.take (2000 : Nat) zs) (rawA (List.take (2000 : Nat) zs) (mnA (List.take (2000 : Nat) zs) (0 : Int)))) [[AV.int IntKind.i64 (0 : Int)], [AV.int IntKind.i64 (1 : Int)], [AV.int
  IntKind.i64 (-1 : Int)], [AV.int IntKind.i64 (60 : Int)], [AV.int IntKind.i64 (1440 : Int)], [AV.int IntKind.i64 ((-60000 : Int) + srcN (List.take (2000 : Nat) zs) (mnA (List.take
  (2000 : Nat) zs) (0 : Int)) (120001 : Int))], [AV.int IntKind.i64 (modZ (rawV (List.take (2000 : Nat) zs) (rawA (List.take (2000 : Nat) zs) (mnA (List.take (2000 : Nat) zs) (0 :
  Int)))) (16777216 : Int))]]))) else (0 : Int)) && (decide ((if inB (mnV (List.take (2000 : Nat) zs) (0 : Int)) = true then dtD (mnV (List.take (2000 : Nat) zs) (0 : Int)) else (0 :
  Int)) = if inB (max (0 : Int) (min (52595999 : Int) (mnV (List.take (2000 : Nat) zs) (0 : Int) + pckV (List.take (2000 : Nat) zs) (rawA (List.take (2000 : Nat) zs) (rawA (List.take
  (2000 : Nat) zs) (mnA (List.take (2000 : Nat) zs) (0 : Int)))) [[AV.int IntKind.i64 (0 : Int)], [AV.int IntKind.i64 (1 : Int)], [AV.int IntKind.i64 (-1 : Int)], [AV.int IntKind.i64
  (60 : Int)], [AV.int IntKind.i64 (1440 : Int)], [AV.int IntKind.i64 ((-60000 : Int) + srcN (List.take (2000 : Nat) zs) (mnA (List.take (2000 : Nat) zs) (0 : Int)) (120001 : Int))],
  [AV.int IntKind.i64 (modZ (rawV (List.take (2000 : Nat) zs) (rawA (List.take (2000 : Nat) zs) (mnA (List.take (2000 : Nat) zs) (0 : Int)))) (16777216 : Int))]]))) = true then dtD
  (max (0 : Int) (min (52595999 : Int) (mnV (List.take (2000 : Nat) zs) (0 : Int) + pckV (List.take (2000 : Nat) zs) (rawA (List.take (2000 : Nat) zs) (rawA (List.take (2000 : Nat)
  zs) (mnA (List.take (2000 : Nat) zs) (0 : Int)))) [[AV.int IntKind.i64 (0 : Int)], [AV.int IntKind.i64 (1 : Int)], [AV.int IntKind.i64 (-1 : Int)], [AV.int IntKind.i64 (60 : Int)],
  [AV.int IntKind.i64 (1440 : Int)], [AV.int IntKind.i64 ((-60000 : Int) + srcN (List.take (2000 : Nat) zs) (mnA (List.take (2000 : Nat) zs) (0 : Int)) (120001 : Int))], [AV.int
  IntKind.i64 (modZ (rawV (List.take (2000 : Nat) zs) (rawA (List.take (2000 : Nat) zs) (mnA (List.take (2000 : Nat) zs) (0 : Int)))) (16777216 : Int))]]))) else (0 : Int)) &&
  (decide ((if inB (mnV (List.take (2000 : Nat) zs) (0 : Int)) = true then dtH (mnV (List.take (2000 : Nat) zs) (0 : Int)) else (0 : Int)) = if inB (max (0 : Int) (min (52595999 :
  Int) (mnV (List.take (2000 : Nat) zs) (0 : Int) + pckV (List.take (2000 : Nat) zs) (rawA (List.take (2000 : Nat) zs) (rawA (List.take (2000 : Nat) zs) (mnA (List.take (2000 : Nat)
  zs) (0 : Int)))) [[AV.int IntKind.i64 (0 : Int)], [AV.int IntKind.i64 (1 : Int)], [AV.int IntKind.i64 (-1 : Int)], [AV.int IntKind.i64 (60 : Int)], [AV.int IntKind.i64 (1440 :
  Int)], [AV.int IntKind.i64 ((-60000 : Int) + srcN (List.take (2000 : Nat) zs) (mnA (List.take (2000 : Nat) zs) (0 : Int)) (120001 : Int))], [AV.int IntKind.i64 (modZ (rawV
  (List.take (2000 : Nat) zs) (rawA (List.take (2000 : Nat) zs) (mnA (List.take (2000 : Nat) zs) (0 : Int)))) (16777216 : Int))]]))) = true then dtH (max (0 : Int) (min (52595999 :
  Int) (mnV (List.take (2000 : Nat) zs) (0 : Int) + pckV (List.take (2000 : Nat) zs) (rawA (List.take (2000 : Nat) zs) (rawA (List.take (2000 : Nat) zs) (mnA (List.take (2000 : Nat)
  zs) (0 : Int)))) [[AV.int IntKind.i64 (0 : Int)], [AV.int IntKind.i64 (1 : Int)], [AV.int IntKind.i64 (-1 : Int)], [AV.int IntKind.i64 (60 : Int)], [AV.int IntKind.i64 (1440 :
  Int)], [AV.int IntKind.i64 ((-60000 : Int) + srcN (List.take (2000 : Nat) zs) (mnA (List.take (2000 : Nat) zs) (0 : Int)) (120001 : Int))], [AV.int IntKind.i64 (modZ (rawV
  (List.take (2000 : Nat) zs) (rawA (List.take (2000 : Nat) zs) (mnA (List.take (2000 : Nat) zs) (0 : Int)))) (16777216 : Int))]]))) else (0 : Int)) && (decide ((if inB (mnV
  (List.take (2000 : Nat) zs) (0 : Int)) = true then dtI (mnV (List.take (2000 : Nat) zs) (0 : Int)) else (0 : Int)) = if inB (max (0 : Int) (min (52595999 : Int) (mnV (List.take
  (2000 : Nat) zs) (0 : Int) + pckV (List.take (2000 : Nat) zs) (rawA (List.take (2000 : Nat) zs) (rawA (List.take (2000 : Nat) zs) (mnA (List.take (2000 : Nat) zs) (0 : Int))))
  [[AV.int IntKind.i64 (0 : Int)], [AV.int IntKind.i64 (1 : Int)], [AV.int IntKind.i64 (-1 : Int)], [AV.int IntKind.i64 (60 : Int)], [AV.int IntKind.i64 (1440 : Int)], [AV.int
  IntKind.i64 ((-60000 : Int) + srcN (List.take (2000 : Nat) zs) (mnA (List.take (2000 : Nat) zs) (0 : Int)) (120001 : Int))], [AV.int IntKind.i64 (modZ (rawV (List.take (2000 : Nat)
  zs) (rawA (List.take (2000 : Nat) zs) (mnA (List.take (2000 : Nat) zs) (0 : Int)))) (16777216 : Int))]]))) = true then dtI (max (0 : Int) (min (52595999 : Int) (mnV (List.take
  (2000 : Nat) zs) (0 : Int) + pckV (List.take (2000 : Nat) zs) (rawA (List.take (2000 : Nat) zs) (rawA (List.take (2000 : Nat) zs) (mnA (List.take (2000 : Nat) zs) (0 : Int))))
  [[AV.int IntKind.i64 (0 : Int)], [AV.int IntKind.i64 (1 : Int)], [AV.int IntKind.i64 (-1 : Int)], [AV.int IntKind.i64 (60 : Int)], [AV.int IntKind.i64 (1440 : Int)], [AV.int
  IntKind.i64 ((-60000 : Int) + srcN (List.take (2000 : Nat) zs) (mnA (List.take (2000 : Nat) zs) (0 : Int)) (120001 : Int))], [AV.int IntKind.i64 (modZ (rawV (List.take (2000 : Nat)
  zs) (rawA (List.take (2000 : Nat) zs) (mnA (List.take (2000 : Nat) zs) (0 : Int)))) (16777216 : Int))]]))) else (0 : Int)) && true)))))) then True ∧ true = true else false = true
  else false = true else false = true else bif decide (decide (mnV (List.take (2000 : Nat) zs) (0 : Int) < max (0 : Int) (min (52595999 : Int) (mnV (List.take (2000 : Nat) zs) (0 :
  Int) + pckV (List.take (2000 : Nat) zs) (rawA (List.take (2000 : Nat) zs) (rawA (List.take (2000 : Nat) zs) (mnA (List.take (2000 : Nat) zs) (0 : Int)))) [[AV.int IntKind.i64 (0 :
  Int)], [AV.int IntKind.i64 (1 : Int)], [AV.int IntKind.i64 (-1 : Int)], [AV.int IntKind.i64 (60 : Int)], [AV.int IntKind.i64 (1440 : Int)], [AV.int IntKind.i64 ((-60000 : Int) +
  srcN (List.take (2000 : Nat) zs) (mnA (List.take (2000 : Nat) zs) (0 : Int)) (120001 : Int))], [AV.int IntKind.i64 (modZ (rawV (List.take (2000 : Nat) zs) (rawA (List.take (2000 :
  Nat) zs) (mnA (List.take (2000 : Nat) zs) (0 : Int)))) (16777216 : Int))]]))) = decide ((if inB (mnV (List.take (2000 : Nat) zs) (0 : Int)) = true then dtD (mnV (List.take (2000 :
  Nat) zs) (0 : Int)) else (0 : Int)) < if inB (max (0 : Int) (min (52595999 : Int) (mnV (List.take (2000 : Nat) zs) (0 : Int) + pckV (List.take (2000 : Nat) zs) (rawA (List.take
  (2000 : Nat) zs) (rawA (List.take (2000 : Nat) zs) (mnA (List.take (2000 : Nat) zs) (0 : Int)))) [[AV.int IntKind.i64 (0 : Int)], [AV.int IntKind.i64 (1 : Int)], [AV.int
  IntKind.i64 (-1 : Int)], [AV.int IntKind.i64 (60 : Int)], [AV.int IntKind.i64 (1440 : Int)], [AV.int IntKind.i64 ((-60000 : Int) + srcN (List.take (2000 : Nat) zs) (mnA (List.take
  (2000 : Nat) zs) (0 : Int)) (120001 : Int))], [AV.int IntKind.i64 (modZ (rawV (List.take (2000 : Nat) zs) (rawA (List.take (2000 : Nat) zs) (mnA (List.take (2000 : Nat) zs) (0 :
  Int)))) (16777216 : Int))]]))) = true then dtD (max (0 : Int) (min (52595999 : Int) (mnV (List.take (2000 : Nat) zs) (0 : Int) + pckV (List.take (2000 : Nat) zs) (rawA (List.take
  (2000 : Nat) zs) (rawA (List.take (2000 : Nat) zs) (mnA (List.take (2000 : Nat) zs) (0 : Int)))) [[AV.int IntKind.i64 (0 : Int)], [AV.int IntKind.i64 (1 : Int)], [AV.int
  IntKind.i64 (-1 : Int)], [AV.int IntKind.i64 (60 : Int)], [AV.int IntKind.i64 (1440 : Int)], [AV.int IntKind.i64 ((-60000 : Int) + srcN (List.take (2000 : Nat) zs) (mnA (List.take
  (2000 : Nat) zs) (0 : Int)) (120001 : Int))], [AV.int IntKind.i64 (modZ (rawV (List.take (2000 : Nat) zs) (rawA (List.take (2000 : Nat) zs) (mnA (List.take (2000 : Nat) zs) (0 :
  Int)))) (16777216 : Int))]]))) else (0 : Int))) then bif decide (decide (mnV (List.take (2000 : Nat) zs) (0 : Int) < max (0 : Int) (min (52595999 : Int) (mnV (List.take (2000 :
  Nat) zs) (0 : Int) + pckV (List.take (2000 : Nat) zs) (rawA (List.take (2000 : Nat) zs) (rawA (List.take (2000 : Nat) zs) (mnA (List.take (2000 : Nat) zs) (0 : Int)))) [[AV.int
  IntKind.i64 (0 : Int)], [AV.int IntKind.i64 (1 : Int)], [AV.int IntKind.i64 (-1 : Int)], [AV.int IntKind.i64 (60 : Int)], [AV.int IntKind.i64 (1440 : Int)], [AV.int IntKind.i64
  ((-60000 : Int) + srcN (List.take (2000 : Nat) zs) (mnA (List.take (2000 : Nat) zs) (0 : Int)) (120001 : Int))], [AV.int IntKind.i64 (modZ (rawV (List.take (2000 : Nat) zs) (rawA
  (List.take (2000 : Nat) zs) (mnA (List.take (2000 : Nat) zs) (0 : Int)))) (16777216 : Int))]]))) = Op.bytesLess (fmtC (mnV (List.take (2000 : Nat) zs) (0 : Int))).toList (fmtC (max
  (0 : Int) (min (52595999 : Int) (mnV (List.take (2000 : Nat) zs) (0 : Int) + pckV (List.take (2000 : Nat) zs) (rawA (List.take (2000 : Nat) zs) (rawA (List.take (2000 : Nat) zs)
  (mnA (List.take (2000 : Nat) zs) (0 : Int)))) [[AV.int IntKind.i64 (0 : Int)], [AV.int IntKind.i64 (1 : Int)], [AV.int IntKind.i64 (-1 : Int)], [AV.int IntKind.i64 (60 : Int)],
  [AV.int IntKind.i64 (1440 : Int)], [AV.int IntKind.i64 ((-60000 : Int) + srcN (List.take (2000 : Nat) zs) (mnA (List.take (2000 : Nat) zs) (0 : Int)) (120001 : Int))], [AV.int
  IntKind.i64 (modZ (rawV (List.take (2000 : Nat) zs) (rawA (List.take (2000 : Nat) zs) (mnA (List.take (2000 : Nat) zs) (0 : Int)))) (16777216 : Int))]])))).toList) then bif decide
  (decide (mnV (List.take (2000 : Nat) zs) (0 : Int) = max (0 : Int) (min (52595999 : Int) (mnV (List.take (2000 : Nat) zs) (0 : Int) + pckV (List.take (2000 : Nat) zs) (rawA
  (List.take (2000 : Nat) zs) (rawA (List.take (2000 : Nat) zs) (mnA (List.take (2000 : Nat) zs) (0 : Int)))) [[AV.int IntKind.i64 (0 : Int)], [AV.int IntKind.i64 (1 : Int)], [AV.int
  IntKind.i64 (-1 : Int)], [AV.int IntKind.i64 (60 : Int)], [AV.int IntKind.i64 (1440 : Int)], [AV.int IntKind.i64 ((-60000 : Int) + srcN (List.take (2000 : Nat) zs) (mnA (List.take
  (2000 : Nat) zs) (0 : Int)) (120001 : Int))], [AV.int IntKind.i64 (modZ (rawV (List.take (2000 : Nat) zs) (rawA (List.take (2000 : Nat) zs) (mnA (List.take (2000 : Nat) zs) (0 :
  Int)))) (16777216 : Int))]]))) = (decide ((if inB (mnV (List.take (2000 : Nat) zs) (0 : Int)) = true then dtY (mnV (List.take (2000 : Nat) zs) (0 : Int)) else (0 : Int)) = if inB
  (max (0 : Int) (min (52595999 : Int) (mnV (List.take (2000 : Nat) zs) (0 : Int) + pckV (List.take (2000 : Nat) zs) (rawA (List.take (2000 : Nat) zs) (rawA (List.take (2000 : Nat)
  zs) (mnA (List.take (2000 : Nat) zs) (0 : Int)))) [[AV.int IntKind.i64 (0 : Int)], [AV.int IntKind.i64 (1 : Int)], [AV.int IntKind.i64 (-1 : Int)], [AV.int IntKind.i64 (60 : Int)],
  [AV.int IntKind.i64 (1440 : Int)], [AV.int IntKind.i64 ((-60000 : Int) + srcN (List.take (2000 : Nat) zs) (mnA (List.take (2000 : Nat) zs) (0 : Int)) (120001 : Int))], [AV.int
  IntKind.i64 (modZ (rawV (List.take (2000 : Nat) zs) (rawA (List.take (2000 : Nat) zs) (mnA (List.take (2000 : Nat) zs) (0 : Int)))) (16777216 : Int))]]))) = true then dtY (max (0 :
  Int) (min (52595999 : Int) (mnV (List.take (2000 : Nat) zs) (0 : Int) + pckV (List.take (2000 : Nat) zs) (rawA (List.take (2000 : Nat) zs) (rawA (List.take (2000 : Nat) zs) (mnA
  (List.take (2000 : Nat) zs) (0 : Int)))) [[AV.int IntKind.i64 (0 : Int)], [AV.int IntKind.i64 (1 : Int)], [AV.int IntKind.i64 (-1 : Int)], [AV.int IntKind.i64 (60 : Int)], [AV.int
  IntKind.i64 (1440 : Int)], [AV.int IntKind.i64 ((-60000 : Int) + srcN (List.take (2000 : Nat) zs) (mnA (List.take (2000 : Nat) zs) (0 : Int)) (120001 : Int))], [AV.int IntKind.i64
  (modZ (rawV (List.take (2000 : Nat) zs) (rawA (List.take (2000 : Nat) zs) (mnA (List.take (2000 : Nat) zs) (0 : Int)))) (16777216 : Int))]]))) else (0 : Int)) && (decide ((if inB
  (mnV (List.take (2000 : Nat) zs) (0 : Int)) = true then dtM (mnV (List.take (2000 : Nat) zs) (0 : Int)) else (0 : Int)) = if inB (max (0 : Int) (min (52595999 : Int) (mnV
  (List.take (2000 : Nat) zs) (0 : Int) + pckV (List.take (2000 : Nat) zs) (rawA (List.take (2000 : Nat) zs) (rawA (List.take (2000 : Nat) zs) (mnA (List.take (2000 : Nat) zs) (0 :
  Int)))) [[AV.int IntKind.i64 (0 : Int)], [AV.int IntKind.i64 (1 : Int)], [AV.int IntKind.i64 (-1 : Int)], [AV.int IntKind.i64 (60 : Int)], [AV.int IntKind.i64 (1440 : Int)],
  [AV.int IntKind.i64 ((-60000 : Int) + srcN (List.take (2000 : Nat) zs) (mnA (List.take (2000 : Nat) zs) (0 : Int)) (120001 : Int))], [AV.int IntKind.i64 (modZ (rawV (List.take
  (2000 : Nat) zs) (rawA (List.take (2000 : Nat) zs) (mnA (List.take (2000 : Nat) zs) (0 : Int)))) (16777216 : Int))]]))) = true then dtM (max (0 : Int) (min (52595999 : Int) (mnV
  (List.take (2000 : Nat) zs) (0 : Int) + pckV (List.take (2000 : Nat) zs) (rawA (List.take (2000 : Nat) zs) (rawA (List.take (2000 : Nat) zs) (mnA (List.take (2000 : Nat) zs) (0 :
  Int)))) [[AV.int IntKind.i64 (0 : Int)], [AV.int IntKind.i64 (1 : Int)], [AV.int IntKind.i64 (-1 : Int)], [AV.int IntKind.i64 (60 : Int)], [AV.int IntKind.i64 (1440 : Int)],
  [AV.int IntKind.i64 ((-60000 : Int) + srcN (List.take (2000 : Nat) zs) (mnA (List.take (2000 : Nat) zs) (0 : Int)) (120001 : Int))], [AV.int IntKind.i64 (modZ (rawV (List.take
  (2000 : Nat) zs) (rawA (List.take (2000 : Nat) zs) (mnA (List.take (2000 : Nat) zs) (0 : Int)))) (16777216 : Int))]]))) else (0 : Int)) && (decide ((if inB (mnV (List.take (2000 :
  Nat) zs) (0 : Int)) = true then dtD (mnV (List.take (2000 : Nat) zs) (0 : Int)) else (0 : Int)) = if inB (max (0 : Int) (min (52595999 : Int) (mnV (List.take (2000 : Nat) zs) (0 :
  Int) + pckV (List.take (2000 : Nat) zs) (rawA (List.take (2000 : Nat) zs) (rawA (List.take (2000 : Nat) zs) (mnA (List.take (2000 : Nat) zs) (0 : Int)))) [[AV.int IntKind.i64 (0 :
  Int)], [AV.int IntKind.i64 (1 : Int)], [AV.int IntKind.i64 (-1 : Int)], [AV.int IntKind.i64 (60 : Int)], [AV.int IntKind.i64 (1440 : Int)], [AV.int IntKind.i64 ((-60000 : Int) +
  srcN (List.take (2000 : Nat) zs) (mnA (List.take (2000 : Nat) zs) (0 : Int)) (120001 : Int))], [AV.int IntKind.i64 (modZ (rawV (List.take (2000 : Nat) zs) (rawA (List.take (2000 :
  Nat) zs) (mnA (List.take (2000 : Nat) zs) (0 : Int)))) (16777216 : Int))]]))) = true then dtD (max (0 : Int) (min (52595999 : Int) (mnV (List.take (2000 : Nat) zs) (0 : Int) + pckV
  (List.take (2000 : Nat) zs) (rawA (List.take (2000 : Nat) zs) (rawA (List.take (2000 : Nat) zs) (mnA (List.take (2000 : Nat) zs) (0 : Int)))) [[AV.int IntKind.i64 (0 : Int)],
  [AV.int IntKind.i64 (1 : Int)], [AV.int IntKind.i64 (-1 : Int)], [AV.int IntKind.i64 (60 : Int)], [AV.int IntKind.i64 (1440 : Int)], [AV.int IntKind.i64 ((-60000 : Int) + srcN
  (List.take (2000 : Nat) zs) (mnA (List.take (2000 : Nat) zs) (0 : Int)) (120001 : Int))], [AV.int IntKind.i64 (modZ (rawV (List.take (2000 : Nat) zs) (rawA (List.take (2000 : Nat)
  zs) (mnA (List.take (2000 : Nat) zs) (0 : Int)))) (16777216 : Int))]]))) else (0 : Int)) && (decide ((if inB (mnV (List.take (2000 : Nat) zs) (0 : Int)) = true then dtH (mnV
  (List.take (2000 : Nat) zs) (0 : Int)) else (0 : Int)) = if inB (max (0 : Int) (min (52595999 : Int) (mnV (List.take (2000 : Nat) zs) (0 : Int) + pckV (List.take (2000 : Nat) zs)
  (rawA (List.take (2000 : Nat) zs) (rawA (List.take (2000 : Nat) zs) (mnA (List.take (2000 : Nat) zs) (0 : Int)))) [[AV.int IntKind.i64 (0 : Int)], [AV.int IntKind.i64 (1 : Int)],
  [AV.int IntKind.i64 (-1 : Int)], [AV.int IntKind.i64 (60 : Int)], [AV.int IntKind.i64 (1440 : Int)], [AV.int IntKind.i64 ((-60000 : Int) + srcN (List.take (2000 : Nat) zs) (mnA
  (List.take (2000 : Nat) zs) (0 : Int)) (120001 : Int))], [AV.int IntKind.i64 (modZ (rawV (List.take (2000 : Nat) zs) (rawA (List.take (2000 : Nat) zs) (mnA (List.take (2000 : Nat)
  zs) (0 : Int)))) (16777216 : Int))]]))) = true then dtH (max (0 : Int) (min (52595999 : Int) (mnV (List.take (2000 : Nat) zs) (0 : Int) + pckV (List.take (2000 : Nat) zs) (rawA
  (List.take (2000 : Nat) zs) (rawA (List.take (2000 : Nat) zs) (mnA (List.take (2000 : Nat) zs) (0 : Int)))) [[AV.int IntKind.i64 (0 : Int)], [AV.int IntKind.i64 (1 : Int)], [AV.int
  IntKind.i64 (-1 : Int)], [AV.int IntKind.i64 (60 : Int)], [AV.int IntKind.i64 (1440 : Int)], [AV.int IntKind.i64 ((-60000 : Int) + srcN (List.take (2000 : Nat) zs) (mnA (List.take
  (2000 : Nat) zs) (0 : Int)) (120001 : Int))], [AV.int IntKind.i64 (modZ (rawV (List.take (2000 : Nat) zs) (rawA (List.take (2000 : Nat) zs) (mnA (List.take (2000 : Nat) zs) (0 :
  Int)))) (16777216 : Int))]]))) else (0 : Int)) && (decide ((if inB (mnV (List.take (2000 : Nat) zs) (0 : Int)) = true then dtI (mnV (List.take (2000 : Nat) zs) (0 : Int)) else (0 :
  Int)) = if inB (max (0 : Int) (min (52595999 : Int) (mnV (List.take (2000 : Nat) zs) (0 : Int) + pckV (List.take (2000 : Nat) zs) (rawA (List.take (2000 : Nat) zs) (rawA (List.take
  (2000 : Nat) zs) (mnA (List.take (2000 : Nat) zs) (0 : Int)))) [[AV.int IntKind.i64 (0 : Int)], [AV.int IntKind.i64 (1 : Int)], [AV.int IntKind.i64 (-1 : Int)], [AV.int IntKind.i64
  (60 : Int)], [AV.int IntKind.i64 (1440 : Int)], [AV.int IntKind.i64 ((-60000 : Int) + srcN (List.take (2000 : Nat) zs) (mnA (List.take (2000 : Nat) zs) (0 : Int)) (120001 : Int))],
  [AV.int IntKind.i64 (modZ (rawV (List.take (2000 : Nat) zs) (rawA (List.take (2000 : Nat) zs) (mnA (List.take (2000 : Nat) zs) (0 : Int)))) (16777216 : Int))]]))) = true then dtI
  (max (0 : Int) (min (52595999 : Int) (mnV (List.take (2000 : Nat) zs) (0 : Int) + pckV (List.take (2000 : Nat) zs) (rawA (List.take (2000 : Nat) zs) (rawA (List.take (2000 : Nat)
  zs) (mnA (List.take (2000 : Nat) zs) (0 : Int)))) [[AV.int IntKind.i64 (0 : Int)], [AV.int IntKind.i64 (1 : Int)], [AV.int IntKind.i64 (-1 : Int)], [AV.int IntKind.i64 (60 : Int)],
  [AV.int IntKind.i64 (1440 : Int)], [AV.int IntKind.i64 ((-60000 : Int) + srcN (List.take (2000 : Nat) zs) (mnA (List.take (2000 : Nat) zs) (0 : Int)) (120001 : Int))], [AV.int
  IntKind.i64 (modZ (rawV (List.take (2000 : Nat) zs) (rawA (List.take (2000 : Nat) zs) (mnA (List.take (2000 : Nat) zs) (0 : Int)))) (16777216 : Int))]]))) else (0 : Int)) &&
  true)))))) then True ∧ true = true else false = true else false = true else false = true else bif decide (decide (mnV (List.take (2000 : Nat) zs) (0 : Int) < max (0 : Int) (min
  (52595999 : Int) (mnV (List.take (2000 : Nat) zs) (0 : Int) + pckV (List.take (2000 : Nat) zs) (rawA (List.take (2000 : Nat) zs) (rawA (List.take (2000 : Nat) zs) (mnA (List.take
  (2000 : Nat) zs) (0 : Int)))) [[AV.int IntKind.i64 (0 : Int)], [AV.int IntKind.i64 (1 : Int)], [AV.int IntKind.i64 (-1 : Int)], [AV.int IntKind.i64 (60 : Int)], [AV.int IntKind.i64
  (1440 : Int)], [AV.int IntKind.i64 ((-60000 : Int) + srcN (List.take (2000 : Nat) zs) (mnA (List.take (2000 : Nat) zs) (0 : Int)) (120001 : Int))], [AV.int IntKind.i64 (modZ (rawV
  (List.take (2000 : Nat) zs) (rawA (List.take (2000 : Nat) zs) (mnA (List.take (2000 : Nat) zs) (0 : Int)))) (16777216 : Int))]]))) = decide ((if inB (mnV (List.take (2000 : Nat)
  zs) (0 : Int)) = true then dtM (mnV (List.take (2000 : Nat) zs) (0 : Int)) else (0 : Int)) < if inB (max (0 : Int) (min (52595999 : Int) (mnV (List.take (2000 : Nat) zs) (0 : Int)
  + pckV (List.take (2000 : Nat) zs) (rawA (List.take (2000 : Nat) zs) (rawA (List.take (2000 : Nat) zs) (mnA (List.take (2000 : Nat) zs) (0 : Int)))) [[AV.int IntKind.i64 (0 :
  Int)], [AV.int IntKind.i64 (1 : Int)], [AV.int IntKind.i64 (-1 : Int)], [AV.int IntKind.i64 (60 : Int)], [AV.int IntKind.i64 (1440 : Int)], [AV.int IntKind.i64 ((-60000 : Int) +
  srcN (List.take (2000 : Nat) zs) (mnA (List.take (2000 : Nat) zs) (0 : Int)) (120001 : Int))], [AV.int IntKind.i64 (modZ (rawV (List.take (2000 : Nat) zs) (rawA (List.take (2000 :
  Nat) zs) (mnA (List.take (2000 : Nat) zs) (0 : Int)))) (16777216 : Int))]]))) = true then dtM (max (0 : Int) (min (52595999 : Int) (mnV (List.take (2000 : Nat) zs) (0 : Int) + pckV
  (List.take (2000 : Nat) zs) (rawA (List.take (2000 : Nat) zs) (rawA (List.take (2000 : Nat) zs) (mnA (List.take (2000 : Nat) zs) (0 : Int)))) [[AV.int IntKind.i64 (0 : Int)],
  [AV.int IntKind.i64 (1 : Int)], [AV.int IntKind.i64 (-1 : Int)], [AV.int IntKind.i64 (60 : Int)], [AV.int IntKind.i64 (1440 : Int)], [AV.int IntKind.i64 ((-60000 : Int) + srcN
  (List.take (2000 : Nat) zs) (mnA (List.take (2000 : Nat) zs) (0 : Int)) (120001 : Int))], [AV.int IntKind.i64 (modZ (rawV (List.take (2000 : Nat) zs) (rawA (List.take (2000 : Nat)
  zs) (mnA (List.take (2000 : Nat) zs) (0 : Int)))) (16777216 : Int))]]))) else (0 : Int))) then bif decide (decide (mnV (List.take (2000 : Nat) zs) (0 : Int) < max (0 : Int) (min
  (52595999 : Int) (mnV (List.take (2000 : Nat) zs) (0 : Int) + pckV (List.take (2000 : Nat) zs) (rawA (List.take (2000 : Nat) zs) (rawA (List.take (2000 : Nat) zs) (mnA (List.take
  (2000 : Nat) zs) (0 : Int)))) [[AV.int IntKind.i64 (0 : Int)], [AV.int IntKind.i64 (1 : Int)], [AV.int IntKind.i64 (-1 : Int)], [AV.int IntKind.i64 (60 : Int)], [AV.int IntKind.i64
  (1440 : Int)], [AV.int IntKind.i64 ((-60000 : Int) + srcN (List.take (2000 : Nat) zs) (mnA (List.take (2000 : Nat) zs) (0 : Int)) (120001 : Int))], [AV.int IntKind.i64 (modZ (rawV
  (List.take (2000 : Nat) zs) (rawA (List.take (2000 : Nat) zs) (mnA (List.take (2000 : Nat) zs) (0 : Int)))) (16777216 : Int))]]))) = Op.bytesLess (fmtC (mnV (List.take (2000 : Nat)
  zs) (0 : Int))).toList (fmtC (max (0 : Int) (min (52595999 : Int) (mnV (List.take (2000 : Nat) zs) (0 : Int) + pckV (List.take (2000 : Nat) zs) (rawA (List.take (2000 : Nat) zs)
  (rawA (List.take (2000 : Nat) zs) (mnA (List.take (2000 : Nat) zs) (0 : Int)))) [[AV.int IntKind.i64 (0 : Int)], [AV.int IntKind.i64 (1 : Int)], [AV.int IntKind.i64 (-1 : Int)],
  [AV.int IntKind.i64 (60 : Int)], [AV.int IntKind.i64 (1440 : Int)], [AV.int IntKind.i64 ((-60000 : Int) + srcN (List.take (2000 : Nat) zs) (mnA (List.take (2000 : Nat) zs) (0 :
  Int)) (120001 : Int))], [AV.int IntKind.i64 (modZ (rawV (List.take (2000 : Nat) zs) (rawA (List.take (2000 : Nat) zs) (mnA (List.take (2000 : Nat) zs) (0 : Int)))) (16777216 :
  Int))]])))).toList) then bif decide (decide (mnV (List.take (2000 : Nat) zs) (0 : Int) = max (0 : Int) (min (52595999 : Int) (mnV (List.take (2000 : Nat) zs) (0 : Int) + pckV
  (List.take (2000 : Nat) zs) (rawA (List.take (2000 : Nat) zs) (rawA (List.take (2000 : Nat) zs) (mnA (List.take (2000 : Nat) zs) (0 : Int)))) [[AV.int IntKind.i64 (0 : Int)],
  [AV.int IntKind.i64 (1 : Int)], [AV.int IntKind.i64 (-1 : Int)], [AV.int IntKind.i64 (60 : Int)], [AV.int IntKind.i64 (1440 : Int)], [AV.int IntKind.i64 ((-60000 : Int) + srcN
  (List.take (2000 : Nat) zs) (mnA (List.take (2000 : Nat) zs) (0 : Int)) (120001 : Int))], [AV.int IntKind.i64 (modZ (rawV (List.take (2000 : Nat) zs) (rawA (List.take (2000 : Nat)
  zs) (mnA (List.take (2000 : Nat) zs) (0 : Int)))) (16777216 : Int))]]))) = (decide ((if inB (mnV (List.take (2000 : Nat) zs) (0 : Int)) = true then dtY (mnV (List.take (2000 : Nat)
  zs) (0 : Int)) else (0 : Int)) = if inB (max (0 : Int) (min (52595999 : Int) (mnV (List.take (2000 : Nat) zs) (0 : Int) + pckV (List.take (2000 : Nat) zs) (rawA (List.take (2000 :
  Nat) zs) (rawA (List.take (2000 : Nat) zs) (mnA (List.take (2000 : Nat) zs) (0 : Int)))) [[AV.int IntKind.i64 (0 : Int)], [AV.int IntKind.i64 (1 : Int)], [AV.int IntKind.i64 (-1 :
  Int)], [AV.int IntKind.i64 (60 : Int)], [AV.int IntKind.i64 (1440 : Int)], [AV.int IntKind.i64 ((-60000 : Int) + srcN (List.take (2000 : Nat) zs) (mnA (List.take (2000 : Nat) zs)
  (0 : Int)) (120001 : Int))], [AV.int IntKind.i64 (modZ (rawV (List.take (2000 : Nat) zs) (rawA (List.take (2000 : Nat) zs) (mnA (List.take (2000 : Nat) zs) (0 : Int)))) (16777216 :
  Int))]]))) = true then dtY (max (0 : Int) (min (52595999 : Int) (mnV (List.take (2000 : Nat) zs) (0 : Int) + pckV (List.take (2000 : Nat) zs) (rawA (List.take (2000 : Nat) zs)
  (rawA (List.take (2000 : Nat) zs) (mnA (List.take (2000 : Nat) zs) (0 : Int)))) [[AV.int IntKind.i64 (0 : Int)], [AV.int IntKind.i64 (1 : Int)], [AV.int IntKind.i64 (-1 : Int)],
  [AV.int IntKind.i64 (60 : Int)], [AV.int IntKind.i64 (1440 : Int)], [AV.int IntKind.i64 ((-60000 : Int) + srcN (List.take (2000 : Nat) zs) (mnA (List.take (2000 : Nat) zs) (0 :
  Int)) (120001 : Int))], [AV.int IntKind.i64 (modZ (rawV (List.take (2000 : Nat) zs) (rawA (List.take (2000 : Nat) zs) (mnA (List.take (2000 : Nat) zs) (0 : Int)))) (16777216 :
  Int))]]))) else (0 : Int)) && (decide ((if inB (mnV (List.take (2000 : Nat) zs) (0 : Int)) = true then dtM (mnV (List.take (2000 : Nat) zs) (0 : Int)) else (0 : Int)) = if inB (max
  (0 : Int) (min (52595999 : Int) (mnV (List.take (2000 : Nat) zs) (0 : Int) + pckV (List.take (2000 : Nat) zs) (rawA (List.take (2000 : Nat) zs) (rawA (List.take (2000 : Nat) zs)
  (mnA (List.take (2000 : Nat) zs) (0 : Int)))) [[AV.int IntKind.i64 (0 : Int)], [AV.int IntKind.i64 (1 : Int)], [AV.int IntKind.i64 (-1 : Int)], [AV.int IntKind.i64 (60 : Int)],
  [AV.int IntKind.i64 (1440 : Int)], [AV.int IntKind.i64 ((-60000 : Int) + srcN (List.take (2000 : Nat) zs) (mnA (List.take (2000 : Nat) zs) (0 : Int)) (120001 : Int))], [AV.int
  IntKind.i64 (modZ (rawV (List.take (2000 : Nat) zs) (rawA (List.take (2000 : Nat) zs) (mnA (List.take (2000 : Nat) zs) (0 : Int)))) (16777216 : Int))]]))) = true then dtM (max (0 :
  Int) (min (52595999 : Int) (mnV (List.take (2000 : Nat) zs) (0 : Int) + pckV (List.take (2000 : Nat) zs) (rawA (List.take (2000 : Nat) zs) (rawA (List.take (2000 : Nat) zs) (mnA
  (List.take (2000 : Nat) zs) (0 : Int)))) [[AV.int IntKind.i64 (0 : Int)], [AV.int IntKind.i64 (1 : Int)], [AV.int IntKind.i64 (-1 : Int)], [AV.int IntKind.i64 (60 : Int)], [AV.int
  IntKind.i64 (1440 : Int)], [AV.int IntKind.i64 ((-60000 : Int) + srcN (List.take (2000 : Nat) zs) (mnA (List.take (2000 : Nat) zs) (0 : Int)) (120001 : Int))], [AV.int IntKind.i64
  (modZ (rawV (List.take (2000 : Nat) zs) (rawA (List.take (2000 : Nat) zs) (mnA (List.take (2000 : Nat) zs) (0 : Int)))) (16777216 : Int))]]))) else (0 : Int)) && (decide ((if inB
  (mnV (List.take (2000 : Nat) zs) (0 : Int)) = true then dtD (mnV (List.take (2000 : Nat) zs) (0 : Int)) else (0 : Int)) = if inB (max (0 : Int) (min (52595999 : Int) (mnV
  (List.take (2000 : Nat) zs) (0 : Int) + pckV (List.take (2000 : Nat) zs) (rawA (List.take (2000 : Nat) zs) (rawA (List.take (2000 : Nat) zs) (mnA (List.take (2000 : Nat) zs) (0 :
  Int)))) [[AV.int IntKind.i64 (0 : Int)], [AV.int IntKind.i64 (1 : Int)], [AV.int IntKind.i64 (-1 : Int)], [AV.int IntKind.i64 (60 : Int)], [AV.int IntKind.i64 (1440 : Int)],
  [AV.int IntKind.i64 ((-60000 : Int) + srcN (List.take (2000 : Nat) zs) (mnA (List.take (2000 : Nat) zs) (0 : Int)) (120001 : Int))], [AV.int IntKind.i64 (modZ (rawV (List.take
  (2000 : Nat) zs) (rawA (List.take (2000 : Nat) zs) (mnA (List.take (2000 : Nat) zs) (0 : Int)))) (16777216 : Int))]]))) = true then dtD (max (0 : Int) (min (52595999 : Int) (mnV
  (List.take (2000 : Nat) zs) (0 : Int) + pckV (List.take (2000 : Nat) zs) (rawA (List.take (2000 : Nat) zs) (rawA (List.take (2000 : Nat) zs) (mnA (List.take (2000 : Nat) zs) (0 :
  Int)))) [[AV.int IntKind.i64 (0 : Int)], [AV.int IntKind.i64 (1 : Int)], [AV.int IntKind.i64 (-1 : Int)], [AV.int IntKind.i64 (60 : Int)], [AV.int IntKind.i64 (1440 : Int)],
  [AV.int IntKind.i64 ((-60000 : Int) + srcN (List.take (2000 : Nat) zs) (mnA (List.take (2000 : Nat) zs) (0 : Int)) (120001 : Int))], [AV.int IntKind.i64 (modZ (rawV (List.take
  (2000 : Nat) zs) (rawA (List.take (2000 : Nat) zs) (mnA (List.take (2000 : Nat) zs) (0 : Int)))) (16777216 : Int))]]))) else (0 : Int)) && (decide ((if inB (mnV (List.take (2000 :
  Nat) zs) (0 : Int)) = true then dtH (mnV (List.take (2000 : Nat) zs) (0 : Int)) else (0 : Int)) = if inB (max (0 : Int) (min (52595999 : Int) (mnV (List.take (2000 : Nat) zs) (0 :
  Int) + pckV (List.take (2000 : Nat) zs) (rawA (List.take (2000 : Nat) zs) (rawA (List.take (2000 : Nat) zs) (mnA (List.take (2000 : Nat) zs) (0 : Int)))) [[AV.int IntKind.i64 (0 :
  Int)], [AV.int IntKind.i64 (1 : Int)], [AV.int IntKind.i64 (-1 : Int)], [AV.int IntKind.i64 (60 : Int)], [AV.int IntKind.i64 (1440 : Int)], [AV.int IntKind.i64 ((-60000 : Int) +
  srcN (List.take (2000 : Nat) zs) (mnA (List.take (2000 : Nat) zs) (0 : Int)) (120001 : Int))], [AV.int IntKind.i64 (modZ (rawV (List.take (2000 : Nat) zs) (rawA (List.take (2000 :
  Nat) zs) (mnA (List.take (2000 : Nat) zs) (0 : Int)))) (16777216 : Int))]]))) = true then dtH (max (0 : Int) (min (52595999 : Int) (mnV (List.take (2000 : Nat) zs) (0 : Int) + pckV
  (List.take (2000 : Nat) zs) (rawA (List.take (2000 : Nat) zs) (rawA (List.take (2000 : Nat) zs) (mnA (List.take (2000 : Nat) zs) (0 : Int)))) [[AV.int IntKind.i64 (0 : Int)],
  [AV.int IntKind.i64 (1 : Int)], [AV.int IntKind.i64 (-1 : Int)], [AV.int IntKind.i64 (60 : Int)], [AV.int IntKind.i64 (1440 : Int)], [AV.int IntKind.i64 ((-60000 : Int) + srcN
  (List.take (2000 : Nat) zs) (mnA (List.take (2000 : Nat) zs) (0 : Int)) (120001 : Int))], [AV.int IntKind.i64 (modZ (rawV (List.take (2000 : Nat) zs) (rawA (List.take (2000 : Nat)
  zs) (mnA (List.take (2000 : Nat) zs) (0 : Int)))) (16777216 : Int))]]))) else (0 : Int)) && (decide ((if inB (mnV (List.take (2000 : Nat) zs) (0 : Int)) = true then dtI (mnV
  (List.take (2000 : Nat) zs) (0 : Int)) else (0 : Int)) = if inB (max (0 : Int) (min (52595999 : Int) (mnV (List.take (2000 : Nat) zs) (0 : Int) + pckV (List.take (2000 : Nat) zs)
  (rawA (List.take (2000 : Nat) zs) (rawA (List.take (2000 : Nat) zs) (mnA (List.take (2000 : Nat) zs) (0 : Int)))) [[AV.int IntKind.i64 (0 : Int)], [AV.int IntKind.i64 (1 : Int)],
  [AV.int IntKind.i64 (-1 : Int)], [AV.int IntKind.i64 (60 : Int)], [AV.int IntKind.i64 (1440 : Int)], [AV.int IntKind.i64 ((-60000 : Int) + srcN (List.take (2000 : Nat) zs) (mnA
  (List.take (2000 : Nat) zs) (0 : Int)) (120001 : Int))], [AV.int IntKind.i64 (modZ (rawV (List.take (2000 : Nat) zs) (rawA (List.take (2000 : Nat) zs) (mnA (List.take (2000 : Nat)
  zs) (0 : Int)))) (16777216 : Int))]]))) = true then dtI (max (0 : Int) (min (52595999 : Int) (mnV (List.take (2000 : Nat) zs) (0 : Int) + pckV (List.take (2000 : Nat) zs) (rawA
  (List.take (2000 : Nat) zs) (rawA (List.take (2000 : Nat) zs) (mnA (List.take (2000 : Nat) zs) (0 : Int)))) [[AV.int IntKind.i64 (0 : Int)], [AV.int IntKind.i64 (1 : Int)], [AV.int
  IntKind.i64 (-1 : Int)], [AV.int IntKind.i64 (60 : Int)], [AV.int IntKind.i64 (1440 : Int)], [AV.int IntKind.i64 ((-60000 : Int) + srcN (List.take (2000 : Nat) zs) (mnA (List.take
  (2000 : Nat) zs) (0 : Int)) (120001 : Int))], [AV.int IntKind.i64 (modZ (rawV (List.take (2000 : Nat) zs) (rawA (List.take (2000 : Nat) zs) (mnA (List.take (2000 : Nat) zs) (0 :
  Int)))) (16777216 : Int))]]))) else (0 : Int)) && true)))))) then True ∧ true = true else false = true else false = true else false = true else bif decide (decide (mnV (List.take
  (2000 : Nat) zs) (0 : Int) < max (0 : Int) (min (52595999 : Int) (mnV (List.take (2000 : Nat) zs) (0 : Int) + pckV (List.take (2000 : Nat) zs) (rawA (List.take (2000 : Nat) zs)
  (rawA (List.take (2000 : Nat) zs) (mnA (List.take (2000 : Nat) zs) (0 : Int)))) [[AV.int IntKind.i64 (0 : Int)], [AV.int IntKind.i64 (1 : Int)], [AV.int IntKind.i64 (-1 : Int)],
  [AV.int IntKind.i64 (60 : Int)], [AV.int IntKind.i64 (1440 : Int)], [AV.int IntKind.i64 ((-60000 : Int) + srcN (List.take (2000 : Nat) zs) (mnA (List.take (2000 : Nat) zs) (0 :
  Int)) (120001 : Int))], [AV.int IntKind.i64 (modZ (rawV (List.take (2000 : Nat) zs) (rawA (List.take (2000 : Nat) zs) (mnA (List.take (2000 : Nat) zs) (0 : Int)))) (16777216 :
  Int))]]))) = decide ((if inB (mnV (List.take (2000 : Nat) zs) (0 : Int)) = true then dtY (mnV (List.take (2000 : Nat) zs) (0 : Int)) else (0 : Int)) < if inB (max (0 : Int) (min
  (52595999 : Int) (mnV (List.take (2000 : Nat) zs) (0 : Int) + pckV (List.take (2000 : Nat) zs) (rawA (List.take (2000 : Nat) zs) (rawA (List.take (2000 : Nat) zs) (mnA (List.take
  (2000 : Nat) zs) (0 : Int)))) [[AV.int IntKind.i64 (0 : Int)], [AV.int IntKind.i64 (1 : Int)], [AV.int IntKind.i64 (-1 : Int)], [AV.int IntKind.i64 (60 : Int)], [AV.int IntKind.i64
  (1440 : Int)], [AV.int IntKind.i64 ((-60000 : Int) + srcN (List.take (2000 : Nat) zs) (mnA (List.take (2000 : Nat) zs) (0 : Int)) (120001 : Int))], [AV.int IntKind.i64 (modZ (rawV
  (List.take (2000 : Nat) zs) (rawA (List.take (2000 : Nat) zs) (mnA (List.take (2000 : Nat) zs) (0 : Int)))) (16777216 : Int))]]))) = true then dtY (max (0 : Int) (min (52595999 :
  Int) (mnV (List.take (2000 : Nat) zs) (0 : Int) + pckV (List.take (2000 : Nat) zs) (rawA (List.take (2000 : Nat) zs) (rawA (List.take (2000 : Nat) zs) (mnA (List.take (2000 : Nat)
  zs) (0 : Int)))) [[AV.int IntKind.i64 (0 : Int)], [AV.int IntKind.i64 (1 : Int)], [AV.int IntKind.i64 (-1 : Int)], [AV.int IntKind.i64 (60 : Int)], [AV.int IntKind.i64 (1440 :
  Int)], [AV.int IntKind.i64 ((-60000 : Int) + srcN (List.take (2000 : Nat) zs) (mnA (List.take (2000 : Nat) zs) (0 : Int)) (120001 : Int))], [AV.int IntKind.i64 (modZ (rawV
  (List.take (2000 : Nat) zs) (rawA (List.take (2000 : Nat) zs) (mnA (List.take (2000 : Nat) zs) (0 : Int)))) (16777216 : Int))]]))) else (0 : Int))) then bif decide (decide (mnV
  (List.take (2000 : Nat) zs) (0 : Int) < max (0 : Int) (min (52595999 : Int) (mnV (List.take (2000 : Nat) zs) (0 : Int) + pckV (List.take (2000 : Nat) zs) (rawA (List.take (2000 :
  Nat) zs) (rawA (List.take (2000 : Nat) zs) (mnA (List.take (2000 : Nat) zs) (0 : Int)))) [[AV.int IntKind.i64 (0 : Int)], [AV.int IntKind.i64 (1 : Int)], [AV.int IntKind.i64 (-1 :
  Int)], [AV.int IntKind.i64 (60 : Int)], [AV.int IntKind.i64 (1440 : Int)], [AV.int IntKind.i64 ((-60000 : Int) + srcN (List.take (2000 : Nat) zs) (mnA (List.take (2000 : Nat) zs)
  (0 : Int)) (120001 : Int))], [AV.int IntKind.i64 (modZ (rawV (List.take (2000 : Nat) zs) (rawA (List.take (2000 : Nat) zs) (mnA (List.take (2000 : Nat) zs) (0 : Int)))) (16777216 :
  Int))]]))) = Op.bytesLess (fmtC (mnV (List.take (2000 : Nat) zs) (0 : Int))).toList (fmtC (max (0 : Int) (min (52595999 : Int) (mnV (List.take (2000 : Nat) zs) (0 : Int) + pckV
  (List.take (2000 : Nat) zs) (rawA (List.take (2000 : Nat) zs) (rawA (List.take (2000 : Nat) zs) (mnA (List.take (2000 : Nat) zs) (0 : Int)))) [[AV.int IntKind.i64 (0 : Int)],
  [AV.int IntKind.i64 (1 : Int)], [AV.int IntKind.i64 (-1 : Int)], [AV.int IntKind.i64 (60 : Int)], [AV.int IntKind.i64 (1440 : Int)], [AV.int IntKind.i64 ((-60000 : Int) + srcN
  (List.take (2000 : Nat) zs) (mnA (List.take (2000 : Nat) zs) (0 : Int)) (120001 : Int))], [AV.int IntKind.i64 (modZ (rawV (List.take (2000 : Nat) zs) (rawA (List.take (2000 : Nat)
  zs) (mnA (List.take (2000 : Nat) zs) (0 : Int)))) (16777216 : Int))]])))).toList) then bif decide (decide (mnV (List.take (2000 : Nat) zs) (0 : Int) = max (0 : Int) (min (52595999
  : Int) (mnV (List.take (2000 : Nat) zs) (0 : Int) + pckV (List.take (2000 : Nat) zs) (rawA (List.take (2000 : Nat) zs) (rawA (List.take (2000 : Nat) zs) (mnA (List.take (2000 :
  Nat) zs) (0 : Int)))) [[AV.int IntKind.i64 (0 : Int)], [AV.int IntKind.i64 (1 : Int)], [AV.int IntKind.i64 (-1 : Int)], [AV.int IntKind.i64 (60 : Int)], [AV.int IntKind.i64 (1440 :
  Int)], [AV.int IntKind.i64 ((-60000 : Int) + srcN (List.take (2000 : Nat) zs) (mnA (List.take (2000 : Nat) zs) (0 : Int)) (120001 : Int))], [AV.int IntKind.i64 (modZ (rawV
  (List.take (2000 : Nat) zs) (rawA (List.take (2000 : Nat) zs) (mnA (List.take (2000 : Nat) zs) (0 : Int)))) (16777216 : Int))]]))) = (decide ((if inB (mnV (List.take (2000 : Nat)
  zs) (0 : Int)) = true then dtY (mnV (List.take (2000 : Nat) zs) (0 : Int)) else (0 : Int)) = if inB (max (0 : Int) (min (52595999 : Int) (mnV (List.take (2000 : Nat) zs) (0 : Int)
  + pckV (List.take (2000 : Nat) zs) (rawA (List.take (2000 : Nat) zs) (rawA (List.take (2000 : Nat) zs) (mnA (List.take (2000 : Nat) zs) (0 : Int)))) [[AV.int IntKind.i64 (0 :
  Int)], [AV.int IntKind.i64 (1 : Int)], [AV.int IntKind.i64 (-1 : Int)], [AV.int IntKind.i64 (60 : Int)], [AV.int IntKind.i64 (1440 : Int)], [AV.int IntKind.i64 ((-60000 : Int) +
  srcN (List.take (2000 : Nat) zs) (mnA (List.take (2000 : Nat) zs) (0 : Int)) (120001 : Int))], [AV.int IntKind.i64 (modZ (rawV (List.take (2000 : Nat) zs) (rawA (List.take (2000 :
  Nat) zs) (mnA (List.take (2000 : Nat) zs) (0 : Int)))) (16777216 : Int))]]))) = true then dtY (max (0 : Int) (min (52595999 : Int) (mnV (List.take (2000 : Nat) zs) (0 : Int) + pckV
  (List.take (2000 : Nat) zs) (rawA (List.take (2000 : Nat) zs) (rawA (List.take (2000 : Nat) zs) (mnA (List.take (2000 : Nat) zs) (0 : Int)))) [[AV.int IntKind.i64 (0 : Int)],
  [AV.int IntKind.i64 (1 : Int)], [AV.int IntKind.i64 (-1 : Int)], [AV.int IntKind.i64 (60 : Int)], [AV.int IntKind.i64 (1440 : Int)], [AV.int IntKind.i64 ((-60000 : Int) + srcN
  (List.take (2000 : Nat) zs) (mnA (List.take (2000 : Nat) zs) (0 : Int)) (120001 : Int))], [AV.int IntKind.i64 (modZ (rawV (List.take (2000 : Nat) zs) (rawA (List.take (2000 : Nat)
  zs) (mnA (List.take (2000 : Nat) zs) (0 : Int)))) (16777216 : Int))]]))) else (0 : Int)) && (decide ((if inB (mnV (List.take (2000 : Nat) zs) (0 : Int)) = true then dtM (mnV
  (List.take (2000 : Nat) zs) (0 : Int)) else (0 : Int)) = if inB (max (0 : Int) (min (52595999 : Int) (mnV (List.take (2000 : Nat) zs) (0 : Int) + pckV (List.take (2000 : Nat) zs)
  (rawA (List.take (2000 : Nat) zs) (rawA (List.take (2000 : Nat) zs) (mnA (List.take (2000 : Nat) zs) (0 : Int)))) [[AV.int IntKind.i64 (0 : Int)], [AV.int IntKind.i64 (1 : Int)],
  [AV.int IntKind.i64 (-1 : Int)], [AV.int IntKind.i64 (60 : Int)], [AV.int IntKind.i64 (1440 : Int)], [AV.int IntKind.i64 ((-60000 : Int) + srcN (List.take (2000 : Nat) zs) (mnA
  (List.take (2000 : Nat) zs) (0 : Int)) (120001 : Int))], [AV.int IntKind.i64 (modZ (rawV (List.take (2000 : Nat) zs) (rawA (List.take (2000 : Nat) zs) (mnA (List.take (2000 : Nat)
  zs) (0 : Int)))) (16777216 : Int))]]))) = true then dtM (max (0 : Int) (min (52595999 : Int) (mnV (List.take (2000 : Nat) zs) (0 : Int) + pckV (List.take (2000 : Nat) zs) (rawA
  (List.take (2000 : Nat) zs) (rawA (List.take (2000 : Nat) zs) (mnA (List.take (2000 : Nat) zs) (0 : Int)))) [[AV.int IntKind.i64 (0 : Int)], [AV.int IntKind.i64 (1 : Int)], [AV.int
  IntKind.i64 (-1 : Int)], [AV.int IntKind.i64 (60 : Int)], [AV.int IntKind.i64 (1440 : Int)], [AV.int IntKind.i64 ((-60000 : Int) + srcN (List.take (2000 : Nat) zs) (mnA (List.take
  (2000 : Nat) zs) (0 : Int)) (120001 : Int))], [AV.int IntKind.i64 (modZ (rawV (List.take (2000 : Nat) zs) (rawA (List.take (2000 : Nat) zs) (mnA (List.take (2000 : Nat) zs) (0 :
  Int)))) (16777216 : Int))]]))) else (0 : Int)) && (decide ((if inB (mnV (List.take (2000 : Nat) zs) (0 : Int)) = true then dtD (mnV (List.take (2000 : Nat) zs) (0 : Int)) else (0 :
  Int)) = if inB (max (0 : Int) (min (52595999 : Int) (mnV (List.take (2000 : Nat) zs) (0 : Int) + pckV (List.take (2000 : Nat) zs) (rawA (List.take (2000 : Nat) zs) (rawA (List.take
  (2000 : Nat) zs) (mnA (List.take (2000 : Nat) zs) (0 : Int)))) [[AV.int IntKind.i64 (0 : Int)], [AV.int IntKind.i64 (1 : Int)], [AV.int IntKind.i64 (-1 : Int)], [AV.int IntKind.i64
  (60 : Int)], [AV.int IntKind.i64 (1440 : Int)], [AV.int IntKind.i64 ((-60000 : Int) + srcN (List.take (2000 : Nat) zs) (mnA (List.take (2000 : Nat) zs) (0 : Int)) (120001 : Int))],
  [AV.int IntKind.i64 (modZ (rawV (List.take (2000 : Nat) zs) (rawA (List.take (2000 : Nat) zs) (mnA (List.take (2000 : Nat) zs) (0 : Int)))) (16777216 : Int))]]))) = true then dtD
  (max (0 : Int) (min (52595999 : Int) (mnV (List.take (2000 : Nat) zs) (0 : Int) + pckV (List.take (2000 : Nat) zs) (rawA (List.take (2000 : Nat) zs) (rawA (List.take (2000 : Nat)
  zs) (mnA (List.take (2000 : Nat) zs) (0 : Int)))) [[AV.int IntKind.i64 (0 : Int)], [AV.int IntKind.i64 (1 : Int)], [AV.int IntKind.i64 (-1 : Int)], [AV.int IntKind.i64 (60 : Int)],
  [AV.int IntKind.i64 (1440 : Int)], [AV.int IntKind.i64 ((-60000 : Int) + srcN (List.take (2000 : Nat) zs) (mnA (List.take (2000 : Nat) zs) (0 : Int)) (120001 : Int))], [AV.int
  IntKind.i64 (modZ (rawV (List.take (2000 : Nat) zs) (rawA (List.take (2000 : Nat) zs) (mnA (List.take (2000 : Nat) zs) (0 : Int)))) (16777216 : Int))]]))) else (0 : Int)) &&
  (decide ((if inB (mnV (List.take (2000 : Nat) zs) (0 : Int)) = true then dtH (mnV (List.take (2000 : Nat) zs) (0 : Int)) else (0 : Int)) = if inB (max (0 : Int) (min (52595999 :
  Int) (mnV (List.take (2000 : Nat) zs) (0 : Int) + pckV (List.take (2000 : Nat) zs) (rawA (List.take (2000 : Nat) zs) (rawA (List.take (2000 : Nat) zs) (mnA (List.take (2000 : Nat)
  zs) (0 : Int)))) [[AV.int IntKind.i64 (0 : Int)], [AV.int IntKind.i64 (1 : Int)], [AV.int IntKind.i64 (-1 : Int)], [AV.int IntKind.i64 (60 : Int)], [AV.int IntKind.i64 (1440 :
  Int)], [AV.int IntKind.i64 ((-60000 : Int) + srcN (List.take (2000 : Nat) zs) (mnA (List.take (2000 : Nat) zs) (0 : Int)) (120001 : Int))], [AV.int IntKind.i64 (modZ (rawV
  (List.take (2000 : Nat) zs) (rawA (List.take (2000 : Nat) zs) (mnA (List.take (2000 : Nat) zs) (0 : Int)))) (16777216 : Int))]]))) = true then dtH (max (0 : Int) (min (52595999 :
  Int) (mnV (List.take (2000 : Nat) zs) (0 : Int) + pckV (List.take (2000 : Nat) zs) (rawA (List.take (2000 : Nat) zs) (rawA (List.take (2000 : Nat) zs) (mnA (List.take (2000 : Nat)
  zs) (0 : Int)))) [[AV.int IntKind.i64 (0 : Int)], [AV.int IntKind.i64 (1 : Int)], [AV.int IntKind.i64 (-1 : Int)], [AV.int IntKind.i64 (60 : Int)], [AV.int IntKind.i64 (1440 :
  Int)], [AV.int IntKind.i64 ((-60000 : Int) + srcN (List.take (2000 : Nat) zs) (mnA (List.take (2000 : Nat) zs) (0 : Int)) (120001 : Int))], [AV.int IntKind.i64 (modZ (rawV
  (List.take (2000 : Nat) zs) (rawA (List.take (2000 : Nat) zs) (mnA (List.take (2000 : Nat) zs) (0 : Int)))) (16777216 : Int))]]))) else (0 : Int)) && (decide ((if inB (mnV
  (List.take (2000 : Nat) zs) (0 : Int)) = true then dtI (mnV (List.take (2000 : Nat) zs) (0 : Int)) else (0 : Int)) = if inB (max (0 : Int) (min (52595999 : Int) (mnV (List.take
  (2000 : Nat) zs) (0 : Int) + pckV (List.take (2000 : Nat) zs) (rawA (List.take (2000 : Nat) zs) (rawA (List.take (2000 : Nat) zs) (mnA (List.take (2000 : Nat) zs) (0 : Int))))
  [[AV.int IntKind.i64 (0 : Int)], [AV.int IntKind.i64 (1 : Int)], [AV.int IntKind.i64 (-1 : Int)], [AV.int IntKind.i64 (60 : Int)], [AV.int IntKind.i64 (1440 : Int)], [AV.int
  IntKind.i64 ((-60000 : Int) + srcN (List.take (2000 : Nat) zs) (mnA (List.take (2000 : Nat) zs) (0 : Int)) (120001 : Int))], [AV.int IntKind.i64 (modZ (rawV (List.take (2000 : Nat)
  zs) (rawA (List.take (2000 : Nat) zs) (mnA (List.take (2000 : Nat) zs) (0 : Int)))) (16777216 : Int))]]))) = true then dtI (max (0 : Int) (min (52595999 : Int) (mnV (List.take
  (2000 : Nat) zs) (0 : Int) + pckV (List.take (2000 : Nat) zs) (rawA (List.take (2000 : Nat) zs) (rawA (List.take (2000 : Nat) zs) (mnA (List.take (2000 : Nat) zs) (0 : Int))))
  [[AV.int IntKind.i64 (0 : Int)], [AV.int IntKind.i64 (1 : Int)], [AV.int IntKind.i64 (-1 : Int)], [AV.int IntKind.i64 (60 : Int)], [AV.int IntKind.i64 (1440 : Int)], [AV.int
  IntKind.i64 ((-60000 : Int) + srcN (List.take (2000 : Nat) zs) (mnA (List.take (2000 : Nat) zs) (0 : Int)) (120001 : Int))], [AV.int IntKind.i64 (modZ (rawV (List.take (2000 : Nat)
  zs) (rawA (List.take (2000 : Nat) zs) (mnA (List.take (2000 : Nat) zs) (0 : Int)))) (16777216 : Int))]]))) else (0 : Int)) && true)))))) then True ∧ true = true else false = true
  else false = true else false = true else False
set_option maxRecDepth 100000 in
theorem lOrd_P : lOrd_T inB dtY dtM dtD dtH dtI fmtC mnV mnA pckV dtR cumI prsM prsV rsV rsOk := by
  unfold lOrd_T
  intro gl zs hz _
  have hs : SrcI (List.take 2000 zs) := SrcI.take hz
  generalize List.take 2000 zs = xs at *
  have h1 := mnV_in xs 0
  have hA := mnA_le (xs := xs) (i := 0) (by decide)
  have hA2 := rawA_le (xs := xs) hA
  have hA3 := rawA_le (xs := xs) hA2
  generalize mnA xs 0 = i1 at *
  generalize mnV xs 0 = m at *
  have hm := srcN_lt (xs := xs) (i := i1) (n := 120001) (by omega)
  generalize srcN xs i1 120001 = u at *
  have hm2 := modZ_in (rawV xs (rawA xs i1)) (n := 16777216) (by decide)
  generalize modZ (rawV xs (rawA xs i1)) 16777216 = v at *
  have hb := pck_bd (xs := xs) (i := rawA xs (rawA xs i1)) (ls := [[.int .i64 0], [.int .i64 1], [.int .i64 (-1)], [.int .i64 60], [.int .i64 1440], [.int .i64 (-60000 + u)], [.int .i64 v]]) (lo := -60000) (hi := 16777216)
    (by intro x hx; simp only [List.mem_cons, List.not_mem_nil, or_false] at hx; rcases hx with rfl | rfl | rfl | rfl | rfl | rfl | rfl <;> simp only [cellI] <;> omega) (by decide)
  have hp : PckP [[.int .i64 0], [.int .i64 1], [.int .i64 (-1)], [.int .i64 60], [.int .i64 1440], [.int .i64 (-60000 + u)], [.int .i64 v]] 7 := by
    refine ⟨?_, rfl, by decide⟩
    intro x hx
    simp only [List.mem_cons, List.not_mem_nil, or_false] at hx
    rcases hx with rfl | rfl | rfl | rfl | rfl | rfl | rfl <;> exact ⟨_, rfl, by show _ ∧ _; omega⟩
  refine ⟨trivial, ⟨hs, by decide⟩, ⟨⟨hs, hA⟩, by decide, by decide, by decide⟩, ⟨hs, hA2⟩, trivial, ⟨⟨hs, hA3⟩, hp⟩, ?_⟩
  clear hp
  generalize pckV xs _ _ = p at *
  refine cdI (by omega) ?_
  have h2 : 0 ≤ max 0 (min 52595999 (m + p)) ∧ max 0 (min 52595999 (m + p)) ≤ 52595999 := by omega
  generalize max 0 (min 52595999 (m + p)) = n at *
  have bm : inB m = true := by simpa [inB] using h1
  have bn : inB n = true := by simpa [inB] using h2
  rw [bm, bn]
  simp only [if_true]
  have l1 := date_all h1 h2
  have l2 := (fmt_less h1 h2).symm
  have l3 := lex_iff (date_ok h1).1 (date_ok h2).1
  rw [(date_ok h1).2, (date_ok h2).2] at l3
  unfold Lex at l3
  refine ⟨trivial, trivial, trivial, trivial, csplit (fun q => absurd q (by decide)) (fun _ => csplit (fun q => absurd q (by decide)) (fun _ => csplit (fun q => absurd q (by decide)) (fun _ => csplit (fun q => absurd q (by decide)) (fun _ => ?_))))⟩
  have fin : ∀ {b : Bool} {T F1 F2 F3 : Prop}, T → decide (m < n) = b → cond (decide (decide (m < n) = b)) (cond (decide (decide (m < n) = Op.bytesLess (fmtC m).toList (fmtC n).toList)) (cond (decide (decide (m = n) = (decide (dtY m = dtY n) && (decide (dtM m = dtM n) && (decide (dtD m = dtD n) && (decide (dtH m = dtH n) && (decide (dtI m = dtI n) && true))))))) T F1) F2) F3 :=
    fun hT h => cd1 h (cd1 l2 (cd1 l1 hT))
  refine csplit (fun e1 => ?_) (fun e1 => fin ⟨trivial, trivial⟩ ?_)
  · refine csplit (fun e2 => ?_) (fun e2 => fin ⟨trivial, trivial⟩ ?_)
    · refine csplit (fun e3 => ?_) (fun e3 => fin ⟨trivial, trivial⟩ ?_)
      · refine csplit (fun e4 => ?_) (fun e4 => fin ⟨trivial, trivial⟩ ?_)
        · refine fin ⟨trivial, trivial⟩ ?_
          simp only [decide_eq_true_eq, decide_eq_false_iff_not] at e1 e2 e3 e4
          exact decide_eq_decide.2 (l3.trans (by omega))
        · simp only [decide_eq_true_eq, decide_eq_false_iff_not] at e1 e2 e3 e4
          exact decide_eq_decide.2 (l3.trans (by omega))
      · simp only [decide_eq_true_eq, decide_eq_false_iff_not] at e1 e2 e3
        exact decide_eq_decide.2 (l3.trans (by omega))
    · simp only [decide_eq_true_eq, decide_eq_false_iff_not] at e1 e2
      exact decide_eq_decide.2 (l3.trans (by omega))
  · simp only [decide_eq_false_iff_not] at e1
    exact decide_eq_decide.2 (l3.trans (by omega))
def lOrd_S (inB : Int → Bool) (dtY : Int → Int) (dtM : Int → Int) (dtD : Int → Int) (dtH : Int → Int) (dtI : Int → Int) (fmtC : Int → ByteArray) (mnV : List (List AV) → Int → Int) (mnA : List (List AV) → Int → Int) (pckV : List (List AV) → Int → List (List AV) → Int) (dtR : Int → Int) (cumI : Int → Int → Int) (prsM : ByteArray → Int) (prsV : ByteArray → Bool) (rsV : Int → Int → Int → Int → Int) (rsOk : Int → Int → Int → Int → Bool) : Prop := ∀ (gl : Glob) (zs : List (List AV)), IntsA zs → fnK Try.prog { glob := gl, spec := lk [(25, mod_s), (19, (cDate_s inB dtY dtM dtD dtH dtI dtR cumI)), (22, (cFormat_s inB fmtC)), (21, (cAwake_s fmtC inB prsM prsV rsV rsOk))], specH := lk [(10, newsrc_s), (18, (lMinute_s mnV mnA)), (11, srcRg_s), (26, raw_s), (31, (srcPk_s pckV))], nowf := true } { nt := 134, drop := drp [(1, 393216), (2, 1572864), (3, 8587837440), (4, 266287972352), (5, 8521215115264), (6, 272678883688448), (7, 8725724278030336), (8, 73777969095583465472), (10, 618969872068737547773149184), (12, 633206330094472010610902040576), (13, 3802951800684688204490109616128), (14, 21778071477869459260743057269646352711680)], tys := [53] } (fun _ _ => none) 6 Try.f9 [.sl 1 false zs] (.bool true)
set_option maxRecDepth 100000 in
theorem lOrd_e (inB : Int → Bool) (dtY : Int → Int) (dtM : Int → Int) (dtD : Int → Int) (dtH : Int → Int) (dtI : Int → Int) (fmtC : Int → ByteArray) (mnV : List (List AV) → Int → Int) (mnA : List (List AV) → Int → Int) (pckV : List (List AV) → Int → List (List AV) → Int) (dtR : Int → Int) (cumI : Int → Int → Int) (prsM : ByteArray → Int) (prsV : ByteArray → Bool) (rsV : Int → Int → Int → Int → Int) (rsOk : Int → Int → Int → Int → Bool) : lOrd_T inB dtY dtM dtD dtH dtI fmtC mnV mnA pckV dtR cumI prsM prsV rsV rsOk = lOrd_S inB dtY dtM dtD dtH dtI fmtC mnV mnA pckV dtR cumI prsM prsV rsV rsOk := by kernel_rfl
theorem lOrd_v : lOrd_S inB dtY dtM dtD dtH dtI fmtC mnV mnA pckV dtR cumI prsM prsV rsV rsOk := @Eq.mp (lOrd_T inB dtY dtM dtD dtH dtI fmtC mnV mnA pckV dtR cumI prsM prsV rsV rsOk) (lOrd_S inB dtY dtM dtD dtH dtI fmtC mnV mnA pckV dtR cumI prsM prsV rsV rsOk) (lOrd_e inB dtY dtM dtD dtH dtI fmtC mnV mnA pckV dtR cumI prsM prsV rsV rsOk) lOrd_P
theorem lOrd_ok (gl : Glob) : SOK Try.prog gl 9 (lOrd_s inB dtY dtM dtD dtH dtI fmtC mnV mnA pckV) := by
  refine ⟨fok Try.func9 (by kernel_rfl) (by kernel_rfl), ?_⟩
  intro xs pre r h hp
  unfold lOrd_s at h
  split at h
  · simp only [Option.some.injEq, Prod.mk.injEq] at h
    obtain ⟨h1, h2⟩ := h
    subst h1 h2
    exact fnK_sound (tyOf (by kernel_rfl)) (by exact specOK rfl rfl ⟨mod_ok gl, cDate_ok gl, cFormat_ok gl, cAwake_ok gl, trivial⟩ ⟨newsrc_ok gl, lMinute_ok gl, srcRg_ok gl, raw_ok gl, srcPk_ok gl, trivial⟩) (by kernel_rfl) Try.func9 rfl (lOrd_v gl _ hp)
  · cases h
end Go.Proofs.Ytakmploakbaglaa
