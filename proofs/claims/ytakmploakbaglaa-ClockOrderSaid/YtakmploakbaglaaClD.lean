/- The clock: texts. -/
import Derived.Test.YtakmploakbaglaaClB
import Derived.Test.YtakmploakbaglaaClC
namespace Go.Proofs.Ytakmploakbaglaa
open Go
set_option linter.unusedVariables false
set_option linter.unusedSimpArgs false

/-- The text of a date. -/
def txtL (y m d h i : Int) : List Int := dgL 4 y ++ [45] ++ dgL 2 m ++ [45] ++ dgL 2 d ++ [32] ++ dgL 2 h ++ [58] ++ dgL 2 i
def fmtC (t : Int) : ByteArray := if inB t then strOfNums (txtL (dtY t) (dtM t) (dtD t) (dtH t) (dtI t)) else ⟨#[]⟩
theorem brow_one (l : List Int) : ∀ y ∈ brow l, y.length = 1 := by
  intro y hy
  obtain ⟨n, _, rfl⟩ := List.mem_map.1 hy
  rfl
theorem brow_len (l : List Int) : (brow l).length = l.length := by simp [brow]
theorem dig_step {n : Nat} {x : Int} {l a z c : List Int} {o : Nat} (hl : l = a ++ z ++ c) (ho : a.length = o) (hz : z.length = n) : digR (brow l) o n x = brow (a ++ dgL n x ++ c) := by
  subst hl; subst ho
  exact digR_dgL n x a z c hz
theorem dgP_brow {l : List Int} {q o n : Nat} {x : Int} (hl : l.length = q) (hf : o + n ≤ q) (hn : n ≤ 1000) (hx : 0 ≤ x) : DgP (brow l) q o n x :=
  ⟨by rw [brow_len]; exact hl, hf, hn, hx, brow_one l⟩
def cFormat_s (inB : Int → Bool) (fmtC : Int → ByteArray) : Sp
  | [.int .i64 t] => some (True, .tup [.str (fmtC t), .int .i64 (if inB t then 0 else 1)])
  | _ => none
set_option maxRecDepth 100000 in
def cFormat_T (inB : Int → Bool) (fmtC : Int → ByteArray) (dtY : Int → Int) (dtM : Int → Int) (dtD : Int → Int) (dtH : Int → Int) (dtI : Int → Int) (dtR : Int → Int) (cumI : Int → Int → Int) (digR : List (List AV) → Nat → Nat → Int → List (List AV)) : Prop :=
  ∀ (gl : Glob) (t : Int), (-9223372036854775808 : Int) ≤ t ∧ t ≤ (9223372036854775807 : Int) → True ∧ bif decide ¬(if inB t = true then (0 : Int) else (1 : Int)) = (0 : Int) then {
  data := #[] } = fmtC t ∧ ((if inB t = true then (0 : Int) else (1 : Int)) = if inB t = true then (0 : Int) else (1 : Int)) ∧ True else DgP [[AV.int IntKind.u8 (48 : Int)], [AV.int
  IntKind.u8 (48 : Int)], [AV.int IntKind.u8 (48 : Int)], [AV.int IntKind.u8 (48 : Int)], [AV.int IntKind.u8 (45 : Int)], [AV.int IntKind.u8 (48 : Int)], [AV.int IntKind.u8 (48 :
  Int)], [AV.int IntKind.u8 (45 : Int)], [AV.int IntKind.u8 (48 : Int)], [AV.int IntKind.u8 (48 : Int)], [AV.int IntKind.u8 (32 : Int)], [AV.int IntKind.u8 (48 : Int)], [AV.int
  IntKind.u8 (48 : Int)], [AV.int IntKind.u8 (58 : Int)], [AV.int IntKind.u8 (48 : Int)], [AV.int IntKind.u8 (48 : Int)]] (16 : Nat) (0 : Nat) (4 : Nat) (if inB t = true then dtY t
  else (0 : Int)) ∧ DgP (digR [[AV.int IntKind.u8 (48 : Int)], [AV.int IntKind.u8 (48 : Int)], [AV.int IntKind.u8 (48 : Int)], [AV.int IntKind.u8 (48 : Int)], [AV.int IntKind.u8 (45
  : Int)], [AV.int IntKind.u8 (48 : Int)], [AV.int IntKind.u8 (48 : Int)], [AV.int IntKind.u8 (45 : Int)], [AV.int IntKind.u8 (48 : Int)], [AV.int IntKind.u8 (48 : Int)], [AV.int
  IntKind.u8 (32 : Int)], [AV.int IntKind.u8 (48 : Int)], [AV.int IntKind.u8 (48 : Int)], [AV.int IntKind.u8 (58 : Int)], [AV.int IntKind.u8 (48 : Int)], [AV.int IntKind.u8 (48 :
  Int)]] (0 : Nat) (4 : Nat) (if inB t = true then dtY t else (0 : Int))) (16 : Nat) (5 : Nat) (2 : Nat) (if inB t = true then dtM t else (0 : Int)) ∧ DgP (digR (digR [[AV.int
  IntKind.u8 (48 : Int)], [AV.int IntKind.u8 (48 : Int)], [AV.int IntKind.u8 (48 : Int)], [AV.int IntKind.u8 (48 : Int)], [AV.int IntKind.u8 (45 : Int)], [AV.int IntKind.u8 (48 :
  Int)], [AV.int IntKind.u8 (48 : Int)], [AV.int IntKind.u8 (45 : Int)], [AV.int IntKind.u8 (48 : Int)], [AV.int IntKind.u8 (48 : Int)], [AV.int IntKind.u8 (32 : Int)], [AV.int
  IntKind.u8 (48 : Int)], [AV.int IntKind.u8 (48 : Int)], [AV.int IntKind.u8 (58 : Int)], [AV.int IntKind.u8 (48 : Int)], [AV.int IntKind.u8 (48 : Int)]] (0 : Nat) (4 : Nat) (if inB
  t = true then dtY t else (0 : Int))) (5 : Nat) (2 : Nat) (if inB t = true then dtM t else (0 : Int))) (16 : Nat) (8 : Nat) (2 : Nat) (if inB t = true then dtD t else (0 : Int)) ∧
  DgP (digR (digR (digR [[AV.int IntKind.u8 (48 : Int)], [AV.int IntKind.u8 (48 : Int)], [AV.int IntKind.u8 (48 : Int)], [AV.int IntKind.u8 (48 : Int)], [AV.int IntKind.u8 (45 :
  Int)], [AV.int IntKind.u8 (48 : Int)], [AV.int IntKind.u8 (48 : Int)], [AV.int IntKind.u8 (45 : Int)], [AV.int IntKind.u8 (48 : Int)], [AV.int IntKind.u8 (48 : Int)], [AV.int
  IntKind.u8 (32 : Int)], [AV.int IntKind.u8 (48 : Int)], [AV.int IntKind.u8 (48 : Int)], [AV.int IntKind.u8 (58 : Int)], [AV.int IntKind.u8 (48 : Int)], [AV.int IntKind.u8 (48 :
  Int)]] (0 : Nat) (4 : Nat) (if inB t = true then dtY t else (0 : Int))) (5 : Nat) (2 : Nat) (if inB t = true then dtM t else (0 : Int))) (8 : Nat) (2 : Nat) (if inB t = true then
  dtD t else (0 : Int))) (16 : Nat) (11 : Nat) (2 : Nat) (if inB t = true then dtH t else (0 : Int)) ∧ DgP (digR (digR (digR (digR [[AV.int IntKind.u8 (48 : Int)], [AV.int IntKind.u8
  (48 : Int)], [AV.int IntKind.u8 (48 : Int)], [AV.int IntKind.u8 (48 : Int)], [AV.int IntKind.u8 (45 : Int)], [AV.int IntKind.u8 (48 : Int)], [AV.int IntKind.u8 (48 : Int)], [AV.int
  IntKind.u8 (45 : Int)], [AV.int IntKind.u8 (48 : Int)], [AV.int IntKind.u8 (48 : Int)], [AV.int IntKind.u8 (32 : Int)], [AV.int IntKind.u8 (48 : Int)], [AV.int IntKind.u8 (48 :
  Int)], [AV.int IntKind.u8 (58 : Int)], [AV.int IntKind.u8 (48 : Int)], [AV.int IntKind.u8 (48 : Int)]] (0 : Nat) (4 : Nat) (if inB t = true then dtY t else (0 : Int))) (5 : Nat) (2
  : Nat) (if inB t = true then dtM t else (0 : Int))) (8 : Nat) (2 : Nat) (if inB t = true then dtD t else (0 : Int))) (11 : Nat) (2 : Nat) (if inB t = true then dtH t else (0 :
  Int))) (16 : Nat) (14 : Nat) (2 : Nat) (if inB t = true then dtI t else (0 : Int)) ∧ bif decide ((16 : Nat) = (digR (digR (digR (digR (digR [[AV.int IntKind.u8 (48 : Int)], [AV.int
  IntKind.u8 (48 : Int)], [AV.int IntKind.u8 (48 : Int)], [AV.int IntKind.u8 (48 : Int)], [AV.int IntKind.u8 (45 : Int)], [AV.int IntKind.u8 (48 : Int)], [AV.int IntKind.u8 (48 :
  Int)], [AV.int IntKind.u8 (45 : Int)], [AV.int IntKind.u8 (48 : Int)], [AV.int IntKind.u8 (48 : Int)], [AV.int IntKind.u8 (32 : Int)], [AV.int IntKind.u8 (48 : Int)], [AV.int
  IntKind.u8 (48 : Int)], [AV.int IntKind.u8 (58 : Int)], [AV.int IntKind.u8 (48 : Int)], [AV.int IntKind.u8 (48 : Int)]] (0 : Nat) (4 : Nat) (if inB t = true then dtY t else (0 :
  Int))) (5 : Nat) (2 : Nat) (if inB t = true then dtM t else (0 : Int))) (8 : Nat) (2 : Nat) (if inB t = true then dtD t else (0 : Int))) (11 : Nat) (2 : Nat) (if inB t = true then
  dtH t else (0 : Int))) (14 : Nat) (2 : Nat) (if inB t = true then dtI t else (0 : Int))).length) then ∃ ns, digR (digR (digR (digR (digR [[AV.int IntKind.u8 (48 : Int)], [AV.int
  IntKind.u8 (48 : Int)], [AV.int IntKind.u8 (48 : Int)], [AV.int IntKind.u8 (48 : Int)], [AV.int IntKind.u8 (45 : Int)], [AV.int IntKind.u8 (48 : Int)], [AV.int IntKind.u8 (48 :
  Int)], [AV.int IntKind.u8 (45 : Int)], [AV.int IntKind.u8 (48 : Int)], [AV.int IntKind.u8 (48 : Int)], [AV.int IntKind.u8 (32 : Int)], [AV.int IntKind.u8 (48 : Int)], [AV.int
  IntKind.u8 (48 : Int)], [AV.int IntKind.u8 (58 : Int)], [AV.int IntKind.u8 (48 : Int)], [AV.int IntKind.u8 (48 : Int)]] (0 : Nat) (4 : Nat) (if inB t = true then dtY t else (0 :
  Int))) (5 : Nat) (2 : Nat) (if inB t = true then dtM t else (0 : Int))) (8 : Nat) (2 : Nat) (if inB t = true then dtD t else (0 : Int))) (11 : Nat) (2 : Nat) (if inB t = true then
  dtH t else (0 : Int))) (14 : Nat) (2 : Nat) (if inB t = true then dtI t else (0 : Int)) = brow ns ∧ bif decide (ns.length ≤ (9223372036854775807 : Nat)) then strOfNums ns = fmtC t
  ∧ ((0 : Int) = if inB t = true then (0 : Int) else (1 : Int)) ∧ True else False else False
set_option maxRecDepth 100000 in
theorem cFormat_P : cFormat_T inB fmtC dtY dtM dtD dtH dtI dtR cumI digR := by
  unfold cFormat_T
  intro gl t _
  refine ⟨trivial, ?_⟩
  unfold fmtC
  cases hb : inB t with
  | false => exact ⟨rfl, rfl, trivial⟩
  | true =>
    have ht : 0 ≤ t ∧ t ≤ 52595999 := by simpa [inB] using hb
    have v := (date_ok ht).vld
    obtain ⟨⟨y1, y2⟩, ⟨m1, m2⟩, ⟨d1, d2⟩, ⟨h1, h2⟩, ⟨i1, i2⟩⟩ := v
    simp only [if_true]
    generalize dtY t = Y at *
    generalize dtM t = M at *
    generalize dtD t = D at *
    generalize dtH t = H at *
    generalize dtI t = I at *
    have e0 : [[AV.int .u8 48], [.int .u8 48], [.int .u8 48], [.int .u8 48], [.int .u8 45], [.int .u8 48], [.int .u8 48], [.int .u8 45], [.int .u8 48], [.int .u8 48], [.int .u8 32], [.int .u8 48], [.int .u8 48], [.int .u8 58], [.int .u8 48], [.int .u8 48]] = brow [48, 48, 48, 48, 45, 48, 48, 45, 48, 48, 32, 48, 48, 58, 48, 48] := rfl
    have l4 := dgL_len 4 Y
    have l2 := dgL_len 2 M
    have l3 := dgL_len 2 D
    have l5 := dgL_len 2 H
    have l6 := dgL_len 2 I
    have s1 : digR (brow [48, 48, 48, 48, 45, 48, 48, 45, 48, 48, 32, 48, 48, 58, 48, 48]) 0 4 Y = brow (dgL 4 Y ++ [45, 48, 48, 45, 48, 48, 32, 48, 48, 58, 48, 48]) := dig_step (a := []) (z := [48, 48, 48, 48]) rfl rfl rfl
    have s2 : digR (brow (dgL 4 Y ++ [45, 48, 48, 45, 48, 48, 32, 48, 48, 58, 48, 48])) 5 2 M = brow (dgL 4 Y ++ [45] ++ dgL 2 M ++ [45, 48, 48, 32, 48, 48, 58, 48, 48]) := dig_step (a := dgL 4 Y ++ [45]) (z := [48, 48]) (by simp) (by simp [l4]) rfl
    have s3 : digR (brow (dgL 4 Y ++ [45] ++ dgL 2 M ++ [45, 48, 48, 32, 48, 48, 58, 48, 48])) 8 2 D = brow (dgL 4 Y ++ [45] ++ dgL 2 M ++ [45] ++ dgL 2 D ++ [32, 48, 48, 58, 48, 48]) := dig_step (a := dgL 4 Y ++ [45] ++ dgL 2 M ++ [45]) (z := [48, 48]) (by simp) (by simp [l4, l2]) rfl
    have s4 : digR (brow (dgL 4 Y ++ [45] ++ dgL 2 M ++ [45] ++ dgL 2 D ++ [32, 48, 48, 58, 48, 48])) 11 2 H = brow (dgL 4 Y ++ [45] ++ dgL 2 M ++ [45] ++ dgL 2 D ++ [32] ++ dgL 2 H ++ [58, 48, 48]) := dig_step (a := dgL 4 Y ++ [45] ++ dgL 2 M ++ [45] ++ dgL 2 D ++ [32]) (z := [48, 48]) (by simp) (by simp [l4, l2, l3]) rfl
    have s5 : digR (brow (dgL 4 Y ++ [45] ++ dgL 2 M ++ [45] ++ dgL 2 D ++ [32] ++ dgL 2 H ++ [58, 48, 48])) 14 2 I = brow (txtL Y M D H I) :=
      (dig_step (n := 2) (o := 14) (a := dgL 4 Y ++ [45] ++ dgL 2 M ++ [45] ++ dgL 2 D ++ [32] ++ dgL 2 H ++ [58]) (z := [48, 48]) (c := []) (by simp) (by simp [l4, l2, l3, l5]) rfl).trans (by simp [txtL])
    have lt : (txtL Y M D H I).length = 16 := by simp [txtL, l4, l2, l3, l5, l6]
    rw [e0, s1, s2, s3, s4, s5]
    refine ⟨?_, ?_, ?_, ?_, ?_, ?_⟩
    · exact dgP_brow rfl (by decide) (by decide) (by omega)
    · exact dgP_brow (by simp [l4]) (by decide) (by decide) (by omega)
    · exact dgP_brow (by simp [l4, l2]) (by decide) (by decide) (by omega)
    · exact dgP_brow (by simp [l4, l2, l3]) (by decide) (by decide) (by omega)
    · exact dgP_brow (by simp [l4, l2, l3, l5]) (by decide) (by decide) (by omega)
    · exact cd1 (by rw [brow_len]; omega) ⟨txtL Y M D H I, rfl, cd1 (by omega) ⟨rfl, trivial, trivial⟩⟩
def cFormat_S (inB : Int → Bool) (fmtC : Int → ByteArray) (dtY : Int → Int) (dtM : Int → Int) (dtD : Int → Int) (dtH : Int → Int) (dtI : Int → Int) (dtR : Int → Int) (cumI : Int → Int → Int) (digR : List (List AV) → Nat → Nat → Int → List (List AV)) : Prop := ∀ (gl : Glob) (t : Int), fnK Try.prog { glob := gl, spec := lk [(19, (cDate_s inB dtY dtM dtD dtH dtI dtR cumI))], specH := lk [(38, (cDigits_s digR))], shape := [43], nowf := true } { nt := 44, drop := drp [(1, 3968), (2, 4096), (3, 16384), (4, 98304), (5, 1966080), (6, 62914560), (7, 2013265920), (8, 64424509440), (9, 2061584302080), (10, 13194139533312)] } (fun _ _ => none) 6 Try.f22 [.int .i64 t] (.tup [.str (fmtC t), .int .i64 (if inB t then 0 else 1)])
set_option maxRecDepth 100000 in
theorem cFormat_e (inB : Int → Bool) (fmtC : Int → ByteArray) (dtY : Int → Int) (dtM : Int → Int) (dtD : Int → Int) (dtH : Int → Int) (dtI : Int → Int) (dtR : Int → Int) (cumI : Int → Int → Int) (digR : List (List AV) → Nat → Nat → Int → List (List AV)) : cFormat_T inB fmtC dtY dtM dtD dtH dtI dtR cumI digR = cFormat_S inB fmtC dtY dtM dtD dtH dtI dtR cumI digR := by kernel_rfl
theorem cFormat_v : cFormat_S inB fmtC dtY dtM dtD dtH dtI dtR cumI digR := @Eq.mp (cFormat_T inB fmtC dtY dtM dtD dtH dtI dtR cumI digR) (cFormat_S inB fmtC dtY dtM dtD dtH dtI dtR cumI digR) (cFormat_e inB fmtC dtY dtM dtD dtH dtI dtR cumI digR) cFormat_P
theorem cFormat_ok (gl : Glob) : SOK Try.prog gl 22 (cFormat_s inB fmtC) := by
  refine ⟨fok Try.func22 (by kernel_rfl) (by kernel_rfl), ?_⟩
  intro xs pre r h hp
  unfold cFormat_s at h
  split at h
  · simp only [Option.some.injEq, Prod.mk.injEq] at h
    obtain ⟨h1, h2⟩ := h
    subst h1 h2
    exact fnK_sound tyNil (by exact specOK rfl rfl ⟨cDate_ok gl, trivial⟩ ⟨cDigits_ok gl, trivial⟩) (by kernel_rfl) Try.func22 rfl (cFormat_v gl _)
  · cases h

/-! Texts read. -/
def isD (b : Int) : Bool := decide (48 ≤ b) && decide (b ≤ 57)
def patC : ByteArray := ⟨#[48, 48, 48, 48, 45, 48, 48, 45, 48, 48, 32, 48, 48, 58, 48, 48]⟩
def okAt (s : ByteArray) (i : Nat) : Bool := (isD (byteI s i) == decide (byteI patC i = 48)) && (isD (byteI s i) || decide (byteI s i = byteI patC i))
def okTo (s : ByteArray) : Nat → Bool
  | 0 => true
  | k + 1 => okTo s k && okAt s k
def sub (s : ByteArray) (a b : Nat) : Int := numV (s.extract a b)
def prsV (s : ByteArray) : Bool := decide (s.size = 16) && okTo s 16 && vldB (sub s 0 4) (sub s 5 7) (sub s 8 10) (sub s 11 13) (sub s 14 16)
def prsM (s : ByteArray) : Int := if prsV s then mns (sub s 0 4) (sub s 5 7) (sub s 8 10) (sub s 11 13) (sub s 14 16) else 0
structure PrsP (s : ByteArray) (i : Int) : Prop where
  lo : 0 ≤ i
  hi : i ≤ 16
  ok : okTo s i.toNat = true
def prsI (s : ByteArray) : LInv := ⟨Int, fun i => ⟨[(0, .str s), (13, .int .i64 s.size), (14, .int .i64 i)], []⟩, PrsP s, fun i => (16 - i).toNat, none⟩
theorem okTo_le {s : ByteArray} : ∀ {k n : Nat}, k ≤ n → okTo s n = true → okTo s k = true
  | k, 0, h, h1 => by have : k = 0 := by omega
                      subst this; exact h1
  | k, n + 1, h, h1 => by
    rcases Nat.lt_or_ge k (n + 1) with q | q
    · simp only [okTo, Bool.and_eq_true] at h1
      exact okTo_le (by omega) h1.1
    · have : k = n + 1 := by omega
      subst this; exact h1
theorem prs_bad {s : ByteArray} {k : Nat} (hk : k < 16) (h : okAt s k = false) : 0 = prsM s ∧ (3 = if prsV s = true then (0 : Int) else 3) ∧ True := by
  have : prsV s = false := by
    cases hv : prsV s with
    | false => rfl
    | true =>
      unfold prsV at hv
      simp only [Bool.and_eq_true] at hv
      have := okTo_le (k := k + 1) (by omega) hv.1.2
      simp only [okTo, Bool.and_eq_true] at this
      rw [h] at this; cases this.2
  unfold prsM
  rw [this]
  exact ⟨rfl, rfl, trivial⟩
theorem okAt_eq (s : ByteArray) (k : Nat) : okAt s k = (((decide (48 ≤ byteI s k) && decide (byteI s k ≤ 57)) == decide (byteI patC k = 48)) && ((decide (48 ≤ byteI s k) && decide (byteI s k ≤ 57)) || decide (byteI s k = byteI patC k))) := rfl
theorem numS_of {s : ByteArray} {a b : Nat} (h : b - a ≤ 8) : NumS (s.extract a b) := ⟨by rw [ByteArray.size_extract]; omega⟩
def cParse_s (prsM : ByteArray → Int) (prsV : ByteArray → Bool) : Sp
  | [.str s] => some (True, .tup [.int .i64 (prsM s), .int .i64 (if prsV s then 0 else 3)])
  | _ => none
set_option maxRecDepth 100000 in
def cParse_T (prsM : ByteArray → Int) (prsV : ByteArray → Bool) (numV : ByteArray → Int) (vldB : Int → Int → Int → Int → Int → Bool) (mns : Int → Int → Int → Int → Int → Int) : Prop :=
  ∀ (gl : Glob) (s : ByteArray), s.size.le (9223372036854775807 : Nat) → bif decide ¬(↑s.size : Int) = (16 : Int) then (0 : Int) = prsM s ∧ ((3 : Int) = if prsV s = true then (0 :
  Int) else (3 : Int)) ∧ True else (∃ x, PrsP s x ∧ (s = s ∧ (↑s.size : Int) = (↑s.size : Int) ∧ (0 : Int) = x ∧ True) ∧ True) ∧ ∀ (x : Int), PrsP s x → bif decide (x < (↑s.size :
  Int)) then bif decide ((0 : Int) ≤ x ∧ x < (↑s.size : Int)) then bif decide ((48 : Int) ≤ byteI s x.toNat) then bif decide ((0 : Int) ≤ x ∧ x < (↑s.size : Int)) then bif decide ((0
  : Int) ≤ x ∧ x < (16 : Int)) then bif !decide (decide (byteI s x.toNat ≤ (57 : Int)) = decide (byteI { data := #[(48 : UInt8), (48 : UInt8), (48 : UInt8), (48 : UInt8), (45 :
  UInt8), (48 : UInt8), (48 : UInt8), (45 : UInt8), (48 : UInt8), (48 : UInt8), (32 : UInt8), (48 : UInt8), (48 : UInt8), (58 : UInt8), (48 : UInt8), (48 : UInt8)] } x.toNat = (48 :
  Int))) then (0 : Int) = prsM s ∧ ((3 : Int) = if prsV s = true then (0 : Int) else (3 : Int)) ∧ True else bif !decide (byteI s x.toNat ≤ (57 : Int)) then bif decide ((0 : Int) ≤ x
  ∧ x < (↑s.size : Int)) then bif decide ((0 : Int) ≤ x ∧ x < (16 : Int)) then bif decide ¬byteI s x.toNat = byteI { data := #[(48 : UInt8), (48 : UInt8), (48 : UInt8), (48 : UInt8),
  (45 : UInt8), (48 : UInt8), (48 : UInt8), (45 : UInt8), (48 : UInt8), (48 : UInt8), (32 : UInt8), (48 : UInt8), (48 : UInt8), (58 : UInt8), (48 : UInt8), (48 : UInt8)] } x.toNat
  then (0 : Int) = prsM s ∧ ((3 : Int) = if prsV s = true then (0 : Int) else (3 : Int)) ∧ True else bif decide (rng IntKind.i64 (x + (1 : Int))) then ∃ y, PrsP s y ∧ (prsI s).m y <
  (prsI s).m x ∧ (s = s ∧ (↑s.size : Int) = (↑s.size : Int) ∧ x + (1 : Int) = y ∧ True) ∧ True else False else False else False else bif decide (rng IntKind.i64 (x + (1 : Int))) then
  ∃ y, PrsP s y ∧ (prsI s).m y < (prsI s).m x ∧ (s = s ∧ (↑s.size : Int) = (↑s.size : Int) ∧ x + (1 : Int) = y ∧ True) ∧ True else False else False else False else bif decide ((0 :
  Int) ≤ x ∧ x < (16 : Int)) then bif !decide (false = decide (byteI { data := #[(48 : UInt8), (48 : UInt8), (48 : UInt8), (48 : UInt8), (45 : UInt8), (48 : UInt8), (48 : UInt8), (45
  : UInt8), (48 : UInt8), (48 : UInt8), (32 : UInt8), (48 : UInt8), (48 : UInt8), (58 : UInt8), (48 : UInt8), (48 : UInt8)] } x.toNat = (48 : Int))) then (0 : Int) = prsM s ∧ ((3 :
  Int) = if prsV s = true then (0 : Int) else (3 : Int)) ∧ True else bif decide ((0 : Int) ≤ x ∧ x < (↑s.size : Int)) then bif decide ((0 : Int) ≤ x ∧ x < (16 : Int)) then bif decide
  ¬byteI s x.toNat = byteI { data := #[(48 : UInt8), (48 : UInt8), (48 : UInt8), (48 : UInt8), (45 : UInt8), (48 : UInt8), (48 : UInt8), (45 : UInt8), (48 : UInt8), (48 : UInt8), (32
  : UInt8), (48 : UInt8), (48 : UInt8), (58 : UInt8), (48 : UInt8), (48 : UInt8)] } x.toNat then (0 : Int) = prsM s ∧ ((3 : Int) = if prsV s = true then (0 : Int) else (3 : Int)) ∧
  True else bif decide (rng IntKind.i64 (x + (1 : Int))) then ∃ y, PrsP s y ∧ (prsI s).m y < (prsI s).m x ∧ (s = s ∧ (↑s.size : Int) = (↑s.size : Int) ∧ x + (1 : Int) = y ∧ True) ∧
  True else False else False else False else False else False else bif decide ((0 : Int) ≤ (4 : Int) ∧ (4 : Int) ≤ (↑s.size : Int)) then NumS (s.extract (0 : Nat) (4 : Nat)) ∧ bif
  decide ((0 : Int) ≤ (7 : Int) ∧ (7 : Int) ≤ (↑s.size : Int)) then NumS (s.extract (5 : Nat) (7 : Nat)) ∧ bif decide ((0 : Int) ≤ (10 : Int) ∧ (10 : Int) ≤ (↑s.size : Int)) then
  NumS (s.extract (8 : Nat) (10 : Nat)) ∧ bif decide ((0 : Int) ≤ (13 : Int) ∧ (13 : Int) ≤ (↑s.size : Int)) then NumS (s.extract (11 : Nat) (13 : Nat)) ∧ bif decide ((0 : Int) ≤
  (↑s.size : Int) ∧ (↑s.size : Int) ≤ (↑s.size : Int)) then bif decide ((0 : Int) ≤ (14 : Int) ∧ (14 : Int) ≤ (↑s.size : Int)) then NumS (s.extract (14 : Nat) (↑s.size : Int).toNat)
  ∧ True ∧ bif decide ¬(if vldB (numV (s.extract (0 : Nat) (4 : Nat))) (numV (s.extract (5 : Nat) (7 : Nat))) (numV (s.extract (8 : Nat) (10 : Nat))) (numV (s.extract (11 : Nat) (13
  : Nat))) (numV (s.extract (14 : Nat) (↑s.size : Int).toNat)) = true then (0 : Int) else (1 : Int)) = (0 : Int) then (0 : Int) = prsM s ∧ ((3 : Int) = if prsV s = true then (0 :
  Int) else (3 : Int)) ∧ True else (if vldB (numV (s.extract (0 : Nat) (4 : Nat))) (numV (s.extract (5 : Nat) (7 : Nat))) (numV (s.extract (8 : Nat) (10 : Nat))) (numV (s.extract (11
  : Nat) (13 : Nat))) (numV (s.extract (14 : Nat) (↑s.size : Int).toNat)) = true then mns (numV (s.extract (0 : Nat) (4 : Nat))) (numV (s.extract (5 : Nat) (7 : Nat))) (numV
  (s.extract (8 : Nat) (10 : Nat))) (numV (s.extract (11 : Nat) (13 : Nat))) (numV (s.extract (14 : Nat) (↑s.size : Int).toNat)) else (0 : Int)) = prsM s ∧ ((0 : Int) = if prsV s =
  true then (0 : Int) else (3 : Int)) ∧ True else False else False else False else False else False else False
set_option maxRecDepth 100000 in
theorem cParse_P : cParse_T prsM prsV numV vldB mns := by
  unfold cParse_T
  intro gl s hsz
  have hpat : (⟨#[(48 : UInt8), 48, 48, 48, 45, 48, 48, 45, 48, 48, 32, 48, 48, 58, 48, 48]⟩ : ByteArray) = patC := rfl
  simp only [hpat]
  refine csplit (fun h => ?_) (fun h => ?_)
  · have h := of_decide_eq_true h
    have hn : ¬ s.size = 16 := by omega
    have : prsV s = false := by unfold prsV; rw [decide_eq_false hn]; rfl
    unfold prsM; rw [this]; exact ⟨rfl, rfl, trivial⟩
  · have h := of_decide_eq_false h
    have hn : s.size = 16 := by omega
    refine ⟨⟨0, ⟨by decide, by decide, rfl⟩, ⟨trivial, trivial, rfl, trivial⟩, trivial⟩, ?_⟩
    rintro x ⟨x0, x1, xo⟩
    refine csplit (fun hlt => ?_) (fun hlt => ?_)
    · have hlt : x < (s.size : Int) := of_decide_eq_true hlt
      have hk : x.toNat < 16 := by omega
      have e1 : (x + 1).toNat = x.toNat + 1 := by omega
      have oke := okAt_eq s x.toNat
      have bad : okAt s x.toNat = false → 0 = prsM s ∧ (3 = if prsV s = true then (0 : Int) else 3) ∧ True := prs_bad hk
      have nxt : okAt s x.toNat = true → PrsP s (x + 1) := fun ho => ⟨by omega, by omega, by rw [e1]; simp only [okTo, xo, ho]; rfl⟩
      have hm : (prsI s).m (x + 1) < (prsI s).m x := by simp only [prsI]; omega
      have r1 : 0 ≤ x ∧ x < (s.size : Int) := ⟨x0, hlt⟩
      have r2 : 0 ≤ x ∧ x < 16 := ⟨x0, by omega⟩
      have hrng : -9223372036854775808 ≤ x + 1 ∧ x + 1 ≤ 9223372036854775807 := by omega
      generalize okAt s x.toNat = O at *
      refine cd1 r1 (csplit (fun hb => cd1 r1 (cd1 r2 (csplit (fun h1 => bad ?_) (fun h1 => csplit (fun h2 => cd1 r1 (cd1 r2 (csplit (fun h3 => bad ?_) (fun h3 => cdI hrng ⟨x + 1, nxt ?_, hm, ⟨trivial, trivial, rfl, trivial⟩, trivial⟩)))) (fun h2 => cdI hrng ⟨x + 1, nxt ?_, hm, ⟨trivial, trivial, rfl, trivial⟩, trivial⟩)))))
        (fun hb => cd1 r2 (csplit (fun h1 => bad ?_) (fun h1 => cd1 r1 (cd1 r2 (csplit (fun h3 => bad ?_) (fun h3 => cdI hrng ⟨x + 1, nxt ?_, hm, ⟨trivial, trivial, rfl, trivial⟩, trivial⟩)))))))
      all_goals
        simp only [decide_not] at *
        generalize decide (48 ≤ byteI s x.toNat) = A at *
        generalize decide (byteI s x.toNat ≤ 57) = B at *
        generalize decide (byteI patC x.toNat = 48) = C at *
        generalize decide (byteI s x.toNat = byteI patC x.toNat) = E at *
        clear bad nxt
        cases A <;> cases B <;> cases C <;> cases E <;> simp_all
    · have hlt : ¬ x < (s.size : Int) := of_decide_eq_false hlt
      have hx : x.toNat = 16 := by omega
      rw [hx] at xo
      have hT : (s.size : Int).toNat = 16 := by omega
      rw [hT]
      refine cd1 (by omega) ⟨numS_of (by decide), cd1 (by omega) ⟨numS_of (by decide), cd1 (by omega) ⟨numS_of (by decide), cd1 (by omega) ⟨numS_of (by decide), cd1 (by omega) (cd1 (by omega) ⟨numS_of (by decide), trivial, ?_⟩)⟩⟩⟩⟩
      have hV : prsV s = vldB (numV (s.extract 0 4)) (numV (s.extract 5 7)) (numV (s.extract 8 10)) (numV (s.extract 11 13)) (numV (s.extract 14 16)) := by
        unfold prsV
        rw [decide_eq_true hn, xo]; rfl
      unfold prsM
      rw [hV]
      unfold sub
      cases vldB (numV (s.extract 0 4)) (numV (s.extract 5 7)) (numV (s.extract 8 10)) (numV (s.extract 11 13)) (numV (s.extract 14 16)) with
      | false => exact ⟨rfl, rfl, trivial⟩
      | true => exact ⟨rfl, rfl, trivial⟩
def cParse_S (prsM : ByteArray → Int) (prsV : ByteArray → Bool) (numV : ByteArray → Int) (vldB : Int → Int → Int → Int → Int → Bool) (mns : Int → Int → Int → Int → Int → Int) : Prop := ∀ (gl : Glob) (s : ByteArray), fnK Try.prog { glob := gl, spec := lk [(39, (cNumber_s numV)), (12, (cMinutes_s vldB mns))], specH := lk [], nowf := true } { nt := 69, drop := drp [(1, 1536), (3, 4096), (5, 65536), (6, 134086656), (7, 8795958804480), (9, 17592186044416), (10, 2305807824841605120), (11, 71481133285624512512), (12, 73786976294838206464), (14, 295147905179352825856)] } (invs [(4, prsI s)]) 6 Try.f23 [.str s] (.tup [.int .i64 (prsM s), .int .i64 (if prsV s then 0 else 3)])
set_option maxRecDepth 100000 in
theorem cParse_e (prsM : ByteArray → Int) (prsV : ByteArray → Bool) (numV : ByteArray → Int) (vldB : Int → Int → Int → Int → Int → Bool) (mns : Int → Int → Int → Int → Int → Int) : cParse_T prsM prsV numV vldB mns = cParse_S prsM prsV numV vldB mns := by kernel_rfl
theorem cParse_v : cParse_S prsM prsV numV vldB mns := @Eq.mp (cParse_T prsM prsV numV vldB mns) (cParse_S prsM prsV numV vldB mns) (cParse_e prsM prsV numV vldB mns) cParse_P
theorem cParse_ok (gl : Glob) : SOK Try.prog gl 23 (cParse_s prsM prsV) := by
  refine ⟨fok Try.func23 (by kernel_rfl) (by kernel_rfl), ?_⟩
  intro xs pre r h hp
  unfold cParse_s at h
  split at h
  · simp only [Option.some.injEq, Prod.mk.injEq] at h
    obtain ⟨h1, h2⟩ := h
    subst h1 h2
    exact fnK_sound tyNil (by exact specOK rfl rfl ⟨cNumber_ok gl, cMinutes_ok gl, trivial⟩ trivial) (by kernel_rfl) Try.func23 rfl (cParse_v gl _)
  · cases h
end Go.Proofs.Ytakmploakbaglaa
