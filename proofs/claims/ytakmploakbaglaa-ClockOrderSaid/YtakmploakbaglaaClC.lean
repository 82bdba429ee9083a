/- Digits of a number in a row of bytes; the number of some digits. -/
import Derived.Test.YtakmploakbaglaaKv
namespace Go.Proofs.Ytakmploakbaglaa
open Go
set_option linter.unusedVariables false
set_option linter.unusedSimpArgs false

/-- n digits of x, written into a row from place o on. -/
def digR (xs : List (List AV)) (o : Nat) : Nat → Int → List (List AV)
  | 0, _ => xs
  | n + 1, x => digR (xs.set (o + n) [.int .u8 (48 + x % 10)]) o n (x / 10)
theorem digR_len : ∀ (n : Nat) (xs : List (List AV)) (o : Nat) (x : Int), (digR xs o n x).length = xs.length
  | 0, _, _, _ => rfl
  | n + 1, xs, o, x => by simp only [digR]; rw [digR_len n]; simp
/-- The digits themselves. -/
def dgL : Nat → Int → List Int
  | 0, _ => []
  | n + 1, x => dgL n (x / 10) ++ [48 + x % 10]
theorem dgL_len : ∀ (n : Nat) (x : Int), (dgL n x).length = n
  | 0, _ => rfl
  | n + 1, x => by simp only [dgL, List.length_append, dgL_len n]; rfl
theorem dgL_bd : ∀ (n : Nat) (x : Int), ∀ b ∈ dgL n x, 48 ≤ b ∧ b ≤ 57
  | 0, _, b, h => by cases h
  | n + 1, x, b, h => by
    simp only [dgL, List.mem_append, List.mem_singleton] at h
    rcases h with h | h
    · exact dgL_bd n _ b h
    · omega
theorem digR_dgL : ∀ (n : Nat) (x : Int) (a z c : List Int), z.length = n → digR (brow (a ++ z ++ c)) a.length n x = brow (a ++ dgL n x ++ c)
  | 0, x, a, z, c, h => by
    have : z = [] := List.eq_nil_of_length_eq_zero h
    subst this; rfl
  | n + 1, x, a, z, c, h => by
    have hz : z ≠ [] := by intro e; subst e; simp at h
    have e1 : z = z.dropLast ++ [z.getLast hz] := (List.dropLast_concat_getLast hz).symm
    have hl : z.dropLast.length = n := by simp [h]
    simp only [digR, dgL]
    have e2 : (brow (a ++ z ++ c)).set (a.length + n) [.int .u8 (48 + x % 10)] = brow (a ++ z.dropLast ++ ([48 + x % 10] ++ c)) := by
      conv => lhs; rw [e1]
      unfold brow
      have h3 : a ++ (z.dropLast ++ [z.getLast hz]) ++ c = (a ++ z.dropLast) ++ (z.getLast hz :: c) := by simp
      rw [h3, List.map_append, List.set_append_right _ _ (by simp; omega)]
      simp [h]
    rw [e2, digR_dgL n (x / 10) a z.dropLast ([48 + x % 10] ++ c) hl]
    simp
structure DgP (xs : List (List AV)) (q o n : Nat) (x : Int) : Prop where
  len : xs.length = q
  fit : o + n ≤ q
  small : n ≤ 1000
  pos : 0 ≤ x
  one : ∀ y ∈ xs, y.length = 1
structure DgQ (xs : List (List AV)) (q o n : Nat) (x : Int) (s : Int × Int × List (List AV)) : Prop where
  lo : -1 ≤ s.1
  hi : s.1 < n
  len : s.2.2.length = q
  pos : 0 ≤ s.2.1 ∧ s.2.1 ≤ 9223372036854775807
  one : ∀ y ∈ s.2.2, y.length = 1
  eq : digR s.2.2 o (s.1 + 1).toNat s.2.1 = digR xs o n x
def dgI (e : Nat) (xs : List (List AV)) (q o n : Nat) (f : Bool) (x : Int) : LInv := ⟨Int × Int × List (List AV), fun s => ⟨[(0, .mw 0 1 q o n f), (1, .int .i64 s.2.1), (4, .int .i64 s.1)], [(0, .row e 1 s.2.2)]⟩,
  DgQ xs q o n x, fun s => (s.1 + 1).toNat, none⟩
theorem setEl_one {ys : List (List AV)} {j : Nat} {a : AV} (h : j < ys.length) (h1 : ∀ y ∈ ys, y.length = 1) : setEl ys j 0 [a] = ys.set j [a] := by
  unfold setEl spl
  have := h1 ys[j] (List.getElem_mem h)
  rw [List.getD_eq_getElem?_getD, List.getElem?_eq_getElem h]
  congr 1
  simp only [Option.getD_some, List.take_zero, List.nil_append, List.length_singleton]
  rw [List.drop_eq_nil_of_le (by omega)]
  rfl
def cDigits_s (digR : List (List AV) → Nat → Nat → Int → List (List AV)) : SpH
  | [.mw 0 1 q o n f, .int .i64 x], [.row e 1 xs] => some (DgP xs q o n x, .tup [], [.row e 1 (digR xs o n x)])
  | _, _ => none
set_option maxRecDepth 100000 in
def cDigits_T (digR : List (List AV) → Nat → Nat → Int → List (List AV)) : Prop :=
  ∀ (gl : Glob) (e q o n : Nat) (f : Bool) (xs : List (List AV)) (x : Int), DgP xs q o n x → True → (-9223372036854775808 : Int) ≤ x ∧ x ≤ (9223372036854775807 : Int) → bif decide
  (rng IntKind.i64 ((↑n : Int) - (1 : Int))) then (∃ x_1, DgQ xs q o n x x_1 ∧ ((q = q ∧ o = o ∧ n = n ∧ bif f then f = true else True) ∧ x = x_1.snd.fst ∧ (↑n : Int) - (1 : Int) =
  x_1.fst ∧ True) ∧ (bif e.beq e && Nat.beq (1 : Nat) (1 : Nat) then xs = x_1.snd.snd else False) ∧ True) ∧ ∀ (x_1 : Int × Int × List (List AV)), DgQ xs q o n x x_1 → bif decide ((0
  : Int) ≤ x_1.fst) then bif decide (rng IntKind.i64 ((48 : Int) + x_1.snd.fst.tmod (10 : Int))) then bif decide ((0 : Int) ≤ x_1.fst ∧ x_1.fst < (↑n : Int)) then bif decide (q =
  x_1.snd.snd.length ∧ o + x_1.fst.toNat < x_1.snd.snd.length) then bif decide (rng IntKind.i64 (x_1.snd.fst.tdiv (10 : Int))) then bif decide (rng IntKind.i64 (x_1.fst - (1 : Int)))
  then ∃ y, DgQ xs q o n x y ∧ (dgI e xs q o n f x).m y < (dgI e xs q o n f x).m x_1 ∧ ((q = q ∧ o = o ∧ n = n ∧ bif f then f = true else True) ∧ x_1.snd.fst.tdiv (10 : Int) =
  y.snd.fst ∧ x_1.fst - (1 : Int) = y.fst ∧ True) ∧ (bif e.beq e && Nat.beq (1 : Nat) (1 : Nat) then setEl x_1.snd.snd (o + x_1.fst.toNat) (0 : Nat) [AV.int IntKind.u8
  (IntKind.u8.wrap ((48 : Int) + x_1.snd.fst.tmod (10 : Int)))] = y.snd.snd else False) ∧ True else False else False else False else False else False else True ∧ (bif e.beq e &&
  Nat.beq (1 : Nat) (1 : Nat) then x_1.snd.snd = digR xs o n x else False) ∧ True else False
set_option maxRecDepth 100000 in
theorem cDigits_P : cDigits_T digR := by
  unfold cDigits_T
  intro gl e q o n f xs x ⟨hl, hf, hsm, hp, h1⟩ _ hx
  have be : cond (Nat.beq e e && Nat.beq 1 1) = cond (α := Prop) true := by rw [nbeq_self]; rfl
  simp only [be, cond_true]
  refine cdI (by omega) ⟨⟨((n : Int) - 1, x, xs), ⟨by simp only; omega, by simp only; omega, hl, ⟨hp, hx.2⟩, h1, by simp only; rw [show ((n : Int) - 1 + 1).toNat = n by omega]⟩, ?_⟩, ?_⟩
  · have : cond f (f = true) True := by cases f <;> simp
    repeat' (first | apply And.intro | exact trivial | exact rfl | exact this)
  · rintro ⟨i, x', ys⟩ ⟨q1, q2, q3, ⟨q4, q5⟩, q6, q7⟩
    simp only at q1 q2 q3 q4 q5 q6 q7
    refine csplit (fun h0 => ?_) (fun h0 => ?_)
    · have h0 : 0 ≤ i := of_decide_eq_true h0
      have hm : x'.tmod 10 = x' % 10 := Int.tmod_eq_emod_of_nonneg q4
      have hd : x'.tdiv 10 = x' / 10 := Int.tdiv_eq_ediv_of_nonneg q4
      have hw : IntKind.u8.wrap (48 + x' % 10) = 48 + x' % 10 := wrap_eq (by simp only [rng]; omega)
      have e1 : (i + 1).toNat = i.toNat + 1 := by omega
      simp only [hm, hd, hw]
      refine cdI (by omega) (cd1 ⟨h0, q2⟩ (cd1 ⟨q3.symm, by rw [q3]; omega⟩ (cdI (by omega) (cdI (by omega) ⟨(i - 1, x' / 10, ys.set (o + i.toNat) [.int .u8 (48 + x' % 10)]), ⟨by simp only; omega, by simp only; omega, by simp only [List.length_set]; exact q3, by simp only; omega, ?_, ?_⟩, by simp only [dgI]; omega, ?_⟩))))
      · intro y hy
        rcases List.mem_or_eq_of_mem_set hy with h | h
        · exact q6 y h
        · rw [h]; rfl
      · simp only
        rw [← q7, e1, show (i - 1 + 1).toNat = i.toNat by omega]
        rfl
      · have : cond f (f = true) True := by cases f <;> simp
        have hs := setEl_one (a := .int .u8 (48 + x' % 10)) (show o + i.toNat < ys.length by rw [q3]; omega) q6
        repeat' (first | apply And.intro | exact trivial | exact rfl | exact this | exact hs)
    · have h0 : ¬ 0 ≤ i := of_decide_eq_false h0
      rw [show (i + 1).toNat = 0 by omega] at q7
      exact ⟨trivial, q7, trivial⟩
def cDigits_S (digR : List (List AV) → Nat → Nat → Int → List (List AV)) : Prop := ∀ (gl : Glob) (e q o n : Nat) (f : Bool) (xs : List (List AV)) (x : Int), DgP xs q o n x → fnH Try.prog { glob := gl, spec := lk [], specH := lk [], nowf := true } { nt := 21, drop := drp [(0, 224), (1, 256), (2, 3072), (3, 520192), (4, 1572864)], fr := 1000, kp := [0] } (invs [(1, dgI e xs q o n f x)]) 6 Try.f38 [.mw 0 1 q o n f, .int .i64 x] [.row e 1 xs] (.tup []) [.row e 1 (digR xs o n x)]
set_option maxRecDepth 100000 in
theorem cDigits_e (digR : List (List AV) → Nat → Nat → Int → List (List AV)) : cDigits_T digR = cDigits_S digR := by kernel_rfl
theorem cDigits_v : cDigits_S digR := @Eq.mp (cDigits_T digR) (cDigits_S digR) (cDigits_e digR) cDigits_P
theorem cDigits_ok (gl : Glob) : HOK Try.prog gl 38 (cDigits_s digR) := by
  refine ⟨fok Try.func38 (by kernel_rfl) (by kernel_rfl), ?_⟩
  intro xs bs pre r bs2 h hp
  unfold cDigits_s at h
  split at h
  · simp only [Option.some.injEq, Prod.mk.injEq] at h
    obtain ⟨h1, h2, h3⟩ := h
    subst h1 h2 h3
    exact fnH_sound tyNil (by exact specOK rfl rfl trivial trivial) (by kernel_rfl) Try.func38 (cDigits_v gl _ _ _ _ _ _ _ hp)
  · cases h
/-- The number of the first k digits. -/
def numR (s : ByteArray) : Nat → Int
  | 0 => 0
  | k + 1 => 10 * numR s k + IntKind.u8.wrap (byteI s k - 48)
def numV (s : ByteArray) : Int := numR s s.size
theorem wrap8 (n : Int) : 0 ≤ IntKind.u8.wrap n ∧ IntKind.u8.wrap n ≤ 255 := wrap_rng .u8 n
theorem numR_bd (s : ByteArray) : ∀ k : Nat, 0 ≤ numR s k ∧ numR s k + 29 ≤ 30 * 10 ^ k
  | 0 => by simp [numR]
  | k + 1 => by
    obtain ⟨h1, h2⟩ := numR_bd s k
    have h3 := wrap8 (byteI s k - 48)
    simp only [numR]
    rw [Int.pow_succ]
    omega
theorem p10 {k : Nat} (h : k ≤ 8) : (10 : Int) ^ k ≤ 100000000 := by
  have : k = 0 ∨ k = 1 ∨ k = 2 ∨ k = 3 ∨ k = 4 ∨ k = 5 ∨ k = 6 ∨ k = 7 ∨ k = 8 := by omega
  rcases this with rfl | rfl | rfl | rfl | rfl | rfl | rfl | rfl | rfl <;> decide
structure NumP (s : ByteArray) (x : Int × Int) : Prop where
  lo : 0 ≤ x.1
  hi : x.1 ≤ s.size
  v : x.2 = numR s x.1.toNat
structure NumS (s : ByteArray) : Prop where
  small : s.size ≤ 8
def numI (s : ByteArray) : LInv := ⟨Int × Int, fun x => ⟨[(0, .str s), (3, .int .i64 x.2), (6, .int .i64 s.size), (7, .int .i64 x.1)], []⟩, NumP s, fun x => (s.size - x.1).toNat, none⟩
def cNumber_s (numV : ByteArray → Int) : Sp
  | [.str s] => some (NumS s, .int .i64 (numV s))
  | _ => none
set_option maxRecDepth 100000 in
def cNumber_T (numV : ByteArray → Int) : Prop :=
  ∀ (gl : Glob) (s : ByteArray), NumS s → s.size.le (9223372036854775807 : Nat) → (∃ x, NumP s x ∧ (s = s ∧ (0 : Int) = x.snd ∧ (↑s.size : Int) = (↑s.size : Int) ∧ (0 : Int) = x.fst
  ∧ True) ∧ True) ∧ ∀ (x : Int × Int), NumP s x → bif decide (x.fst < (↑s.size : Int)) then bif decide (rng IntKind.i64 ((10 : Int) * x.snd)) then bif decide ((0 : Int) ≤ x.fst ∧
  x.fst < (↑s.size : Int)) then bif decide (rng IntKind.i64 ((10 : Int) * x.snd + IntKind.u8.wrap (byteI s x.fst.toNat - (48 : Int)))) then bif decide (rng IntKind.i64 (x.fst + (1 :
  Int))) then ∃ y, NumP s y ∧ (numI s).m y < (numI s).m x ∧ (s = s ∧ (10 : Int) * x.snd + IntKind.u8.wrap (byteI s x.fst.toNat - (48 : Int)) = y.snd ∧ (↑s.size : Int) = (↑s.size :
  Int) ∧ x.fst + (1 : Int) = y.fst ∧ True) ∧ True else False else False else False else False else x.snd = numV s
set_option maxRecDepth 100000 in
theorem cNumber_P : cNumber_T numV := by
  unfold cNumber_T
  intro gl s ⟨hs⟩ _
  refine ⟨⟨(0, 0), ⟨by decide, by simp, rfl⟩, ⟨rfl, rfl, rfl, rfl, trivial⟩, trivial⟩, ?_⟩
  rintro ⟨i, v⟩ ⟨h1, h2, h3⟩
  simp only at h1 h2 h3
  have hb := numR_bd s i.toNat
  have hp := p10 (k := i.toNat) (by omega)
  refine csplit (fun hlt => ?_) (fun hlt => ?_)
  · have hlt : i < (s.size : Int) := of_decide_eq_true hlt
    have hw := wrap8 (byteI s i.toNat - 48)
    refine cdI (by simp only; omega) (cd1 ⟨h1, hlt⟩ (cdI (by simp only; omega) (cdI (by simp only; omega) ⟨(i + 1, 10 * v + IntKind.u8.wrap (byteI s i.toNat - 48)), ⟨by simp only; omega, by simp only; omega, ?_⟩, by simp only [numI]; omega, ⟨rfl, rfl, rfl, rfl, trivial⟩, trivial⟩)))
    simp only
    rw [show (i + 1).toNat = i.toNat + 1 by omega, h3]; rfl
  · have hlt : ¬ i < (s.size : Int) := of_decide_eq_false hlt
    show v = numV s
    unfold numV
    rw [h3, show i.toNat = s.size by omega]
def cNumber_S (numV : ByteArray → Int) : Prop := ∀ (gl : Glob) (s : ByteArray), NumS s → fnK Try.prog { glob := gl, spec := lk [], specH := lk [] } { nt := 20, drop := drp [(2, 32), (4, 512), (5, 261120), (6, 262144), (7, 524288)] } (invs [(3, numI s)]) 6 Try.f39 [.str s] (.int .i64 (numV s))
set_option maxRecDepth 100000 in
theorem cNumber_e (numV : ByteArray → Int) : cNumber_T numV = cNumber_S numV := by kernel_rfl
theorem cNumber_v : cNumber_S numV := @Eq.mp (cNumber_T numV) (cNumber_S numV) (cNumber_e numV) cNumber_P
theorem cNumber_ok (gl : Glob) : SOK Try.prog gl 39 (cNumber_s numV) := by
  refine ⟨fok Try.func39 (by kernel_rfl) (by kernel_rfl), ?_⟩
  intro xs pre r h hp
  unfold cNumber_s at h
  split at h
  · simp only [Option.some.injEq, Prod.mk.injEq] at h
    obtain ⟨h1, h2⟩ := h
    subst h1 h2
    exact fnK_sound tyNil (by exact specOK rfl rfl trivial trivial) (by kernel_rfl) Try.func39 rfl (cNumber_v gl _ hp)
  · cases h
end Go.Proofs.Ytakmploakbaglaa
