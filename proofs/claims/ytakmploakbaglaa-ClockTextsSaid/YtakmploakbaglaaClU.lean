/- The clock: the references' texts. -/
import Derived.Test.YtakmploakbaglaaClN
import Derived.Test.YtakmploakbaglaaClQ
namespace Go.Proofs.Ytakmploakbaglaa
open Go
set_option linter.unusedVariables false
set_option linter.unusedSimpArgs false

def dgS (n : Int) (w : Nat) : ByteArray := strOfNums (dgL w n)
structure RdgP (n : Int) (w : Nat) (x : Int × Int × ByteArray) : Prop where
  lo : 0 ≤ x.1
  hi : x.1 ≤ w
  pos : 0 ≤ x.2.1
  big : x.2.1 ≤ 9999
  eq : dgS n w = strOfNums (dgL (w - x.1.toNat) x.2.1) ++ x.2.2
  sz : x.2.2.size = x.1.toNat
def rdgI (n : Int) (w : Nat) : LInv := ⟨Int × Int × ByteArray, fun x => ⟨[(0, .int .i64 x.2.1), (1, .int .i64 w), (5, .str x.2.2), (6, .int .i64 x.1)], []⟩, RdgP n w, fun x => (w - x.1).toNat, none⟩
theorem strOf_app (a b : List Int) : strOfNums (a ++ b) = strOfNums a ++ strOfNums b := by
  unfold strOfNums
  apply ByteArray.ext
  simp
theorem strOf_nil : strOfNums [] = ⟨#[]⟩ := rfl
theorem ba_assoc (a b c : ByteArray) : a ++ b ++ c = a ++ (b ++ c) := by
  apply ByteArray.ext
  simp
theorem ba_nil (a : ByteArray) : a ++ (⟨#[]⟩ : ByteArray) = a := by
  apply ByteArray.ext
  simp
theorem nil_ba (a : ByteArray) : (⟨#[]⟩ : ByteArray) ++ a = a := by
  apply ByteArray.ext
  simp
def rDigits_s (dgS : Int → Nat → ByteArray) : Sp
  | [.int .i64 n, .int .i64 w] => some ((0 ≤ n ∧ n ≤ 9999) ∧ 0 ≤ w ∧ w ≤ 8, .str (dgS n w.toNat))
  | _ => none
set_option maxRecDepth 100000 in
def rDigits_T (dgS : Int → Nat → ByteArray) : Prop :=
  ∀ (gl : Glob) (n w : Int), ((0 : Int) ≤ n ∧ n ≤ (9999 : Int)) ∧ (0 : Int) ≤ w ∧ w ≤ (8 : Int) → (-9223372036854775808 : Int) ≤ n ∧ n ≤ (9223372036854775807 : Int) →
  (-9223372036854775808 : Int) ≤ w ∧ w ≤ (9223372036854775807 : Int) → (∃ x, RdgP n w.toNat x ∧ (n = x.snd.fst ∧ w = (↑w.toNat : Int) ∧ { data := #[] } = x.snd.snd ∧ (0 : Int) =
  x.fst ∧ True) ∧ True) ∧ ∀ (x : Int × Int × ByteArray), RdgP n w.toNat x → bif decide (x.fst < (↑w.toNat : Int)) then bif decide (rng IntKind.i64 ((48 : Int) + x.snd.fst.tmod (10 :
  Int))) then bif decide ((strOfNums [IntKind.u8.wrap ((48 : Int) + x.snd.fst.tmod (10 : Int))]).size + x.snd.snd.size ≤ (9223372036854775807 : Nat)) then bif decide (rng IntKind.i64
  (x.snd.fst.tdiv (10 : Int))) then bif decide (rng IntKind.i64 (x.fst + (1 : Int))) then ∃ y, RdgP n w.toNat y ∧ (rdgI n w.toNat).m y < (rdgI n w.toNat).m x ∧ (x.snd.fst.tdiv (10 :
  Int) = y.snd.fst ∧ (↑w.toNat : Int) = (↑w.toNat : Int) ∧ strOfNums [IntKind.u8.wrap ((48 : Int) + x.snd.fst.tmod (10 : Int))] ++ x.snd.snd = y.snd.snd ∧ x.fst + (1 : Int) = y.fst ∧
  True) ∧ True else False else False else False else False else x.snd.snd = dgS n w.toNat
set_option maxRecDepth 100000 in
theorem rDigits_P : rDigits_T dgS := by
  unfold rDigits_T
  intro gl n w ⟨⟨n0, n1⟩, w0, w1⟩ _ _
  have ew : (w.toNat : Int) = w := by omega
  refine ⟨⟨(0, n, ⟨#[]⟩), ⟨by simp only; omega, by simp only; omega, n0, n1, ?_, rfl⟩, ?_⟩, ?_⟩
  · simp only [Int.toNat_zero, Nat.sub_zero]; rw [ba_nil]; rfl
  · have e := ew.symm
    repeat' (first | apply And.intro | exact trivial | exact rfl | exact e)
  · rintro ⟨i, x, s⟩ ⟨i0, i1, x0, x1, he, hz⟩
    simp only at i0 i1 x0 x1 he hz
    refine csplit (fun hlt => ?_) (fun hlt => ?_)
    · have hlt : i < (w.toNat : Int) := of_decide_eq_true hlt
      dsimp only
      have q1 : x.tmod 10 = x % 10 := Int.tmod_eq_emod_of_nonneg x0
      have q2 : x.tdiv 10 = x / 10 := Int.tdiv_eq_ediv_of_nonneg x0
      have q3 : IntKind.u8.wrap (48 + x % 10) = 48 + x % 10 := wrap_eq (k := .u8) (by show _ ∧ _; omega)
      rw [q1, q2, q3]
      have hs1 : (strOfNums [48 + x % 10]).size = 1 := rfl
      refine cdI (by omega) (cd1 (by rw [hs1]; omega) (cdI (by omega) (cdI (by omega) ⟨(i + 1, x / 10, strOfNums [48 + x % 10] ++ s), ⟨by simp only; omega, by simp only; omega, by simp only; omega, by simp only; omega, ?_, ?_⟩, by simp only [rdgI]; omega, ?_⟩)))
      · have ek : w.toNat - i.toNat = (w.toNat - (i + 1).toNat) + 1 := by omega
        rw [he, ek]
        simp only [dgL]
        rw [strOf_app, ba_assoc]
      · simp only [ByteArray.size_append]; rw [hs1, hz]; omega
      · repeat' (first | apply And.intro | exact trivial | exact rfl)
    · have hlt : ¬ i < (w.toNat : Int) := of_decide_eq_false hlt
      have ek : w.toNat - i.toNat = 0 := by omega
      rw [he, ek]
      exact (nil_ba s).symm
def rDigits_S (dgS : Int → Nat → ByteArray) : Prop := ∀ (gl : Glob) (n w : Int), (0 ≤ n ∧ n ≤ 9999) ∧ 0 ≤ w ∧ w ≤ 8 → fnK Try.prog { glob := gl, spec := lk [], specH := lk [], nowf := true } { nt := 23, drop := drp [(3, 384), (4, 3072), (5, 1044480), (6, 3145728), (7, 4194304)] } (invs [(3, rdgI n w.toNat)]) 6 Try.f42 [.int .i64 n, .int .i64 w] (.str (dgS n w.toNat))
set_option maxRecDepth 100000 in
theorem rDigits_e (dgS : Int → Nat → ByteArray) : rDigits_T dgS = rDigits_S dgS := by kernel_rfl
theorem rDigits_v : rDigits_S dgS := @Eq.mp (rDigits_T dgS) (rDigits_S dgS) (rDigits_e dgS) rDigits_P
theorem rDigits_ok (gl : Glob) : SOK Try.prog gl 42 (rDigits_s dgS) := by
  refine ⟨fok Try.func42 (by kernel_rfl) (by kernel_rfl), ?_⟩
  intro xs pre r h hp
  unfold rDigits_s at h
  split at h
  · simp only [Option.some.injEq, Prod.mk.injEq] at h
    obtain ⟨h1, h2⟩ := h
    subst h1 h2
    exact fnK_sound tyNil (by exact specOK rfl rfl trivial trivial) (by kernel_rfl) Try.func42 rfl (rDigits_v gl _ _ hp)
  · cases h
def allD (s : ByteArray) : Nat → Bool
  | 0 => true
  | k + 1 => allD s k && isD (byteI s k)
def rnV (s : ByteArray) : Int := if allD s s.size then numV s else -1
theorem allD_le {s : ByteArray} : ∀ {k n : Nat}, k ≤ n → allD s n = true → allD s k = true
  | k, 0, h, h1 => by have : k = 0 := by omega
                      subst this; exact h1
  | k, n + 1, h, h1 => by
    rcases Nat.lt_or_ge k (n + 1) with q | q
    · simp only [allD, Bool.and_eq_true] at h1
      exact allD_le (by omega) h1.1
    · have : k = n + 1 := by omega
      subst this; exact h1
theorem rn_bad {s : ByteArray} {k : Nat} (hk : k < s.size) (h : isD (byteI s k) = false) : -1 = rnV s := by
  unfold rnV
  rw [if_neg]
  intro q
  have := allD_le (k := k + 1) (by omega) q
  simp only [allD, Bool.and_eq_true] at this
  rw [h] at this; cases this.2
structure RnP (s : ByteArray) (x : Int × Int) : Prop where
  lo : 0 ≤ x.1
  hi : x.1 ≤ s.size
  eq : x.2 = numR s x.1.toNat
  ok : allD s x.1.toNat = true
def rnI (s : ByteArray) : LInv := ⟨Int × Int, fun x => ⟨[(0, .str s), (3, .int .i64 x.2), (4, .int .i64 x.1)], []⟩, RnP s, fun x => (s.size - x.1).toNat, none⟩
theorem dgS_size (n : Int) (w : Nat) : (dgS n w).size = w := by unfold dgS; rw [strOf_size, dgL_len]
theorem fmt_eq (y m d h i : Int) : dgS y 4 ++ ⟨#[45]⟩ ++ dgS m 2 ++ ⟨#[45]⟩ ++ dgS d 2 ++ ⟨#[32]⟩ ++ dgS h 2 ++ ⟨#[58]⟩ ++ dgS i 2 = strOfNums (txtL y m d h i) := by
  unfold txtL dgS
  simp only [strOf_app]
  rfl
def rFormat_s (inB : Int → Bool) (fmtC : Int → ByteArray) : Sp
  | [.int .i64 t] => some (True, .tup [.str (fmtC t), .int .i64 (if inB t then 0 else 1)])
  | _ => none
set_option maxRecDepth 100000 in
def rFormat_T (inB : Int → Bool) (fmtC : Int → ByteArray) (dtY : Int → Int) (dtM : Int → Int) (dtD : Int → Int) (dtH : Int → Int) (dtI : Int → Int) (dtR : Int → Int) (dgS : Int → Nat → ByteArray) : Prop :=
  ∀ (gl : Glob) (t : Int), (-9223372036854775808 : Int) ≤ t ∧ t ≤ (9223372036854775807 : Int) → True ∧ bif decide ¬(if inB t = true then (0 : Int) else (1 : Int)) = (0 : Int) then {
  data := #[] } = fmtC t ∧ ((if inB t = true then (0 : Int) else (1 : Int)) = if inB t = true then (0 : Int) else (1 : Int)) ∧ True else ((((0 : Int) ≤ if inB t = true then dtY t
  else (0 : Int)) ∧ (if inB t = true then dtY t else (0 : Int)) ≤ (9999 : Int)) ∧ (0 : Int) ≤ (4 : Int) ∧ (4 : Int) ≤ (8 : Int)) ∧ bif decide ((dgS (if inB t = true then dtY t else
  (0 : Int)) (4 : Nat)).size + (1 : Nat) ≤ (9223372036854775807 : Nat)) then ((((0 : Int) ≤ if inB t = true then dtM t else (0 : Int)) ∧ (if inB t = true then dtM t else (0 : Int)) ≤
  (9999 : Int)) ∧ (0 : Int) ≤ (2 : Int) ∧ (2 : Int) ≤ (8 : Int)) ∧ bif decide ((dgS (if inB t = true then dtY t else (0 : Int)) (4 : Nat) ++ { data := #[(45 : UInt8)] }).size + (dgS
  (if inB t = true then dtM t else (0 : Int)) (2 : Nat)).size ≤ (9223372036854775807 : Nat)) then bif decide ((dgS (if inB t = true then dtY t else (0 : Int)) (4 : Nat) ++ { data :=
  #[(45 : UInt8)] } ++ dgS (if inB t = true then dtM t else (0 : Int)) (2 : Nat)).size + (1 : Nat) ≤ (9223372036854775807 : Nat)) then ((((0 : Int) ≤ if inB t = true then dtD t else
  (0 : Int)) ∧ (if inB t = true then dtD t else (0 : Int)) ≤ (9999 : Int)) ∧ (0 : Int) ≤ (2 : Int) ∧ (2 : Int) ≤ (8 : Int)) ∧ bif decide ((dgS (if inB t = true then dtY t else (0 :
  Int)) (4 : Nat) ++ { data := #[(45 : UInt8)] } ++ dgS (if inB t = true then dtM t else (0 : Int)) (2 : Nat) ++ { data := #[(45 : UInt8)] }).size + (dgS (if inB t = true then dtD t
  else (0 : Int)) (2 : Nat)).size ≤ (9223372036854775807 : Nat)) then bif decide ((dgS (if inB t = true then dtY t else (0 : Int)) (4 : Nat) ++ { data := #[(45 : UInt8)] } ++ dgS (if
  inB t = true then dtM t else (0 : Int)) (2 : Nat) ++ { data := #[(45 : UInt8)] } ++ dgS (if inB t = true then dtD t else (0 : Int)) (2 : Nat)).size + (1 : Nat) ≤
  (9223372036854775807 : Nat)) then ((((0 : Int) ≤ if inB t = true then dtH t else (0 : Int)) ∧ (if inB t = true then dtH t else (0 : Int)) ≤ (9999 : Int)) ∧ (0 : Int) ≤ (2 : Int) ∧
  (2 : Int) ≤ (8 : Int)) ∧ bif decide ((dgS (if inB t = true then dtY t else (0 : Int)) (4 : Nat) ++ { data := #[(45 : UInt8)] } ++ dgS (if inB t = true then dtM t else (0 : Int)) (2
  : Nat) ++ { data := #[(45 : UInt8)] } ++ dgS (if inB t = true then dtD t else (0 : Int)) (2 : Nat) ++ { data := #[(32 : UInt8)] }).size + (dgS (if inB t = true then dtH t else (0 :
  Int)) (2 : Nat)).size ≤ (9223372036854775807 : Nat)) then bif decide ((dgS (if inB t = true then dtY t else (0 : Int)) (4 : Nat) ++ { data := #[(45 : UInt8)] } ++ dgS (if inB t =
  true then dtM t else (0 : Int)) (2 : Nat) ++ { data := #[(45 : UInt8)] } ++ dgS (if inB t = true then dtD t else (0 : Int)) (2 : Nat) ++ { data := #[(32 : UInt8)] } ++ dgS (if inB
  t = true then dtH t else (0 : Int)) (2 : Nat)).size + (1 : Nat) ≤ (9223372036854775807 : Nat)) then ((((0 : Int) ≤ if inB t = true then dtI t else (0 : Int)) ∧ (if inB t = true
  then dtI t else (0 : Int)) ≤ (9999 : Int)) ∧ (0 : Int) ≤ (2 : Int) ∧ (2 : Int) ≤ (8 : Int)) ∧ bif decide ((dgS (if inB t = true then dtY t else (0 : Int)) (4 : Nat) ++ { data :=
  #[(45 : UInt8)] } ++ dgS (if inB t = true then dtM t else (0 : Int)) (2 : Nat) ++ { data := #[(45 : UInt8)] } ++ dgS (if inB t = true then dtD t else (0 : Int)) (2 : Nat) ++ { data
  := #[(32 : UInt8)] } ++ dgS (if inB t = true then dtH t else (0 : Int)) (2 : Nat) ++ { data := #[(58 : UInt8)] }).size + (dgS (if inB t = true then dtI t else (0 : Int)) (2 :
  Nat)).size ≤ (9223372036854775807 : Nat)) then dgS (if inB t = true then dtY t else (0 : Int)) (4 : Nat) ++ { data := #[(45 : UInt8)] } ++ dgS (if inB t = true then dtM t else (0 :
  Int)) (2 : Nat) ++ { data := #[(45 : UInt8)] } ++ dgS (if inB t = true then dtD t else (0 : Int)) (2 : Nat) ++ { data := #[(32 : UInt8)] } ++ dgS (if inB t = true then dtH t else
  (0 : Int)) (2 : Nat) ++ { data := #[(58 : UInt8)] } ++ dgS (if inB t = true then dtI t else (0 : Int)) (2 : Nat) = fmtC t ∧ ((0 : Int) = if inB t = true then (0 : Int) else (1 :
  Int)) ∧ True else False else False else False else False else False else False else False else False
set_option maxRecDepth 100000 in
theorem rFormat_P : rFormat_T inB fmtC dtY dtM dtD dtH dtI dtR dgS := by
  unfold rFormat_T
  intro gl t _
  refine ⟨trivial, ?_⟩
  unfold fmtC
  cases hb : inB t with
  | false => exact csplit (fun _ => ⟨rfl, rfl, trivial⟩) (fun q => absurd (show ¬ (if false = true then (0 : Int) else 1) = 0 by decide) (of_decide_eq_false q))
  | true =>
    have ht : 0 ≤ t ∧ t ≤ 52595999 := by simpa [inB] using hb
    obtain ⟨⟨y1, y2⟩, ⟨m1, m2⟩, ⟨d1, d2⟩, ⟨h1, h2⟩, ⟨i1, i2⟩⟩ := (date_ok ht).vld
    have hl := len12_bd (dtY t) (k := (dtM t - 1).toNat) (by omega)
    refine csplit (fun q => absurd rfl (of_decide_eq_true q)) (fun _ => ?_)
    simp only [if_true]
    have e := fmt_eq (dtY t) (dtM t) (dtD t) (dtH t) (dtI t)
    generalize dtY t = Y at *
    generalize dtM t = M at *
    generalize dtD t = D at *
    generalize dtH t = H at *
    generalize dtI t = I at *
    have k1 : (⟨#[45]⟩ : ByteArray).size = 1 := rfl
    have k2 : (⟨#[32]⟩ : ByteArray).size = 1 := rfl
    have k3 : (⟨#[58]⟩ : ByteArray).size = 1 := rfl
    refine ⟨by omega, cd1 ?_ ⟨by omega, cd1 ?_ (cd1 ?_ ⟨by omega, cd1 ?_ (cd1 ?_ ⟨by omega, cd1 ?_ (cd1 ?_ ⟨by omega, cd1 ?_ ⟨e, trivial, trivial⟩⟩)⟩)⟩)⟩⟩
    all_goals
      simp only [ByteArray.size_append, dgS_size, k1, k2, k3]
      omega
def rFormat_S (inB : Int → Bool) (fmtC : Int → ByteArray) (dtY : Int → Int) (dtM : Int → Int) (dtD : Int → Int) (dtH : Int → Int) (dtI : Int → Int) (dtR : Int → Int) (dgS : Int → Nat → ByteArray) : Prop := ∀ (gl : Glob) (t : Int), fnK Try.prog { glob := gl, spec := lk [(20, (rDate_s inB dtY dtM dtD dtH dtI dtR)), (42, (rDigits_s dgS))], specH := lk [], nowf := true } { nt := 37, drop := drp [(1, 1984), (2, 2048), (3, 8192), (4, 137438937088)] } (fun _ _ => none) 6 Try.f29 [.int .i64 t] (.tup [.str (fmtC t), .int .i64 (if inB t then 0 else 1)])
set_option maxRecDepth 100000 in
theorem rFormat_e (inB : Int → Bool) (fmtC : Int → ByteArray) (dtY : Int → Int) (dtM : Int → Int) (dtD : Int → Int) (dtH : Int → Int) (dtI : Int → Int) (dtR : Int → Int) (dgS : Int → Nat → ByteArray) : rFormat_T inB fmtC dtY dtM dtD dtH dtI dtR dgS = rFormat_S inB fmtC dtY dtM dtD dtH dtI dtR dgS := by kernel_rfl
theorem rFormat_v : rFormat_S inB fmtC dtY dtM dtD dtH dtI dtR dgS := @Eq.mp (rFormat_T inB fmtC dtY dtM dtD dtH dtI dtR dgS) (rFormat_S inB fmtC dtY dtM dtD dtH dtI dtR dgS) (rFormat_e inB fmtC dtY dtM dtD dtH dtI dtR dgS) rFormat_P
theorem rFormat_ok (gl : Glob) : SOK Try.prog gl 29 (rFormat_s inB fmtC) := by
  refine ⟨fok Try.func29 (by kernel_rfl) (by kernel_rfl), ?_⟩
  intro xs pre r h hp
  unfold rFormat_s at h
  split at h
  · simp only [Option.some.injEq, Prod.mk.injEq] at h
    obtain ⟨h1, h2⟩ := h
    subst h1 h2
    exact fnK_sound tyNil (by exact specOK rfl rfl ⟨rDate_ok gl, rDigits_ok gl, trivial⟩ trivial) (by kernel_rfl) Try.func29 rfl (rFormat_v gl _)
  · cases h
def rNumber_s (rnV : ByteArray → Int) : Sp
  | [.str s] => some (NumS s, .int .i64 (rnV s))
  | _ => none
set_option maxRecDepth 100000 in
def rNumber_T (rnV : ByteArray → Int) : Prop :=
  ∀ (gl : Glob) (s : ByteArray), NumS s → s.size.le (9223372036854775807 : Nat) → (∃ x, RnP s x ∧ (s = s ∧ (0 : Int) = x.snd ∧ (0 : Int) = x.fst ∧ True) ∧ True) ∧ ∀ (x : Int × Int),
  RnP s x → bif decide (x.fst < (↑s.size : Int)) then bif decide ((0 : Int) ≤ x.fst ∧ x.fst < (↑s.size : Int)) then bif decide (byteI s x.fst.toNat < (48 : Int)) then (-1 : Int) =
  rnV s else bif decide ((0 : Int) ≤ x.fst ∧ x.fst < (↑s.size : Int)) then bif decide ((57 : Int) < byteI s x.fst.toNat) then (-1 : Int) = rnV s else bif decide (rng IntKind.i64
  (x.snd * (10 : Int))) then bif decide ((0 : Int) ≤ x.fst ∧ x.fst < (↑s.size : Int)) then bif decide (rng IntKind.i64 (x.snd * (10 : Int) + IntKind.u8.wrap (byteI s x.fst.toNat -
  (48 : Int)))) then bif decide (rng IntKind.i64 (x.fst + (1 : Int))) then ∃ y, RnP s y ∧ (rnI s).m y < (rnI s).m x ∧ (s = s ∧ x.snd * (10 : Int) + IntKind.u8.wrap (byteI s
  x.fst.toNat - (48 : Int)) = y.snd ∧ x.fst + (1 : Int) = y.fst ∧ True) ∧ True else False else False else False else False else False else False else x.snd = rnV s
set_option maxRecDepth 100000 in
theorem rNumber_P : rNumber_T rnV := by
  unfold rNumber_T
  intro gl s ⟨hs⟩ _
  refine ⟨⟨(0, 0), ⟨by decide, by simp, rfl, rfl⟩, ⟨rfl, rfl, rfl, trivial⟩, trivial⟩, ?_⟩
  rintro ⟨i, v⟩ ⟨h1, h2, h3, h4⟩
  simp only at h1 h2 h3 h4
  have hb := numR_bd s i.toNat
  have hp := p10 (k := i.toNat) (by omega)
  refine csplit (fun hlt => ?_) (fun hlt => ?_)
  · have hlt : i < (s.size : Int) := of_decide_eq_true hlt
    have hw := wrap8 (byteI s i.toNat - 48)
    have hk : i.toNat < s.size := by omega
    refine cd1 ⟨h1, hlt⟩ (csplit (fun q => rn_bad hk ?_) (fun q => cd1 ⟨h1, hlt⟩ (csplit (fun r => rn_bad hk ?_) (fun r => cdI (by simp only; omega) (cd1 ⟨h1, hlt⟩ (cdI (by simp only; omega) (cdI (by simp only; omega) ⟨(i + 1, v * 10 + IntKind.u8.wrap (byteI s i.toNat - 48)), ⟨by simp only; omega, by simp only; omega, ?_, ?_⟩, by simp only [rnI]; omega, ⟨rfl, rfl, rfl, trivial⟩, trivial⟩)))))))
    · have q : byteI s i.toNat < 48 := of_decide_eq_true q
      unfold isD; rw [decide_eq_false (by omega : ¬ 48 ≤ byteI s i.toNat)]; rfl
    · have r : 57 < byteI s i.toNat := of_decide_eq_true r
      unfold isD; rw [decide_eq_false (by omega : ¬ byteI s i.toNat ≤ 57), Bool.and_false]
    · simp only
      rw [show (i + 1).toNat = i.toNat + 1 by omega, h3]; simp only [numR]; omega
    · have q : ¬ byteI s i.toNat < 48 := of_decide_eq_false q
      have r : ¬ 57 < byteI s i.toNat := of_decide_eq_false r
      simp only
      rw [show (i + 1).toNat = i.toNat + 1 by omega]
      simp only [allD, h4]
      unfold isD; rw [decide_eq_true (by omega), decide_eq_true (by omega)]; rfl
  · have hlt : ¬ i < (s.size : Int) := of_decide_eq_false hlt
    show v = rnV s
    have e : i.toNat = s.size := by omega
    unfold rnV numV
    rw [← e, if_pos h4, h3]
def rNumber_S (rnV : ByteArray → Int) : Prop := ∀ (gl : Glob) (s : ByteArray), NumS s → fnK Try.prog { glob := gl, spec := lk [], specH := lk [], nowf := true } { nt := 30, drop := drp [(3, 224), (4, 1536), (5, 1046528), (7, 534773760), (8, 536870912)] } (invs [(3, rnI s)]) 6 Try.f43 [.str s] (.int .i64 (rnV s))
set_option maxRecDepth 100000 in
theorem rNumber_e (rnV : ByteArray → Int) : rNumber_T rnV = rNumber_S rnV := by kernel_rfl
theorem rNumber_v : rNumber_S rnV := @Eq.mp (rNumber_T rnV) (rNumber_S rnV) (rNumber_e rnV) rNumber_P
theorem rNumber_ok (gl : Glob) : SOK Try.prog gl 43 (rNumber_s rnV) := by
  refine ⟨fok Try.func43 (by kernel_rfl) (by kernel_rfl), ?_⟩
  intro xs pre r h hp
  unfold rNumber_s at h
  split at h
  · simp only [Option.some.injEq, Prod.mk.injEq] at h
    obtain ⟨h1, h2⟩ := h
    subst h1 h2
    exact fnK_sound tyNil (by exact specOK rfl rfl trivial trivial) (by kernel_rfl) Try.func43 rfl (rNumber_v gl _ hp)
  · cases h
theorem ok_d {s : ByteArray} {k : Nat} (hp : byteI patC k = 48) : okAt s k = isD (byteI s k) := by
  unfold okAt; rw [hp]
  cases isD (byteI s k) <;> simp
theorem ok_s {s : ByteArray} {k : Nat} (hp : byteI s k = byteI patC k) (h : byteI s k < 48 ∨ 57 < byteI s k) : okAt s k = true := ok_sep hp h
theorem ok_x {s : ByteArray} {k : Nat} {c : Int} (hp : byteI patC k = c) (hc : c < 48 ∨ 57 < c) (h : ¬ byteI s k = c) : okAt s k = false := by
  unfold okAt
  rw [hp, decide_eq_false (by omega : ¬ c = 48), decide_eq_false h]
  cases isD (byteI s k) <;> rfl
theorem rn_of {s : ByteArray} {a b : Nat} (hb : b ≤ s.size) : rnV (s.extract a b) = if allD (s.extract a b) (b - a) then sub s a b else -1 := by
  have hz : (s.extract a b).size = b - a := by rw [ByteArray.size_extract]; omega
  unfold rnV sub; rw [hz]
theorem rprs {s : ByteArray} (hz : s.size = 16) (b4 : byteI s 4 = 45) (b7 : byteI s 7 = 45) (b10 : byteI s 10 = 32) (b13 : byteI s 13 = 58) :
    vldB (rnV (s.extract 0 4)) (rnV (s.extract 5 7)) (rnV (s.extract 8 10)) (rnV (s.extract 11 13)) (rnV (s.extract 14 16)) = prsV s ∧
      (prsV s = true → mns (rnV (s.extract 0 4)) (rnV (s.extract 5 7)) (rnV (s.extract 8 10)) (rnV (s.extract 11 13)) (rnV (s.extract 14 16)) = prsM s) := by
  have e : ∀ a b k, b ≤ 16 → k < b - a → byteI (s.extract a b) k = byteI s (a + k) := fun a b k hb hk => byteI_extract hk (by omega)
  have hok : okTo s 16 = (allD (s.extract 0 4) 4 && (allD (s.extract 5 7) 2 && (allD (s.extract 8 10) 2 && (allD (s.extract 11 13) 2 && allD (s.extract 14 16) 2)))) := by
    simp only [okTo, allD, Bool.true_and]
    rw [ok_d (k := 0) (by decide), ok_d (k := 1) (by decide), ok_d (k := 2) (by decide), ok_d (k := 3) (by decide), ok_s (k := 4) b4 (by omega), ok_d (k := 5) (by decide), ok_d (k := 6) (by decide), ok_s (k := 7) b7 (by omega),
      ok_d (k := 8) (by decide), ok_d (k := 9) (by decide), ok_s (k := 10) b10 (by omega), ok_d (k := 11) (by decide), ok_d (k := 12) (by decide), ok_s (k := 13) b13 (by omega), ok_d (k := 14) (by decide), ok_d (k := 15) (by decide)]
    rw [e 0 4 0 (by decide) (by decide), e 0 4 1 (by decide) (by decide), e 0 4 2 (by decide) (by decide), e 0 4 3 (by decide) (by decide), e 5 7 0 (by decide) (by decide), e 5 7 1 (by decide) (by decide), e 8 10 0 (by decide) (by decide), e 8 10 1 (by decide) (by decide),
      e 11 13 0 (by decide) (by decide), e 11 13 1 (by decide) (by decide), e 14 16 0 (by decide) (by decide), e 14 16 1 (by decide) (by decide)]
    simp only [Bool.and_true, Bool.and_assoc, Nat.zero_add, Nat.add_zero, Nat.reduceAdd]
  have r1 := rn_of (s := s) (a := 0) (b := 4) (by omega)
  have r2 := rn_of (s := s) (a := 5) (b := 7) (by omega)
  have r3 := rn_of (s := s) (a := 8) (b := 10) (by omega)
  have r4 := rn_of (s := s) (a := 11) (b := 13) (by omega)
  have r5 := rn_of (s := s) (a := 14) (b := 16) (by omega)
  have hv : prsV s = (okTo s 16 && vldB (sub s 0 4) (sub s 5 7) (sub s 8 10) (sub s 11 13) (sub s 14 16)) := by
    unfold prsV; rw [decide_eq_true hz]; rfl
  have no : ∀ y m d h i : Int, (y = -1 ∨ m = -1 ∨ d = -1 ∨ h = -1 ∨ i = -1) → vldB y m d h i = false := by
    intro y m d h i q
    cases z : vldB y m d h i with
    | false => rfl
    | true =>
      obtain ⟨⟨y1, y2⟩, ⟨m1, m2⟩, ⟨d1, d2⟩, ⟨h1, h2⟩, ⟨i1, i2⟩⟩ := (vldB_iff _ _ _ _ _).1 z
      omega
  rw [show (4 - 0 : Nat) = 4 from rfl] at r1
  rw [show (7 - 5 : Nat) = 2 from rfl] at r2
  rw [show (10 - 8 : Nat) = 2 from rfl] at r3
  rw [show (13 - 11 : Nat) = 2 from rfl] at r4
  rw [show (16 - 14 : Nat) = 2 from rfl] at r5
  rw [hok] at hv
  generalize rnV (s.extract 0 4) = R1 at *
  generalize rnV (s.extract 5 7) = R2 at *
  generalize rnV (s.extract 8 10) = R3 at *
  generalize rnV (s.extract 11 13) = R4 at *
  generalize rnV (s.extract 14 16) = R5 at *
  generalize allD (s.extract 0 4) 4 = A1 at *
  generalize allD (s.extract 5 7) 2 = A2 at *
  generalize allD (s.extract 8 10) 2 = A3 at *
  generalize allD (s.extract 11 13) 2 = A4 at *
  generalize allD (s.extract 14 16) 2 = A5 at *
  by_cases q : A1 = true ∧ A2 = true ∧ A3 = true ∧ A4 = true ∧ A5 = true
  · obtain ⟨rfl, rfl, rfl, rfl, rfl⟩ := q
    rw [if_pos rfl] at r1 r2 r3 r4 r5
    subst r1 r2 r3 r4 r5
    refine ⟨by rw [hv]; rfl, fun z => ?_⟩
    unfold prsM; rw [if_pos z]
  · have f : prsV s = false := by
      rw [hv]
      cases A1 <;> cases A2 <;> cases A3 <;> cases A4 <;> cases A5 <;> simp_all
    have g : R1 = -1 ∨ R2 = -1 ∨ R3 = -1 ∨ R4 = -1 ∨ R5 = -1 := by
      cases A1 with
      | false => exact Or.inl r1
      | true => cases A2 with
        | false => exact Or.inr (Or.inl r2)
        | true => cases A3 with
          | false => exact Or.inr (Or.inr (Or.inl r3))
          | true => cases A4 with
            | false => exact Or.inr (Or.inr (Or.inr (Or.inl r4)))
            | true => cases A5 with
              | false => exact Or.inr (Or.inr (Or.inr (Or.inr r5)))
              | true => exact absurd ⟨rfl, rfl, rfl, rfl, rfl⟩ q
    exact ⟨by rw [f]; exact no _ _ _ _ _ g, fun z => by rw [f] at z; cases z⟩
def rParse_s (prsM : ByteArray → Int) (prsV : ByteArray → Bool) : Sp
  | [.str s] => some (True, .tup [.int .i64 (prsM s), .int .i64 (if prsV s then 0 else 3)])
  | _ => none
set_option maxRecDepth 100000 in
def rParse_T (prsM : ByteArray → Int) (prsV : ByteArray → Bool) (rnV : ByteArray → Int) (vldB : Int → Int → Int → Int → Int → Bool) (mns : Int → Int → Int → Int → Int → Int) : Prop :=
  ∀ (gl : Glob) (s : ByteArray), s.size.le (9223372036854775807 : Nat) → bif decide ¬(↑s.size : Int) = (16 : Int) then (0 : Int) = prsM s ∧ ((3 : Int) = if prsV s = true then (0 :
  Int) else (3 : Int)) ∧ True else bif decide ((0 : Int) ≤ (4 : Int) ∧ (4 : Int) < (↑s.size : Int)) then bif decide ¬byteI s (4 : Nat) = (45 : Int) then (0 : Int) = prsM s ∧ ((3 :
  Int) = if prsV s = true then (0 : Int) else (3 : Int)) ∧ True else bif decide ((0 : Int) ≤ (7 : Int) ∧ (7 : Int) < (↑s.size : Int)) then bif decide ¬byteI s (7 : Nat) = (45 : Int)
  then (0 : Int) = prsM s ∧ ((3 : Int) = if prsV s = true then (0 : Int) else (3 : Int)) ∧ True else bif decide ((0 : Int) ≤ (10 : Int) ∧ (10 : Int) < (↑s.size : Int)) then bif
  decide ¬byteI s (10 : Nat) = (32 : Int) then (0 : Int) = prsM s ∧ ((3 : Int) = if prsV s = true then (0 : Int) else (3 : Int)) ∧ True else bif decide ((0 : Int) ≤ (13 : Int) ∧ (13
  : Int) < (↑s.size : Int)) then bif decide ¬byteI s (13 : Nat) = (58 : Int) then (0 : Int) = prsM s ∧ ((3 : Int) = if prsV s = true then (0 : Int) else (3 : Int)) ∧ True else bif
  decide ((0 : Int) ≤ (4 : Int) ∧ (4 : Int) ≤ (↑s.size : Int)) then NumS (s.extract (0 : Nat) (4 : Nat)) ∧ bif decide ((0 : Int) ≤ (7 : Int) ∧ (7 : Int) ≤ (↑s.size : Int)) then NumS
  (s.extract (5 : Nat) (7 : Nat)) ∧ bif decide ((0 : Int) ≤ (10 : Int) ∧ (10 : Int) ≤ (↑s.size : Int)) then NumS (s.extract (8 : Nat) (10 : Nat)) ∧ bif decide ((0 : Int) ≤ (13 : Int)
  ∧ (13 : Int) ≤ (↑s.size : Int)) then NumS (s.extract (11 : Nat) (13 : Nat)) ∧ bif decide ((0 : Int) ≤ (↑s.size : Int) ∧ (↑s.size : Int) ≤ (↑s.size : Int)) then bif decide ((0 :
  Int) ≤ (14 : Int) ∧ (14 : Int) ≤ (↑s.size : Int)) then NumS (s.extract (14 : Nat) (↑s.size : Int).toNat) ∧ True ∧ bif decide ¬(if vldB (rnV (s.extract (0 : Nat) (4 : Nat))) (rnV
  (s.extract (5 : Nat) (7 : Nat))) (rnV (s.extract (8 : Nat) (10 : Nat))) (rnV (s.extract (11 : Nat) (13 : Nat))) (rnV (s.extract (14 : Nat) (↑s.size : Int).toNat)) = true then (0 :
  Int) else (1 : Int)) = (0 : Int) then (0 : Int) = prsM s ∧ ((3 : Int) = if prsV s = true then (0 : Int) else (3 : Int)) ∧ True else (if vldB (rnV (s.extract (0 : Nat) (4 : Nat)))
  (rnV (s.extract (5 : Nat) (7 : Nat))) (rnV (s.extract (8 : Nat) (10 : Nat))) (rnV (s.extract (11 : Nat) (13 : Nat))) (rnV (s.extract (14 : Nat) (↑s.size : Int).toNat)) = true then
  mns (rnV (s.extract (0 : Nat) (4 : Nat))) (rnV (s.extract (5 : Nat) (7 : Nat))) (rnV (s.extract (8 : Nat) (10 : Nat))) (rnV (s.extract (11 : Nat) (13 : Nat))) (rnV (s.extract (14 :
  Nat) (↑s.size : Int).toNat)) else (0 : Int)) = prsM s ∧ ((0 : Int) = if prsV s = true then (0 : Int) else (3 : Int)) ∧ True else False else False else False else False else False
  else False else False else False else False else False
set_option maxRecDepth 100000 in
theorem rParse_P : rParse_T prsM prsV rnV vldB mns := by
  unfold rParse_T
  intro gl s hs
  refine csplit (fun h => ?_) (fun h => ?_)
  · have h := of_decide_eq_true h
    have hn : ¬ s.size = 16 := by omega
    have : prsV s = false := by unfold prsV; rw [decide_eq_false hn]; rfl
    unfold prsM; rw [this]; exact ⟨rfl, rfl, trivial⟩
  have h := Decidable.not_not.1 (of_decide_eq_false h)
  have hz : s.size = 16 := by omega
  refine cd1 (by omega) (csplit (fun c => prs_bad (k := 4) (by decide) (ok_x (c := 45) (by decide) (by decide) (of_decide_eq_true c))) (fun b4 => cd1 (by omega) (csplit (fun c => prs_bad (k := 7) (by decide) (ok_x (c := 45) (by decide) (by decide) (of_decide_eq_true c))) (fun b7 =>
    cd1 (by omega) (csplit (fun c => prs_bad (k := 10) (by decide) (ok_x (c := 32) (by decide) (by decide) (of_decide_eq_true c))) (fun b10 => cd1 (by omega) (csplit (fun c => prs_bad (k := 13) (by decide) (ok_x (c := 58) (by decide) (by decide) (of_decide_eq_true c))) (fun b13 => ?_))))))))
  have b4 := Decidable.not_not.1 (of_decide_eq_false b4)
  have b7 := Decidable.not_not.1 (of_decide_eq_false b7)
  have b10 := Decidable.not_not.1 (of_decide_eq_false b10)
  have b13 := Decidable.not_not.1 (of_decide_eq_false b13)
  have hT : (s.size : Int).toNat = 16 := by omega
  rw [hT]
  obtain ⟨g1, g2⟩ := rprs hz b4 b7 b10 b13
  refine cd1 (by omega) ⟨numS_of (by decide), cd1 (by omega) ⟨numS_of (by decide), cd1 (by omega) ⟨numS_of (by decide), cd1 (by omega) ⟨numS_of (by decide), cd1 (by omega) (cd1 (by omega) ⟨numS_of (by decide), trivial, ?_⟩)⟩⟩⟩⟩
  rw [g1]
  cases hv : prsV s with
  | false =>
    have e0 : prsM s = 0 := by unfold prsM; rw [hv]; rfl
    exact csplit (fun _ => ⟨e0.symm, rfl, trivial⟩) (fun q => absurd (show ¬ (if false = true then (0 : Int) else 1) = 0 by decide) (of_decide_eq_false q))
  | true => exact csplit (fun q => absurd rfl (of_decide_eq_true q)) (fun _ => ⟨g2 hv, rfl, trivial⟩)
def rParse_S (prsM : ByteArray → Int) (prsV : ByteArray → Bool) (rnV : ByteArray → Int) (vldB : Int → Int → Int → Int → Int → Bool) (mns : Int → Int → Int → Int → Int → Int) : Prop := ∀ (gl : Glob) (s : ByteArray), fnK Try.prog { glob := gl, spec := lk [(43, (rNumber_s rnV)), (13, (rMinutes_s vldB mns))], specH := lk [], nowf := true } { nt := 52, drop := drp [(1, 268435392), (3, 562949416550400), (4, 562949953421312), (6, 2251799813685248)] } (fun _ _ => none) 6 Try.f30 [.str s] (.tup [.int .i64 (prsM s), .int .i64 (if prsV s then 0 else 3)])
set_option maxRecDepth 100000 in
theorem rParse_e (prsM : ByteArray → Int) (prsV : ByteArray → Bool) (rnV : ByteArray → Int) (vldB : Int → Int → Int → Int → Int → Bool) (mns : Int → Int → Int → Int → Int → Int) : rParse_T prsM prsV rnV vldB mns = rParse_S prsM prsV rnV vldB mns := by kernel_rfl
theorem rParse_v : rParse_S prsM prsV rnV vldB mns := @Eq.mp (rParse_T prsM prsV rnV vldB mns) (rParse_S prsM prsV rnV vldB mns) (rParse_e prsM prsV rnV vldB mns) rParse_P
theorem rParse_ok (gl : Glob) : SOK Try.prog gl 30 (rParse_s prsM prsV) := by
  refine ⟨fok Try.func30 (by kernel_rfl) (by kernel_rfl), ?_⟩
  intro xs pre r h hp
  unfold rParse_s at h
  split at h
  · simp only [Option.some.injEq, Prod.mk.injEq] at h
    obtain ⟨h1, h2⟩ := h
    subst h1 h2
    exact fnK_sound tyNil (by exact specOK rfl rfl ⟨rNumber_ok gl, rMinutes_ok gl, trivial⟩ trivial) (by kernel_rfl) Try.func30 rfl (rParse_v gl _)
  · cases h
end Go.Proofs.Ytakmploakbaglaa
