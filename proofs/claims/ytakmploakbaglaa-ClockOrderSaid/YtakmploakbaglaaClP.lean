/- The clock: the law of going back. -/
import Derived.Test.YtakmploakbaglaaClN
import Derived.Test.YtakmploakbaglaaClQ
namespace Go.Proofs.Ytakmploakbaglaa
open Go
set_option linter.unusedVariables false
set_option linter.unusedSimpArgs false

def b1I (t : Int) : Int := if dtI t + 1 = 60 then 0 else dtI t + 1
def b1H (t : Int) : Int := if dtI t + 1 = 60 then dtH t + 1 else dtH t
def b2H (t : Int) : Int := if b1H t = 24 then 0 else b1H t
def b2D (t : Int) : Int := if b1H t = 24 then dtD t + 1 else dtD t
def b3D (t : Int) : Int := if dim (dtY t) (dtM t) < b2D t then 1 else b2D t
def b3M (t : Int) : Int := if dim (dtY t) (dtM t) < b2D t then dtM t + 1 else dtM t
def b4M (t : Int) : Int := if b3M t = 13 then 1 else b3M t
def b4Y (t : Int) : Int := if b3M t = 13 then dtY t + 1 else dtY t
def bkI (a b : Int × Int × Int × Int × Int) : LInv := ⟨Unit, fun _ => ⟨[(2, .bool false), (5, .ptr 5 0), (13, .ptr 13 0)],
  [(5, .cells [.int .i64 a.1, .int .i64 a.2.1, .int .i64 a.2.2.1, .int .i64 a.2.2.2.1, .int .i64 a.2.2.2.2]), (13, .cells [.int .i64 b.1, .int .i64 b.2.1, .int .i64 b.2.2.1, .int .i64 b.2.2.2.1, .int .i64 b.2.2.2.2])]⟩, OneP, fun _ => 0, none⟩
def bkN (dtY dtM dtD dtH dtI : Int → Int) (t : Int) : Int × Int × Int × Int × Int := (dtY (t + 1), dtM (t + 1), dtD (t + 1), dtH (t + 1), dtI (t + 1))
/-- The next date. -/
theorem back_next {t : Int} (h : 0 ≤ t ∧ t < 52595999) : (b4Y t = dtY (t + 1) ∧ b4M t = dtM (t + 1) ∧ b3D t = dtD (t + 1) ∧ b2H t = dtH (t + 1) ∧ b1I t = dtI (t + 1)) := by
  obtain ⟨v, e⟩ := date_ok (t := t) (by omega)
  have hd := dim_in (y := dtY t) (m := dtM t) ⟨v.yr.1, v.yr.2, v.mo⟩
  have hl := len12_bd (dtY t) (k := (dtM t - 1).toNat) (by have := v.mo; omega)
  have hv : VldC (b4Y t) (b4M t) (b3D t) (b2H t) (b1I t) ∧ mns (b4Y t) (b4M t) (b3D t) (b2H t) (b1I t) = t + 1 := by
    obtain ⟨⟨y1, y2⟩, ⟨m1, m2⟩, ⟨d1, d2⟩, ⟨h1, h2⟩, ⟨i1, i2⟩⟩ := v
    have hc : cum (dtY t) ((dtM t - 1).toNat + 1) = cum (dtY t) (dtM t - 1).toNat + (len12 (dtY t)).getD (dtM t - 1).toNat 0 := rfl
    unfold b4Y b4M b3M b3D b2D b2H b1H b1I
    rw [hd]
    unfold mns at e
    by_cases c1 : dtI t + 1 = 60
    · simp only [if_pos c1]
      by_cases c2 : dtH t + 1 = 24
      · simp only [if_pos c2]
        by_cases c3 : (len12 (dtY t)).getD (dtM t - 1).toNat 0 < dtD t + 1
        · simp only [if_pos c3]
          by_cases c4 : dtM t + 1 = 13
          · simp only [if_pos c4]
            have e3 : (dtM t - 1).toNat = 11 := by omega
            rw [e3] at e hc c3 d2
            have c12 : cum (dtY t) 12 = 365 + lp (dtY t) := cum12 (dtY t)
            change cum (dtY t) 12 = _ at hc
            have c0 : cum (dtY t + 1) 0 = 0 := rfl
            have e5 : fst' (dtY t + 1) = fst' (dtY t) + 1440 * (365 + lp (dtY t)) := fst_step y1
            have hy : dtY t + 1 ≤ 2099 := by
              rcases Int.lt_or_le 2099 (dtY t + 1) with q | q
              · have : dtY t + 1 = 2100 := by omega
                rw [this, fst_2100] at e5; omega
              · exact q
            refine ⟨⟨⟨by omega, hy⟩, by decide, ⟨by decide, Int.le_trans (by decide) (len12_bd _ (k := 0) (by decide)).1⟩, by decide, by decide⟩, ?_⟩
            unfold mns
            have e6 : ((1 : Int) - 1).toNat = 0 := rfl
            rw [e6, c0, e5]; omega
          · simp only [if_neg c4]
            have e3 : (dtM t + 1 - 1).toNat = (dtM t - 1).toNat + 1 := by omega
            refine ⟨⟨⟨y1, y2⟩, ⟨by omega, by omega⟩, ⟨by decide, Int.le_trans (by decide) (len12_bd _ (k := (dtM t + 1 - 1).toNat) (by omega)).1⟩, by decide, by decide⟩, ?_⟩
            unfold mns
            rw [e3, hc]; omega
        · simp only [if_neg c3]
          rw [if_neg (by omega), if_neg (by omega)]
          refine ⟨⟨⟨y1, y2⟩, ⟨m1, m2⟩, ⟨by omega, by omega⟩, by decide, by decide⟩, ?_⟩
          unfold mns; omega
      · simp only [if_neg c2]
        have c3 : ¬ (len12 (dtY t)).getD (dtM t - 1).toNat 0 < dtD t := by omega
        simp only [if_neg c3]
        rw [if_neg (by omega), if_neg (by omega)]
        refine ⟨⟨⟨y1, y2⟩, ⟨m1, m2⟩, ⟨d1, d2⟩, ⟨by omega, by omega⟩, by decide⟩, ?_⟩
        unfold mns; omega
    · simp only [if_neg c1]
      have c2 : ¬ dtH t = 24 := by omega
      simp only [if_neg c2]
      have c3 : ¬ (len12 (dtY t)).getD (dtM t - 1).toNat 0 < dtD t := by omega
      simp only [if_neg c3]
      rw [if_neg (by omega), if_neg (by omega)]
      refine ⟨⟨⟨y1, y2⟩, ⟨m1, m2⟩, ⟨d1, d2⟩, ⟨h1, h2⟩, by omega, by omega⟩, ?_⟩
      unfold mns; omega
  exact (date_uniq ⟨hv.1, hv.2⟩).2
def lBack_s (b1I : Int → Int) (b1H : Int → Int) (b2H : Int → Int) (b2D : Int → Int) (b3D : Int → Int) (b3M : Int → Int) (b4M : Int → Int) (b4Y : Int → Int) (inB : Int → Bool) (dtY : Int → Int) (dtM : Int → Int) (dtD : Int → Int) (dtH : Int → Int) (dtI : Int → Int) (fmtC : Int → ByteArray) (mnV : List (List AV) → Int → Int) (mnA : List (List AV) → Int → Int) (prsM : ByteArray → Int) (prsV : ByteArray → Bool) (dim : Int → Int → Int) (vldB : Int → Int → Int → Int → Int → Bool) (mns : Int → Int → Int → Int → Int → Int) : Sp
  | [.sl 1 false zs] => some (IntsA zs, .bool true)
  | _ => none
set_option maxRecDepth 100000 in
def lBack_T (b1I : Int → Int) (b1H : Int → Int) (b2H : Int → Int) (b2D : Int → Int) (b3D : Int → Int) (b3M : Int → Int) (b4M : Int → Int) (b4Y : Int → Int) (inB : Int → Bool) (dtY : Int → Int) (dtM : Int → Int) (dtD : Int → Int) (dtH : Int → Int) (dtI : Int → Int) (fmtC : Int → ByteArray) (mnV : List (List AV) → Int → Int) (mnA : List (List AV) → Int → Int) (prsM : ByteArray → Int) (prsV : ByteArray → Bool) (dim : Int → Int → Int) (vldB : Int → Int → Int → Int → Int → Bool) (mns : Int → Int → Int → Int → Int → Int) (dtR : Int → Int) (cumI : Int → Int → Int) (rsV : Int → Int → Int → Int → Int) (rsOk : Int → Int → Int → Int → Bool) : Prop :=
  ∀ (gl : Glob) (zs : List (List AV)), (∀ (x : List AV), List.Mem x zs → ∃ n, x = [AV.int IntKind.i64 n] ∧ rng IntKind.i64 n) → True → True ∧ (SrcI (List.take (2000 : Nat) zs) ∧ (0 :
  Int) ≤ (0 : Int)) ∧ True ∧ True ∧ True ∧ True ∧ bif decide ¬(if inB (mnV (List.take (2000 : Nat) zs) (0 : Int)) = true then (0 : Int) else (1 : Int)) = (0 : Int) then false = true
  else bif decide ¬(if vldB (if inB (mnV (List.take (2000 : Nat) zs) (0 : Int)) = true then dtY (mnV (List.take (2000 : Nat) zs) (0 : Int)) else (0 : Int)) (if inB (mnV (List.take
  (2000 : Nat) zs) (0 : Int)) = true then dtM (mnV (List.take (2000 : Nat) zs) (0 : Int)) else (0 : Int)) (if inB (mnV (List.take (2000 : Nat) zs) (0 : Int)) = true then dtD (mnV
  (List.take (2000 : Nat) zs) (0 : Int)) else (0 : Int)) (if inB (mnV (List.take (2000 : Nat) zs) (0 : Int)) = true then dtH (mnV (List.take (2000 : Nat) zs) (0 : Int)) else (0 :
  Int)) (if inB (mnV (List.take (2000 : Nat) zs) (0 : Int)) = true then dtI (mnV (List.take (2000 : Nat) zs) (0 : Int)) else (0 : Int)) = true then (0 : Int) else (1 : Int)) = (0 :
  Int) then false = true else bif decide ¬(if inB (mnV (List.take (2000 : Nat) zs) (0 : Int)) = true then (0 : Int) else (1 : Int)) = (0 : Int) then false = true else bif decide ¬(if
  prsV (fmtC (mnV (List.take (2000 : Nat) zs) (0 : Int))) = true then (0 : Int) else (3 : Int)) = (0 : Int) then false = true else bif decide ¬(if vldB (if inB (mnV (List.take (2000
  : Nat) zs) (0 : Int)) = true then dtY (mnV (List.take (2000 : Nat) zs) (0 : Int)) else (0 : Int)) (if inB (mnV (List.take (2000 : Nat) zs) (0 : Int)) = true then dtM (mnV
  (List.take (2000 : Nat) zs) (0 : Int)) else (0 : Int)) (if inB (mnV (List.take (2000 : Nat) zs) (0 : Int)) = true then dtD (mnV (List.take (2000 : Nat) zs) (0 : Int)) else (0 :
  Int)) (if inB (mnV (List.take (2000 : Nat) zs) (0 : Int)) = true then dtH (mnV (List.take (2000 : Nat) zs) (0 : Int)) else (0 : Int)) (if inB (mnV (List.take (2000 : Nat) zs) (0 :
  Int)) = true then dtI (mnV (List.take (2000 : Nat) zs) (0 : Int)) else (0 : Int)) = true then mns (if inB (mnV (List.take (2000 : Nat) zs) (0 : Int)) = true then dtY (mnV
  (List.take (2000 : Nat) zs) (0 : Int)) else (0 : Int)) (if inB (mnV (List.take (2000 : Nat) zs) (0 : Int)) = true then dtM (mnV (List.take (2000 : Nat) zs) (0 : Int)) else (0 :
  Int)) (if inB (mnV (List.take (2000 : Nat) zs) (0 : Int)) = true then dtD (mnV (List.take (2000 : Nat) zs) (0 : Int)) else (0 : Int)) (if inB (mnV (List.take (2000 : Nat) zs) (0 :
  Int)) = true then dtH (mnV (List.take (2000 : Nat) zs) (0 : Int)) else (0 : Int)) (if inB (mnV (List.take (2000 : Nat) zs) (0 : Int)) = true then dtI (mnV (List.take (2000 : Nat)
  zs) (0 : Int)) else (0 : Int)) else (0 : Int)) = mnV (List.take (2000 : Nat) zs) (0 : Int) then false = true else bif decide ¬prsM (fmtC (mnV (List.take (2000 : Nat) zs) (0 :
  Int))) = mnV (List.take (2000 : Nat) zs) (0 : Int) then false = true else bif decide (mnV (List.take (2000 : Nat) zs) (0 : Int) = (52595999 : Int)) then True ∧ true = true else bif
  decide (rng IntKind.i64 (mnV (List.take (2000 : Nat) zs) (0 : Int) + (1 : Int))) then True ∧ bif decide ¬(if inB (mnV (List.take (2000 : Nat) zs) (0 : Int) + (1 : Int)) = true then
  (0 : Int) else (1 : Int)) = (0 : Int) then false = true else bif decide (rng IntKind.i64 ((if inB (mnV (List.take (2000 : Nat) zs) (0 : Int)) = true then dtI (mnV (List.take (2000
  : Nat) zs) (0 : Int)) else (0 : Int)) + (1 : Int))) then (bif decide ((if inB (mnV (List.take (2000 : Nat) zs) (0 : Int)) = true then dtI (mnV (List.take (2000 : Nat) zs) (0 :
  Int)) else (0 : Int)) + (1 : Int) = (60 : Int)) then bif decide (rng IntKind.i64 ((if inB (mnV (List.take (2000 : Nat) zs) (0 : Int)) = true then dtH (mnV (List.take (2000 : Nat)
  zs) (0 : Int)) else (0 : Int)) + (1 : Int))) then ∃ x, OneP x ∧ (false = false ∧ (0 : Nat) = (0 : Nat) ∧ (0 : Nat) = (0 : Nat) ∧ True) ∧ ((if inB (mnV (List.take (2000 : Nat) zs)
  (0 : Int)) = true then dtY (mnV (List.take (2000 : Nat) zs) (0 : Int)) else (0 : Int)) = (dtY (mnV (List.take (2000 : Nat) zs) (0 : Int)), dtM (mnV (List.take (2000 : Nat) zs) (0 :
  Int)), dtD (mnV (List.take (2000 : Nat) zs) (0 : Int)), b1H (mnV (List.take (2000 : Nat) zs) (0 : Int)), b1I (mnV (List.take (2000 : Nat) zs) (0 : Int))).fst ∧ (if inB (mnV
  (List.take (2000 : Nat) zs) (0 : Int)) = true then dtM (mnV (List.take (2000 : Nat) zs) (0 : Int)) else (0 : Int)) = (dtY (mnV (List.take (2000 : Nat) zs) (0 : Int)), dtM (mnV
  (List.take (2000 : Nat) zs) (0 : Int)), dtD (mnV (List.take (2000 : Nat) zs) (0 : Int)), b1H (mnV (List.take (2000 : Nat) zs) (0 : Int)), b1I (mnV (List.take (2000 : Nat) zs) (0 :
  Int))).snd.fst ∧ (if inB (mnV (List.take (2000 : Nat) zs) (0 : Int)) = true then dtD (mnV (List.take (2000 : Nat) zs) (0 : Int)) else (0 : Int)) = (dtY (mnV (List.take (2000 : Nat)
  zs) (0 : Int)), dtM (mnV (List.take (2000 : Nat) zs) (0 : Int)), dtD (mnV (List.take (2000 : Nat) zs) (0 : Int)), b1H (mnV (List.take (2000 : Nat) zs) (0 : Int)), b1I (mnV
  (List.take (2000 : Nat) zs) (0 : Int))).snd.snd.fst ∧ (if inB (mnV (List.take (2000 : Nat) zs) (0 : Int)) = true then dtH (mnV (List.take (2000 : Nat) zs) (0 : Int)) else (0 :
  Int)) + (1 : Int) = (dtY (mnV (List.take (2000 : Nat) zs) (0 : Int)), dtM (mnV (List.take (2000 : Nat) zs) (0 : Int)), dtD (mnV (List.take (2000 : Nat) zs) (0 : Int)), b1H (mnV
  (List.take (2000 : Nat) zs) (0 : Int)), b1I (mnV (List.take (2000 : Nat) zs) (0 : Int))).snd.snd.snd.fst ∧ (0 : Int) = (dtY (mnV (List.take (2000 : Nat) zs) (0 : Int)), dtM (mnV
  (List.take (2000 : Nat) zs) (0 : Int)), dtD (mnV (List.take (2000 : Nat) zs) (0 : Int)), b1H (mnV (List.take (2000 : Nat) zs) (0 : Int)), b1I (mnV (List.take (2000 : Nat) zs) (0 :
  Int))).snd.snd.snd.snd ∧ True) ∧ ((if inB (mnV (List.take (2000 : Nat) zs) (0 : Int) + (1 : Int)) = true then dtY (mnV (List.take (2000 : Nat) zs) (0 : Int) + (1 : Int)) else (0 :
  Int)) = (bkN dtY dtM dtD dtH dtI (mnV (List.take (2000 : Nat) zs) (0 : Int))).fst ∧ (if inB (mnV (List.take (2000 : Nat) zs) (0 : Int) + (1 : Int)) = true then dtM (mnV (List.take
  (2000 : Nat) zs) (0 : Int) + (1 : Int)) else (0 : Int)) = (bkN dtY dtM dtD dtH dtI (mnV (List.take (2000 : Nat) zs) (0 : Int))).snd.fst ∧ (if inB (mnV (List.take (2000 : Nat) zs)
  (0 : Int) + (1 : Int)) = true then dtD (mnV (List.take (2000 : Nat) zs) (0 : Int) + (1 : Int)) else (0 : Int)) = (bkN dtY dtM dtD dtH dtI (mnV (List.take (2000 : Nat) zs) (0 :
  Int))).snd.snd.fst ∧ (if inB (mnV (List.take (2000 : Nat) zs) (0 : Int) + (1 : Int)) = true then dtH (mnV (List.take (2000 : Nat) zs) (0 : Int) + (1 : Int)) else (0 : Int)) = (bkN
  dtY dtM dtD dtH dtI (mnV (List.take (2000 : Nat) zs) (0 : Int))).snd.snd.snd.fst ∧ (if inB (mnV (List.take (2000 : Nat) zs) (0 : Int) + (1 : Int)) = true then dtI (mnV (List.take
  (2000 : Nat) zs) (0 : Int) + (1 : Int)) else (0 : Int)) = (bkN dtY dtM dtD dtH dtI (mnV (List.take (2000 : Nat) zs) (0 : Int))).snd.snd.snd.snd ∧ True) ∧ True else False else ∃ x,
  OneP x ∧ (false = false ∧ (0 : Nat) = (0 : Nat) ∧ (0 : Nat) = (0 : Nat) ∧ True) ∧ ((if inB (mnV (List.take (2000 : Nat) zs) (0 : Int)) = true then dtY (mnV (List.take (2000 : Nat)
  zs) (0 : Int)) else (0 : Int)) = (dtY (mnV (List.take (2000 : Nat) zs) (0 : Int)), dtM (mnV (List.take (2000 : Nat) zs) (0 : Int)), dtD (mnV (List.take (2000 : Nat) zs) (0 : Int)),
  b1H (mnV (List.take (2000 : Nat) zs) (0 : Int)), b1I (mnV (List.take (2000 : Nat) zs) (0 : Int))).fst ∧ (if inB (mnV (List.take (2000 : Nat) zs) (0 : Int)) = true then dtM (mnV
  (List.take (2000 : Nat) zs) (0 : Int)) else (0 : Int)) = (dtY (mnV (List.take (2000 : Nat) zs) (0 : Int)), dtM (mnV (List.take (2000 : Nat) zs) (0 : Int)), dtD (mnV (List.take
  (2000 : Nat) zs) (0 : Int)), b1H (mnV (List.take (2000 : Nat) zs) (0 : Int)), b1I (mnV (List.take (2000 : Nat) zs) (0 : Int))).snd.fst ∧ (if inB (mnV (List.take (2000 : Nat) zs) (0
  : Int)) = true then dtD (mnV (List.take (2000 : Nat) zs) (0 : Int)) else (0 : Int)) = (dtY (mnV (List.take (2000 : Nat) zs) (0 : Int)), dtM (mnV (List.take (2000 : Nat) zs) (0 :
  Int)), dtD (mnV (List.take (2000 : Nat) zs) (0 : Int)), b1H (mnV (List.take (2000 : Nat) zs) (0 : Int)), b1I (mnV (List.take (2000 : Nat) zs) (0 : Int))).snd.snd.fst ∧ (if inB (mnV
  (List.take (2000 : Nat) zs) (0 : Int)) = true then dtH (mnV (List.take (2000 : Nat) zs) (0 : Int)) else (0 : Int)) = (dtY (mnV (List.take (2000 : Nat) zs) (0 : Int)), dtM (mnV
  (List.take (2000 : Nat) zs) (0 : Int)), dtD (mnV (List.take (2000 : Nat) zs) (0 : Int)), b1H (mnV (List.take (2000 : Nat) zs) (0 : Int)), b1I (mnV (List.take (2000 : Nat) zs) (0 :
  Int))).snd.snd.snd.fst ∧ (if inB (mnV (List.take (2000 : Nat) zs) (0 : Int)) = true then dtI (mnV (List.take (2000 : Nat) zs) (0 : Int)) else (0 : Int)) + (1 : Int) = (dtY (mnV
  (List.take (2000 : Nat) zs) (0 : Int)), dtM (mnV (List.take (2000 : Nat) zs) (0 : Int)), dtD (mnV (List.take (2000 : Nat) zs) (0 : Int)), b1H (mnV (List.take (2000 : Nat) zs) (0 :
  Int)), b1I (mnV (List.take (2000 : Nat) zs) (0 : Int))).snd.snd.snd.snd ∧ True) ∧ ((if inB (mnV (List.take (2000 : Nat) zs) (0 : Int) + (1 : Int)) = true then dtY (mnV (List.take
  (2000 : Nat) zs) (0 : Int) + (1 : Int)) else (0 : Int)) = (bkN dtY dtM dtD dtH dtI (mnV (List.take (2000 : Nat) zs) (0 : Int))).fst ∧ (if inB (mnV (List.take (2000 : Nat) zs) (0 :
  Int) + (1 : Int)) = true then dtM (mnV (List.take (2000 : Nat) zs) (0 : Int) + (1 : Int)) else (0 : Int)) = (bkN dtY dtM dtD dtH dtI (mnV (List.take (2000 : Nat) zs) (0 :
  Int))).snd.fst ∧ (if inB (mnV (List.take (2000 : Nat) zs) (0 : Int) + (1 : Int)) = true then dtD (mnV (List.take (2000 : Nat) zs) (0 : Int) + (1 : Int)) else (0 : Int)) = (bkN dtY
  dtM dtD dtH dtI (mnV (List.take (2000 : Nat) zs) (0 : Int))).snd.snd.fst ∧ (if inB (mnV (List.take (2000 : Nat) zs) (0 : Int) + (1 : Int)) = true then dtH (mnV (List.take (2000 :
  Nat) zs) (0 : Int) + (1 : Int)) else (0 : Int)) = (bkN dtY dtM dtD dtH dtI (mnV (List.take (2000 : Nat) zs) (0 : Int))).snd.snd.snd.fst ∧ (if inB (mnV (List.take (2000 : Nat) zs)
  (0 : Int) + (1 : Int)) = true then dtI (mnV (List.take (2000 : Nat) zs) (0 : Int) + (1 : Int)) else (0 : Int)) = (bkN dtY dtM dtD dtH dtI (mnV (List.take (2000 : Nat) zs) (0 :
  Int))).snd.snd.snd.snd ∧ True) ∧ True) ∧ ∀ (x : PUnit), OneP x → (bif decide ((dtY (mnV (List.take (2000 : Nat) zs) (0 : Int)), dtM (mnV (List.take (2000 : Nat) zs) (0 : Int)), dtD
  (mnV (List.take (2000 : Nat) zs) (0 : Int)), b1H (mnV (List.take (2000 : Nat) zs) (0 : Int)), b1I (mnV (List.take (2000 : Nat) zs) (0 : Int))).snd.snd.snd.fst = (24 : Int)) then
  bif decide (rng IntKind.i64 ((dtY (mnV (List.take (2000 : Nat) zs) (0 : Int)), dtM (mnV (List.take (2000 : Nat) zs) (0 : Int)), dtD (mnV (List.take (2000 : Nat) zs) (0 : Int)), b1H
  (mnV (List.take (2000 : Nat) zs) (0 : Int)), b1I (mnV (List.take (2000 : Nat) zs) (0 : Int))).snd.snd.fst + (1 : Int))) then ∃ x, OneP x ∧ (false = false ∧ (0 : Nat) = (0 : Nat) ∧
  (0 : Nat) = (0 : Nat) ∧ True) ∧ ((dtY (mnV (List.take (2000 : Nat) zs) (0 : Int)), dtM (mnV (List.take (2000 : Nat) zs) (0 : Int)), dtD (mnV (List.take (2000 : Nat) zs) (0 : Int)),
  b1H (mnV (List.take (2000 : Nat) zs) (0 : Int)), b1I (mnV (List.take (2000 : Nat) zs) (0 : Int))).fst = (dtY (mnV (List.take (2000 : Nat) zs) (0 : Int)), dtM (mnV (List.take (2000
  : Nat) zs) (0 : Int)), b2D (mnV (List.take (2000 : Nat) zs) (0 : Int)), b2H (mnV (List.take (2000 : Nat) zs) (0 : Int)), b1I (mnV (List.take (2000 : Nat) zs) (0 : Int))).fst ∧ (dtY
  (mnV (List.take (2000 : Nat) zs) (0 : Int)), dtM (mnV (List.take (2000 : Nat) zs) (0 : Int)), dtD (mnV (List.take (2000 : Nat) zs) (0 : Int)), b1H (mnV (List.take (2000 : Nat) zs)
  (0 : Int)), b1I (mnV (List.take (2000 : Nat) zs) (0 : Int))).snd.fst = (dtY (mnV (List.take (2000 : Nat) zs) (0 : Int)), dtM (mnV (List.take (2000 : Nat) zs) (0 : Int)), b2D (mnV
  (List.take (2000 : Nat) zs) (0 : Int)), b2H (mnV (List.take (2000 : Nat) zs) (0 : Int)), b1I (mnV (List.take (2000 : Nat) zs) (0 : Int))).snd.fst ∧ (dtY (mnV (List.take (2000 :
  Nat) zs) (0 : Int)), dtM (mnV (List.take (2000 : Nat) zs) (0 : Int)), dtD (mnV (List.take (2000 : Nat) zs) (0 : Int)), b1H (mnV (List.take (2000 : Nat) zs) (0 : Int)), b1I (mnV
  (List.take (2000 : Nat) zs) (0 : Int))).snd.snd.fst + (1 : Int) = (dtY (mnV (List.take (2000 : Nat) zs) (0 : Int)), dtM (mnV (List.take (2000 : Nat) zs) (0 : Int)), b2D (mnV
  (List.take (2000 : Nat) zs) (0 : Int)), b2H (mnV (List.take (2000 : Nat) zs) (0 : Int)), b1I (mnV (List.take (2000 : Nat) zs) (0 : Int))).snd.snd.fst ∧ (0 : Int) = (dtY (mnV
  (List.take (2000 : Nat) zs) (0 : Int)), dtM (mnV (List.take (2000 : Nat) zs) (0 : Int)), b2D (mnV (List.take (2000 : Nat) zs) (0 : Int)), b2H (mnV (List.take (2000 : Nat) zs) (0 :
  Int)), b1I (mnV (List.take (2000 : Nat) zs) (0 : Int))).snd.snd.snd.fst ∧ (dtY (mnV (List.take (2000 : Nat) zs) (0 : Int)), dtM (mnV (List.take (2000 : Nat) zs) (0 : Int)), dtD
  (mnV (List.take (2000 : Nat) zs) (0 : Int)), b1H (mnV (List.take (2000 : Nat) zs) (0 : Int)), b1I (mnV (List.take (2000 : Nat) zs) (0 : Int))).snd.snd.snd.snd = (dtY (mnV
  (List.take (2000 : Nat) zs) (0 : Int)), dtM (mnV (List.take (2000 : Nat) zs) (0 : Int)), b2D (mnV (List.take (2000 : Nat) zs) (0 : Int)), b2H (mnV (List.take (2000 : Nat) zs) (0 :
  Int)), b1I (mnV (List.take (2000 : Nat) zs) (0 : Int))).snd.snd.snd.snd ∧ True) ∧ ((bkN dtY dtM dtD dtH dtI (mnV (List.take (2000 : Nat) zs) (0 : Int))).fst = (bkN dtY dtM dtD dtH
  dtI (mnV (List.take (2000 : Nat) zs) (0 : Int))).fst ∧ (bkN dtY dtM dtD dtH dtI (mnV (List.take (2000 : Nat) zs) (0 : Int))).snd.fst = (bkN dtY dtM dtD dtH dtI (mnV (List.take
  (2000 : Nat) zs) (0 : Int))).snd.fst ∧ (bkN dtY dtM dtD dtH dtI (mnV (List.take (2000 : Nat) zs) (0 : Int))).snd.snd.fst = (bkN dtY dtM dtD dtH dtI (mnV (List.take (2000 : Nat) zs)
  (0 : Int))).snd.snd.fst ∧ (bkN dtY dtM dtD dtH dtI (mnV (List.take (2000 : Nat) zs) (0 : Int))).snd.snd.snd.fst = (bkN dtY dtM dtD dtH dtI (mnV (List.take (2000 : Nat) zs) (0 :
  Int))).snd.snd.snd.fst ∧ (bkN dtY dtM dtD dtH dtI (mnV (List.take (2000 : Nat) zs) (0 : Int))).snd.snd.snd.snd = (bkN dtY dtM dtD dtH dtI (mnV (List.take (2000 : Nat) zs) (0 :
  Int))).snd.snd.snd.snd ∧ True) ∧ True else False else ∃ x, OneP x ∧ (false = false ∧ (0 : Nat) = (0 : Nat) ∧ (0 : Nat) = (0 : Nat) ∧ True) ∧ ((dtY (mnV (List.take (2000 : Nat) zs)
  (0 : Int)), dtM (mnV (List.take (2000 : Nat) zs) (0 : Int)), dtD (mnV (List.take (2000 : Nat) zs) (0 : Int)), b1H (mnV (List.take (2000 : Nat) zs) (0 : Int)), b1I (mnV (List.take
  (2000 : Nat) zs) (0 : Int))).fst = (dtY (mnV (List.take (2000 : Nat) zs) (0 : Int)), dtM (mnV (List.take (2000 : Nat) zs) (0 : Int)), b2D (mnV (List.take (2000 : Nat) zs) (0 :
  Int)), b2H (mnV (List.take (2000 : Nat) zs) (0 : Int)), b1I (mnV (List.take (2000 : Nat) zs) (0 : Int))).fst ∧ (dtY (mnV (List.take (2000 : Nat) zs) (0 : Int)), dtM (mnV (List.take
  (2000 : Nat) zs) (0 : Int)), dtD (mnV (List.take (2000 : Nat) zs) (0 : Int)), b1H (mnV (List.take (2000 : Nat) zs) (0 : Int)), b1I (mnV (List.take (2000 : Nat) zs) (0 :
  Int))).snd.fst = (dtY (mnV (List.take (2000 : Nat) zs) (0 : Int)), dtM (mnV (List.take (2000 : Nat) zs) (0 : Int)), b2D (mnV (List.take (2000 : Nat) zs) (0 : Int)), b2H (mnV
  (List.take (2000 : Nat) zs) (0 : Int)), b1I (mnV (List.take (2000 : Nat) zs) (0 : Int))).snd.fst ∧ (dtY (mnV (List.take (2000 : Nat) zs) (0 : Int)), dtM (mnV (List.take (2000 :
  Nat) zs) (0 : Int)), dtD (mnV (List.take (2000 : Nat) zs) (0 : Int)), b1H (mnV (List.take (2000 : Nat) zs) (0 : Int)), b1I (mnV (List.take (2000 : Nat) zs) (0 : Int))).snd.snd.fst
  = (dtY (mnV (List.take (2000 : Nat) zs) (0 : Int)), dtM (mnV (List.take (2000 : Nat) zs) (0 : Int)), b2D (mnV (List.take (2000 : Nat) zs) (0 : Int)), b2H (mnV (List.take (2000 :
  Nat) zs) (0 : Int)), b1I (mnV (List.take (2000 : Nat) zs) (0 : Int))).snd.snd.fst ∧ (dtY (mnV (List.take (2000 : Nat) zs) (0 : Int)), dtM (mnV (List.take (2000 : Nat) zs) (0 :
  Int)), dtD (mnV (List.take (2000 : Nat) zs) (0 : Int)), b1H (mnV (List.take (2000 : Nat) zs) (0 : Int)), b1I (mnV (List.take (2000 : Nat) zs) (0 : Int))).snd.snd.snd.fst = (dtY
  (mnV (List.take (2000 : Nat) zs) (0 : Int)), dtM (mnV (List.take (2000 : Nat) zs) (0 : Int)), b2D (mnV (List.take (2000 : Nat) zs) (0 : Int)), b2H (mnV (List.take (2000 : Nat) zs)
  (0 : Int)), b1I (mnV (List.take (2000 : Nat) zs) (0 : Int))).snd.snd.snd.fst ∧ (dtY (mnV (List.take (2000 : Nat) zs) (0 : Int)), dtM (mnV (List.take (2000 : Nat) zs) (0 : Int)),
  dtD (mnV (List.take (2000 : Nat) zs) (0 : Int)), b1H (mnV (List.take (2000 : Nat) zs) (0 : Int)), b1I (mnV (List.take (2000 : Nat) zs) (0 : Int))).snd.snd.snd.snd = (dtY (mnV
  (List.take (2000 : Nat) zs) (0 : Int)), dtM (mnV (List.take (2000 : Nat) zs) (0 : Int)), b2D (mnV (List.take (2000 : Nat) zs) (0 : Int)), b2H (mnV (List.take (2000 : Nat) zs) (0 :
  Int)), b1I (mnV (List.take (2000 : Nat) zs) (0 : Int))).snd.snd.snd.snd ∧ True) ∧ ((bkN dtY dtM dtD dtH dtI (mnV (List.take (2000 : Nat) zs) (0 : Int))).fst = (bkN dtY dtM dtD dtH
  dtI (mnV (List.take (2000 : Nat) zs) (0 : Int))).fst ∧ (bkN dtY dtM dtD dtH dtI (mnV (List.take (2000 : Nat) zs) (0 : Int))).snd.fst = (bkN dtY dtM dtD dtH dtI (mnV (List.take
  (2000 : Nat) zs) (0 : Int))).snd.fst ∧ (bkN dtY dtM dtD dtH dtI (mnV (List.take (2000 : Nat) zs) (0 : Int))).snd.snd.fst = (bkN dtY dtM dtD dtH dtI (mnV (List.take (2000 : Nat) zs)
  (0 : Int))).snd.snd.fst ∧ (bkN dtY dtM dtD dtH dtI (mnV (List.take (2000 : Nat) zs) (0 : Int))).snd.snd.snd.fst = (bkN dtY dtM dtD dtH dtI (mnV (List.take (2000 : Nat) zs) (0 :
  Int))).snd.snd.snd.fst ∧ (bkN dtY dtM dtD dtH dtI (mnV (List.take (2000 : Nat) zs) (0 : Int))).snd.snd.snd.snd = (bkN dtY dtM dtD dtH dtI (mnV (List.take (2000 : Nat) zs) (0 :
  Int))).snd.snd.snd.snd ∧ True) ∧ True) ∧ ∀ (x : PUnit), OneP x → (True ∧ bif decide (dim (dtY (mnV (List.take (2000 : Nat) zs) (0 : Int)), dtM (mnV (List.take (2000 : Nat) zs) (0 :
  Int)), b2D (mnV (List.take (2000 : Nat) zs) (0 : Int)), b2H (mnV (List.take (2000 : Nat) zs) (0 : Int)), b1I (mnV (List.take (2000 : Nat) zs) (0 : Int))).fst (dtY (mnV (List.take
  (2000 : Nat) zs) (0 : Int)), dtM (mnV (List.take (2000 : Nat) zs) (0 : Int)), b2D (mnV (List.take (2000 : Nat) zs) (0 : Int)), b2H (mnV (List.take (2000 : Nat) zs) (0 : Int)), b1I
  (mnV (List.take (2000 : Nat) zs) (0 : Int))).snd.fst < (dtY (mnV (List.take (2000 : Nat) zs) (0 : Int)), dtM (mnV (List.take (2000 : Nat) zs) (0 : Int)), b2D (mnV (List.take (2000
  : Nat) zs) (0 : Int)), b2H (mnV (List.take (2000 : Nat) zs) (0 : Int)), b1I (mnV (List.take (2000 : Nat) zs) (0 : Int))).snd.snd.fst) then bif decide (rng IntKind.i64 ((dtY (mnV
  (List.take (2000 : Nat) zs) (0 : Int)), dtM (mnV (List.take (2000 : Nat) zs) (0 : Int)), b2D (mnV (List.take (2000 : Nat) zs) (0 : Int)), b2H (mnV (List.take (2000 : Nat) zs) (0 :
  Int)), b1I (mnV (List.take (2000 : Nat) zs) (0 : Int))).snd.fst + (1 : Int))) then ∃ x, OneP x ∧ (false = false ∧ (0 : Nat) = (0 : Nat) ∧ (0 : Nat) = (0 : Nat) ∧ True) ∧ ((dtY (mnV
  (List.take (2000 : Nat) zs) (0 : Int)), dtM (mnV (List.take (2000 : Nat) zs) (0 : Int)), b2D (mnV (List.take (2000 : Nat) zs) (0 : Int)), b2H (mnV (List.take (2000 : Nat) zs) (0 :
  Int)), b1I (mnV (List.take (2000 : Nat) zs) (0 : Int))).fst = (dtY (mnV (List.take (2000 : Nat) zs) (0 : Int)), b3M (mnV (List.take (2000 : Nat) zs) (0 : Int)), b3D (mnV (List.take
  (2000 : Nat) zs) (0 : Int)), b2H (mnV (List.take (2000 : Nat) zs) (0 : Int)), b1I (mnV (List.take (2000 : Nat) zs) (0 : Int))).fst ∧ (dtY (mnV (List.take (2000 : Nat) zs) (0 :
  Int)), dtM (mnV (List.take (2000 : Nat) zs) (0 : Int)), b2D (mnV (List.take (2000 : Nat) zs) (0 : Int)), b2H (mnV (List.take (2000 : Nat) zs) (0 : Int)), b1I (mnV (List.take (2000
  : Nat) zs) (0 : Int))).snd.fst + (1 : Int) = (dtY (mnV (List.take (2000 : Nat) zs) (0 : Int)), b3M (mnV (List.take (2000 : Nat) zs) (0 : Int)), b3D (mnV (List.take (2000 : Nat) zs)
  (0 : Int)), b2H (mnV (List.take (2000 : Nat) zs) (0 : Int)), b1I (mnV (List.take (2000 : Nat) zs) (0 : Int))).snd.fst ∧ (1 : Int) = (dtY (mnV (List.take (2000 : Nat) zs) (0 :
  Int)), b3M (mnV (List.take (2000 : Nat) zs) (0 : Int)), b3D (mnV (List.take (2000 : Nat) zs) (0 : Int)), b2H (mnV (List.take (2000 : Nat) zs) (0 : Int)), b1I (mnV (List.take (2000
  : Nat) zs) (0 : Int))).snd.snd.fst ∧ (dtY (mnV (List.take (2000 : Nat) zs) (0 : Int)), dtM (mnV (List.take (2000 : Nat) zs) (0 : Int)), b2D (mnV (List.take (2000 : Nat) zs) (0 :
  Int)), b2H (mnV (List.take (2000 : Nat) zs) (0 : Int)), b1I (mnV (List.take (2000 : Nat) zs) (0 : Int))).snd.snd.snd.fst = (dtY (mnV (List.take (2000 : Nat) zs) (0 : Int)), b3M
  (mnV (List.take (2000 : Nat) zs) (0 : Int)), b3D (mnV (List.take (2000 : Nat) zs) (0 : Int)), b2H (mnV (List.take (2000 : Nat) zs) (0 : Int)), b1I (mnV (List.take (2000 : Nat) zs)
  (0 : Int))).snd.snd.snd.fst ∧ (dtY (mnV (List.take (2000 : Nat) zs) (0 : Int)), dtM (mnV (List.take (2000 : Nat) zs) (0 : Int)), b2D (mnV (List.take (2000 : Nat) zs) (0 : Int)),
  b2H (mnV (List.take (2000 : Nat) zs) (0 : Int)), b1I (mnV (List.take (2000 : Nat) zs) (0 : Int))).snd.snd.snd.snd = (dtY (mnV (List.take (2000 : Nat) zs) (0 : Int)), b3M (mnV
  (List.take (2000 : Nat) zs) (0 : Int)), b3D (mnV (List.take (2000 : Nat) zs) (0 : Int)), b2H (mnV (List.take (2000 : Nat) zs) (0 : Int)), b1I (mnV (List.take (2000 : Nat) zs) (0 :
  Int))).snd.snd.snd.snd ∧ True) ∧ ((bkN dtY dtM dtD dtH dtI (mnV (List.take (2000 : Nat) zs) (0 : Int))).fst = (bkN dtY dtM dtD dtH dtI (mnV (List.take (2000 : Nat) zs) (0 :
  Int))).fst ∧ (bkN dtY dtM dtD dtH dtI (mnV (List.take (2000 : Nat) zs) (0 : Int))).snd.fst = (bkN dtY dtM dtD dtH dtI (mnV (List.take (2000 : Nat) zs) (0 : Int))).snd.fst ∧ (bkN
  dtY dtM dtD dtH dtI (mnV (List.take (2000 : Nat) zs) (0 : Int))).snd.snd.fst = (bkN dtY dtM dtD dtH dtI (mnV (List.take (2000 : Nat) zs) (0 : Int))).snd.snd.fst ∧ (bkN dtY dtM dtD
  dtH dtI (mnV (List.take (2000 : Nat) zs) (0 : Int))).snd.snd.snd.fst = (bkN dtY dtM dtD dtH dtI (mnV (List.take (2000 : Nat) zs) (0 : Int))).snd.snd.snd.fst ∧ (bkN dtY dtM dtD dtH
  dtI (mnV (List.take (2000 : Nat) zs) (0 : Int))).snd.snd.snd.snd = (bkN dtY dtM dtD dtH dtI (mnV (List.take (2000 : Nat) zs) (0 : Int))).snd.snd.snd.snd ∧ True) ∧ True else False
  else ∃ x, OneP x ∧ (false = false ∧ (0 : Nat) = (0 : Nat) ∧ (0 : Nat) = (0 : Nat) ∧ True) ∧ ((dtY (mnV (List.take (2000 : Nat) zs) (0 : Int)), dtM (mnV (List.take (2000 : Nat) zs)
  (0 : Int)), b2D (mnV (List.take (2000 : Nat) zs) (0 : Int)), b2H (mnV (List.take (2000 : Nat) zs) (0 : Int)), b1I (mnV (List.take (2000 : Nat) zs) (0 : Int))).fst = (dtY (mnV
  (List.take (2000 : Nat) zs) (0 : Int)), b3M (mnV (List.take (2000 : Nat) zs) (0 : Int)), b3D (mnV (List.take (2000 : Nat) zs) (0 : Int)), b2H (mnV (List.take (2000 : Nat) zs) (0 :
  Int)), b1I (mnV (List.take (2000 : Nat) zs) (0 : Int))).fst ∧ (dtY (mnV (List.take (2000 : Nat) zs) (0 : Int)), dtM (mnV (List.take (2000 : Nat) zs) (0 : Int)), b2D (mnV (List.take
  (2000 : Nat) zs) (0 : Int)), b2H (mnV (List.take (2000 : Nat) zs) (0 : Int)), b1I (mnV (List.take (2000 : Nat) zs) (0 : Int))).snd.fst = (dtY (mnV (List.take (2000 : Nat) zs) (0 :
  Int)), b3M (mnV (List.take (2000 : Nat) zs) (0 : Int)), b3D (mnV (List.take (2000 : Nat) zs) (0 : Int)), b2H (mnV (List.take (2000 : Nat) zs) (0 : Int)), b1I (mnV (List.take (2000
  : Nat) zs) (0 : Int))).snd.fst ∧ (dtY (mnV (List.take (2000 : Nat) zs) (0 : Int)), dtM (mnV (List.take (2000 : Nat) zs) (0 : Int)), b2D (mnV (List.take (2000 : Nat) zs) (0 : Int)),
  b2H (mnV (List.take (2000 : Nat) zs) (0 : Int)), b1I (mnV (List.take (2000 : Nat) zs) (0 : Int))).snd.snd.fst = (dtY (mnV (List.take (2000 : Nat) zs) (0 : Int)), b3M (mnV
  (List.take (2000 : Nat) zs) (0 : Int)), b3D (mnV (List.take (2000 : Nat) zs) (0 : Int)), b2H (mnV (List.take (2000 : Nat) zs) (0 : Int)), b1I (mnV (List.take (2000 : Nat) zs) (0 :
  Int))).snd.snd.fst ∧ (dtY (mnV (List.take (2000 : Nat) zs) (0 : Int)), dtM (mnV (List.take (2000 : Nat) zs) (0 : Int)), b2D (mnV (List.take (2000 : Nat) zs) (0 : Int)), b2H (mnV
  (List.take (2000 : Nat) zs) (0 : Int)), b1I (mnV (List.take (2000 : Nat) zs) (0 : Int))).snd.snd.snd.fst = (dtY (mnV (List.take (2000 : Nat) zs) (0 : Int)), b3M (mnV (List.take
  (2000 : Nat) zs) (0 : Int)), b3D (mnV (List.take (2000 : Nat) zs) (0 : Int)), b2H (mnV (List.take (2000 : Nat) zs) (0 : Int)), b1I (mnV (List.take (2000 : Nat) zs) (0 :
  Int))).snd.snd.snd.fst ∧ (dtY (mnV (List.take (2000 : Nat) zs) (0 : Int)), dtM (mnV (List.take (2000 : Nat) zs) (0 : Int)), b2D (mnV (List.take (2000 : Nat) zs) (0 : Int)), b2H
  (mnV (List.take (2000 : Nat) zs) (0 : Int)), b1I (mnV (List.take (2000 : Nat) zs) (0 : Int))).snd.snd.snd.snd = (dtY (mnV (List.take (2000 : Nat) zs) (0 : Int)), b3M (mnV
  (List.take (2000 : Nat) zs) (0 : Int)), b3D (mnV (List.take (2000 : Nat) zs) (0 : Int)), b2H (mnV (List.take (2000 : Nat) zs) (0 : Int)), b1I (mnV (List.take (2000 : Nat) zs) (0 :
  Int))).snd.snd.snd.snd ∧ True) ∧ ((bkN dtY dtM dtD dtH dtI (mnV (List.take (2000 : Nat) zs) (0 : Int))).fst = (bkN dtY dtM dtD dtH dtI (mnV (List.take (2000 : Nat) zs) (0 :
  Int))).fst ∧ (bkN dtY dtM dtD dtH dtI (mnV (List.take (2000 : Nat) zs) (0 : Int))).snd.fst = (bkN dtY dtM dtD dtH dtI (mnV (List.take (2000 : Nat) zs) (0 : Int))).snd.fst ∧ (bkN
  dtY dtM dtD dtH dtI (mnV (List.take (2000 : Nat) zs) (0 : Int))).snd.snd.fst = (bkN dtY dtM dtD dtH dtI (mnV (List.take (2000 : Nat) zs) (0 : Int))).snd.snd.fst ∧ (bkN dtY dtM dtD
  dtH dtI (mnV (List.take (2000 : Nat) zs) (0 : Int))).snd.snd.snd.fst = (bkN dtY dtM dtD dtH dtI (mnV (List.take (2000 : Nat) zs) (0 : Int))).snd.snd.snd.fst ∧ (bkN dtY dtM dtD dtH
  dtI (mnV (List.take (2000 : Nat) zs) (0 : Int))).snd.snd.snd.snd = (bkN dtY dtM dtD dtH dtI (mnV (List.take (2000 : Nat) zs) (0 : Int))).snd.snd.snd.snd ∧ True) ∧ True) ∧ ∀ (x :
  PUnit), OneP x → (bif decide ((dtY (mnV (List.take (2000 : Nat) zs) (0 : Int)), b3M (mnV (List.take (2000 : Nat) zs) (0 : Int)), b3D (mnV (List.take (2000 : Nat) zs) (0 : Int)),
  b2H (mnV (List.take (2000 : Nat) zs) (0 : Int)), b1I (mnV (List.take (2000 : Nat) zs) (0 : Int))).snd.fst = (13 : Int)) then bif decide (rng IntKind.i64 ((dtY (mnV (List.take (2000
  : Nat) zs) (0 : Int)), b3M (mnV (List.take (2000 : Nat) zs) (0 : Int)), b3D (mnV (List.take (2000 : Nat) zs) (0 : Int)), b2H (mnV (List.take (2000 : Nat) zs) (0 : Int)), b1I (mnV
  (List.take (2000 : Nat) zs) (0 : Int))).fst + (1 : Int))) then ∃ x, OneP x ∧ (false = false ∧ (0 : Nat) = (0 : Nat) ∧ (0 : Nat) = (0 : Nat) ∧ True) ∧ ((dtY (mnV (List.take (2000 :
  Nat) zs) (0 : Int)), b3M (mnV (List.take (2000 : Nat) zs) (0 : Int)), b3D (mnV (List.take (2000 : Nat) zs) (0 : Int)), b2H (mnV (List.take (2000 : Nat) zs) (0 : Int)), b1I (mnV
  (List.take (2000 : Nat) zs) (0 : Int))).fst + (1 : Int) = (b4Y (mnV (List.take (2000 : Nat) zs) (0 : Int)), b4M (mnV (List.take (2000 : Nat) zs) (0 : Int)), b3D (mnV (List.take
  (2000 : Nat) zs) (0 : Int)), b2H (mnV (List.take (2000 : Nat) zs) (0 : Int)), b1I (mnV (List.take (2000 : Nat) zs) (0 : Int))).fst ∧ (1 : Int) = (b4Y (mnV (List.take (2000 : Nat)
  zs) (0 : Int)), b4M (mnV (List.take (2000 : Nat) zs) (0 : Int)), b3D (mnV (List.take (2000 : Nat) zs) (0 : Int)), b2H (mnV (List.take (2000 : Nat) zs) (0 : Int)), b1I (mnV
  (List.take (2000 : Nat) zs) (0 : Int))).snd.fst ∧ (dtY (mnV (List.take (2000 : Nat) zs) (0 : Int)), b3M (mnV (List.take (2000 : Nat) zs) (0 : Int)), b3D (mnV (List.take (2000 :
  Nat) zs) (0 : Int)), b2H (mnV (List.take (2000 : Nat) zs) (0 : Int)), b1I (mnV (List.take (2000 : Nat) zs) (0 : Int))).snd.snd.fst = (b4Y (mnV (List.take (2000 : Nat) zs) (0 :
  Int)), b4M (mnV (List.take (2000 : Nat) zs) (0 : Int)), b3D (mnV (List.take (2000 : Nat) zs) (0 : Int)), b2H (mnV (List.take (2000 : Nat) zs) (0 : Int)), b1I (mnV (List.take (2000
  : Nat) zs) (0 : Int))).snd.snd.fst ∧ (dtY (mnV (List.take (2000 : Nat) zs) (0 : Int)), b3M (mnV (List.take (2000 : Nat) zs) (0 : Int)), b3D (mnV (List.take (2000 : Nat) zs) (0 :
  Int)), b2H (mnV (List.take (2000 : Nat) zs) (0 : Int)), b1I (mnV (List.take (2000 : Nat) zs) (0 : Int))).snd.snd.snd.fst = (b4Y (mnV (List.take (2000 : Nat) zs) (0 : Int)), b4M
  (mnV (List.take (2000 : Nat) zs) (0 : Int)), b3D (mnV (List.take (2000 : Nat) zs) (0 : Int)), b2H (mnV (List.take (2000 : Nat) zs) (0 : Int)), b1I (mnV (List.take (2000 : Nat) zs)
  (0 : Int))).snd.snd.snd.fst ∧ (dtY (mnV (List.take (2000 : Nat) zs) (0 : Int)), b3M (mnV (List.take (2000 : Nat) zs) (0 : Int)), b3D (mnV (List.take (2000 : Nat) zs) (0 : Int)),
  b2H (mnV (List.take (2000 : Nat) zs) (0 : Int)), b1I (mnV (List.take (2000 : Nat) zs) (0 : Int))).snd.snd.snd.snd = (b4Y (mnV (List.take (2000 : Nat) zs) (0 : Int)), b4M (mnV
  (List.take (2000 : Nat) zs) (0 : Int)), b3D (mnV (List.take (2000 : Nat) zs) (0 : Int)), b2H (mnV (List.take (2000 : Nat) zs) (0 : Int)), b1I (mnV (List.take (2000 : Nat) zs) (0 :
  Int))).snd.snd.snd.snd ∧ True) ∧ ((bkN dtY dtM dtD dtH dtI (mnV (List.take (2000 : Nat) zs) (0 : Int))).fst = (bkN dtY dtM dtD dtH dtI (mnV (List.take (2000 : Nat) zs) (0 :
  Int))).fst ∧ (bkN dtY dtM dtD dtH dtI (mnV (List.take (2000 : Nat) zs) (0 : Int))).snd.fst = (bkN dtY dtM dtD dtH dtI (mnV (List.take (2000 : Nat) zs) (0 : Int))).snd.fst ∧ (bkN
  dtY dtM dtD dtH dtI (mnV (List.take (2000 : Nat) zs) (0 : Int))).snd.snd.fst = (bkN dtY dtM dtD dtH dtI (mnV (List.take (2000 : Nat) zs) (0 : Int))).snd.snd.fst ∧ (bkN dtY dtM dtD
  dtH dtI (mnV (List.take (2000 : Nat) zs) (0 : Int))).snd.snd.snd.fst = (bkN dtY dtM dtD dtH dtI (mnV (List.take (2000 : Nat) zs) (0 : Int))).snd.snd.snd.fst ∧ (bkN dtY dtM dtD dtH
  dtI (mnV (List.take (2000 : Nat) zs) (0 : Int))).snd.snd.snd.snd = (bkN dtY dtM dtD dtH dtI (mnV (List.take (2000 : Nat) zs) (0 : Int))).snd.snd.snd.snd ∧ True) ∧ True else False
  else ∃ x, OneP x ∧ (false = false ∧ (0 : Nat) = (0 : Nat) ∧ (0 : Nat) = (0 : Nat) ∧ True) ∧ ((dtY (mnV (List.take (2000 : Nat) zs) (0 : Int)), b3M (mnV (List.take (2000 : Nat) zs)
  (0 : Int)), b3D (mnV (List.take (2000 : Nat) zs) (0 : Int)), b2H (mnV (List.take (2000 : Nat) zs) (0 : Int)), b1I (mnV (List.take (2000 : Nat) zs) (0 : Int))).fst = (b4Y (mnV
  (List.take (2000 : Nat) zs) (0 : Int)), b4M (mnV (List.take (2000 : Nat) zs) (0 : Int)), b3D (mnV (List.take (2000 : Nat) zs) (0 : Int)), b2H (mnV (List.take (2000 : Nat) zs) (0 :
  Int)), b1I (mnV (List.take (2000 : Nat) zs) (0 : Int))).fst ∧ (dtY (mnV (List.take (2000 : Nat) zs) (0 : Int)), b3M (mnV (List.take (2000 : Nat) zs) (0 : Int)), b3D (mnV (List.take
  (2000 : Nat) zs) (0 : Int)), b2H (mnV (List.take (2000 : Nat) zs) (0 : Int)), b1I (mnV (List.take (2000 : Nat) zs) (0 : Int))).snd.fst = (b4Y (mnV (List.take (2000 : Nat) zs) (0 :
  Int)), b4M (mnV (List.take (2000 : Nat) zs) (0 : Int)), b3D (mnV (List.take (2000 : Nat) zs) (0 : Int)), b2H (mnV (List.take (2000 : Nat) zs) (0 : Int)), b1I (mnV (List.take (2000
  : Nat) zs) (0 : Int))).snd.fst ∧ (dtY (mnV (List.take (2000 : Nat) zs) (0 : Int)), b3M (mnV (List.take (2000 : Nat) zs) (0 : Int)), b3D (mnV (List.take (2000 : Nat) zs) (0 : Int)),
  b2H (mnV (List.take (2000 : Nat) zs) (0 : Int)), b1I (mnV (List.take (2000 : Nat) zs) (0 : Int))).snd.snd.fst = (b4Y (mnV (List.take (2000 : Nat) zs) (0 : Int)), b4M (mnV
  (List.take (2000 : Nat) zs) (0 : Int)), b3D (mnV (List.take (2000 : Nat) zs) (0 : Int)), b2H (mnV (List.take (2000 : Nat) zs) (0 : Int)), b1I (mnV (List.take (2000 : Nat) zs) (0 :
  Int))).snd.snd.fst ∧ (dtY (mnV (List.take (2000 : Nat) zs) (0 : Int)), b3M (mnV (List.take (2000 : Nat) zs) (0 : Int)), b3D (mnV (List.take (2000 : Nat) zs) (0 : Int)), b2H (mnV
  (List.take (2000 : Nat) zs) (0 : Int)), b1I (mnV (List.take (2000 : Nat) zs) (0 : Int))).snd.snd.snd.fst = (b4Y (mnV (List.take (2000 : Nat) zs) (0 : Int)), b4M (mnV (List.take
  (2000 : Nat) zs) (0 : Int)), b3D (mnV (List.take (2000 : Nat) zs) (0 : Int)), b2H (mnV (List.take (2000 : Nat) zs) (0 : Int)), b1I (mnV (List.take (2000 : Nat) zs) (0 :
  Int))).snd.snd.snd.fst ∧ (dtY (mnV (List.take (2000 : Nat) zs) (0 : Int)), b3M (mnV (List.take (2000 : Nat) zs) (0 : Int)), b3D (mnV (List.take (2000 : Nat) zs) (0 : Int)), b2H
  (mnV (List.take (2000 : Nat) zs) (0 : Int)), b1I (mnV (List.take (2000 : Nat) zs) (0 : Int))).snd.snd.snd.snd = (b4Y (mnV (List.take (2000 : Nat) zs) (0 : Int)), b4M (mnV
  (List.take (2000 : Nat) zs) (0 : Int)), b3D (mnV (List.take (2000 : Nat) zs) (0 : Int)), b2H (mnV (List.take (2000 : Nat) zs) (0 : Int)), b1I (mnV (List.take (2000 : Nat) zs) (0 :
  Int))).snd.snd.snd.snd ∧ True) ∧ ((bkN dtY dtM dtD dtH dtI (mnV (List.take (2000 : Nat) zs) (0 : Int))).fst = (bkN dtY dtM dtD dtH dtI (mnV (List.take (2000 : Nat) zs) (0 :
  Int))).fst ∧ (bkN dtY dtM dtD dtH dtI (mnV (List.take (2000 : Nat) zs) (0 : Int))).snd.fst = (bkN dtY dtM dtD dtH dtI (mnV (List.take (2000 : Nat) zs) (0 : Int))).snd.fst ∧ (bkN
  dtY dtM dtD dtH dtI (mnV (List.take (2000 : Nat) zs) (0 : Int))).snd.snd.fst = (bkN dtY dtM dtD dtH dtI (mnV (List.take (2000 : Nat) zs) (0 : Int))).snd.snd.fst ∧ (bkN dtY dtM dtD
  dtH dtI (mnV (List.take (2000 : Nat) zs) (0 : Int))).snd.snd.snd.fst = (bkN dtY dtM dtD dtH dtI (mnV (List.take (2000 : Nat) zs) (0 : Int))).snd.snd.snd.fst ∧ (bkN dtY dtM dtD dtH
  dtI (mnV (List.take (2000 : Nat) zs) (0 : Int))).snd.snd.snd.snd = (bkN dtY dtM dtD dtH dtI (mnV (List.take (2000 : Nat) zs) (0 : Int))).snd.snd.snd.snd ∧ True) ∧ True) ∧ ∀ (x :
  PUnit), OneP x → bif decide ((b4Y (mnV (List.take (2000 : Nat) zs) (0 : Int)), b4M (mnV (List.take (2000 : Nat) zs) (0 : Int)), b3D (mnV (List.take (2000 : Nat) zs) (0 : Int)), b2H
  (mnV (List.take (2000 : Nat) zs) (0 : Int)), b1I (mnV (List.take (2000 : Nat) zs) (0 : Int))).fst = (bkN dtY dtM dtD dtH dtI (mnV (List.take (2000 : Nat) zs) (0 : Int))).fst) &&
  (decide ((b4Y (mnV (List.take (2000 : Nat) zs) (0 : Int)), b4M (mnV (List.take (2000 : Nat) zs) (0 : Int)), b3D (mnV (List.take (2000 : Nat) zs) (0 : Int)), b2H (mnV (List.take
  (2000 : Nat) zs) (0 : Int)), b1I (mnV (List.take (2000 : Nat) zs) (0 : Int))).snd.fst = (bkN dtY dtM dtD dtH dtI (mnV (List.take (2000 : Nat) zs) (0 : Int))).snd.fst) && (decide
  ((b4Y (mnV (List.take (2000 : Nat) zs) (0 : Int)), b4M (mnV (List.take (2000 : Nat) zs) (0 : Int)), b3D (mnV (List.take (2000 : Nat) zs) (0 : Int)), b2H (mnV (List.take (2000 :
  Nat) zs) (0 : Int)), b1I (mnV (List.take (2000 : Nat) zs) (0 : Int))).snd.snd.fst = (bkN dtY dtM dtD dtH dtI (mnV (List.take (2000 : Nat) zs) (0 : Int))).snd.snd.fst) && (decide
  ((b4Y (mnV (List.take (2000 : Nat) zs) (0 : Int)), b4M (mnV (List.take (2000 : Nat) zs) (0 : Int)), b3D (mnV (List.take (2000 : Nat) zs) (0 : Int)), b2H (mnV (List.take (2000 :
  Nat) zs) (0 : Int)), b1I (mnV (List.take (2000 : Nat) zs) (0 : Int))).snd.snd.snd.fst = (bkN dtY dtM dtD dtH dtI (mnV (List.take (2000 : Nat) zs) (0 : Int))).snd.snd.snd.fst) &&
  (decide ((b4Y (mnV (List.take (2000 : Nat) zs) (0 : Int)), b4M (mnV (List.take (2000 : Nat) zs) (0 : Int)), b3D (mnV (List.take (2000 : Nat) zs) (0 : Int)), b2H (mnV (List.take
  (2000 : Nat) zs) (0 : Int)), b1I (mnV (List.take (2000 : Nat) zs) (0 : Int))).snd.snd.snd.snd = (bkN dtY dtM dtD dtH dtI (mnV (List.take (2000 : Nat) zs) (0 :
  Int))).snd.snd.snd.snd) && true)))) then True ∧ true = true else false = true else False else False
set_option maxRecDepth 100000 in
theorem lBack_P : lBack_T b1I b1H b2H b2D b3D b3M b4M b4Y inB dtY dtM dtD dtH dtI fmtC mnV mnA prsM prsV dim vldB mns dtR cumI rsV rsOk := by
  unfold lBack_T
  intro gl zs hz _
  have hs : SrcI (List.take 2000 zs) := SrcI.take hz
  generalize List.take 2000 zs = xs at *
  have h1 := mnV_in xs 0
  generalize mnV xs 0 = t at *
  have hb : inB t = true := by simpa [inB] using h1
  obtain ⟨p1, p2⟩ := prs_fmt h1
  obtain ⟨v, e⟩ := date_ok h1
  have vb := (vldB_iff _ _ _ _ _).2 v
  refine ⟨trivial, ⟨hs, by decide⟩, trivial, trivial, trivial, trivial, ?_⟩
  rw [hb]
  simp only [if_true]
  rw [vb, p1, p2, e]
  simp only [if_true]
  refine csplit (fun q => absurd q (by decide)) (fun _ => csplit (fun q => absurd q (by decide)) (fun _ => csplit (fun q => absurd q (by decide)) (fun _ => csplit (fun q => absurd q (by decide)) (fun _ => csplit (fun q => absurd q (by decide)) (fun _ => csplit (fun q => absurd q (by decide)) (fun _ => csplit (fun _ => ⟨trivial, trivial⟩) (fun hm => ?_)))))))
  have hm := of_decide_eq_false hm
  have hb2 : inB (t + 1) = true := by simp [inB]; omega
  obtain ⟨w1, w2, w3, w4, w5⟩ := back_next (t := t) (by omega)
  rw [hb2]
  simp only [if_true]
  obtain ⟨⟨y1, y2⟩, ⟨m1, m2⟩, ⟨d1, d2⟩, ⟨t1, t2⟩, ⟨i1, i2⟩⟩ := v
  have hl := len12_bd (dtY t) (k := (dtM t - 1).toNat) (by omega)
  have hd := dim_in (y := dtY t) (m := dtM t) ⟨y1, y2, m1, m2⟩
  have r3 : b3M t ≤ 13 := by unfold b3M; split <;> omega
  refine cdI (by omega) ⟨trivial, csplit (fun q => absurd q (by decide)) (fun _ => cdI (by omega) ⟨?_, fun _ _ => ⟨?_, fun _ _ => ⟨⟨trivial, ?_⟩, fun _ _ => ⟨?_, fun _ _ => ?_⟩⟩⟩⟩)⟩
  · refine csplit (fun c => cdI (by omega) ⟨(), ⟨trivial⟩, ?_⟩) (fun c => ⟨(), ⟨trivial⟩, ?_⟩)
    · have c := of_decide_eq_true c
      have e1 : dtH t + 1 = b1H t := (if_pos c).symm
      have e2 : 0 = b1I t := (if_pos c).symm
      repeat' (first | apply And.intro | exact trivial | exact rfl | exact e1 | exact e2)
    · have c := of_decide_eq_false c
      have e1 : dtH t = b1H t := (if_neg c).symm
      have e2 : dtI t + 1 = b1I t := (if_neg c).symm
      repeat' (first | apply And.intro | exact trivial | exact rfl | exact e1 | exact e2)
  · refine csplit (fun c => cdI (by omega) ⟨(), ⟨trivial⟩, ?_⟩) (fun c => ⟨(), ⟨trivial⟩, ?_⟩)
    · have c := of_decide_eq_true c
      have e1 : dtD t + 1 = b2D t := (if_pos c).symm
      have e2 : 0 = b2H t := (if_pos c).symm
      repeat' (first | apply And.intro | exact trivial | exact rfl | exact e1 | exact e2)
    · have c := of_decide_eq_false c
      have e1 : dtD t = b2D t := (if_neg c).symm
      have e2 : b1H t = b2H t := (if_neg c).symm
      repeat' (first | apply And.intro | exact trivial | exact rfl | exact e1 | exact e2)
  · have hr : -9223372036854775808 ≤ dtM t + 1 ∧ dtM t + 1 ≤ 9223372036854775807 := by omega
    have e1 : dim (dtY t) (dtM t) < b2D t → dtM t + 1 = b3M t := fun c => (if_pos c).symm
    have e2 : dim (dtY t) (dtM t) < b2D t → 1 = b3D t := fun c => (if_pos c).symm
    have f1 : ¬ dim (dtY t) (dtM t) < b2D t → dtM t = b3M t := fun c => (if_neg c).symm
    have f2 : ¬ dim (dtY t) (dtM t) < b2D t → b2D t = b3D t := fun c => (if_neg c).symm
    clear hl hd m1 m2
    generalize dtM t = M at *
    refine csplit (fun c => cdI hr ⟨(), ⟨trivial⟩, ?_⟩) (fun c => ⟨(), ⟨trivial⟩, ?_⟩)
    · have e1 := e1 (of_decide_eq_true c)
      have e2 := e2 (of_decide_eq_true c)
      repeat' (first | apply And.intro | exact trivial | exact rfl | exact e1 | exact e2)
    · have e1 := f1 (of_decide_eq_false c)
      have e2 := f2 (of_decide_eq_false c)
      repeat' (first | apply And.intro | exact trivial | exact rfl | exact e1 | exact e2)
  · refine csplit (fun c => cdI (by omega) ⟨(), ⟨trivial⟩, ?_⟩) (fun c => ⟨(), ⟨trivial⟩, ?_⟩)
    · have c := of_decide_eq_true c
      have e1 : dtY t + 1 = b4Y t := (if_pos c).symm
      have e2 : 1 = b4M t := (if_pos c).symm
      repeat' (first | apply And.intro | exact trivial | exact rfl | exact e1 | exact e2)
    · have c := of_decide_eq_false c
      have e1 : dtY t = b4Y t := (if_neg c).symm
      have e2 : b3M t = b4M t := (if_neg c).symm
      repeat' (first | apply And.intro | exact trivial | exact rfl | exact e1 | exact e2)
  · show bif (decide (b4Y t = dtY (t + 1)) && (decide (b4M t = dtM (t + 1)) && (decide (b3D t = dtD (t + 1)) && (decide (b2H t = dtH (t + 1)) && (decide (b1I t = dtI (t + 1)) && true))))) then True ∧ True else false = true
    rw [decide_eq_true w1, decide_eq_true w2, decide_eq_true w3, decide_eq_true w4, decide_eq_true w5]
    exact ⟨trivial, trivial⟩
def lBack_S (b1I : Int → Int) (b1H : Int → Int) (b2H : Int → Int) (b2D : Int → Int) (b3D : Int → Int) (b3M : Int → Int) (b4M : Int → Int) (b4Y : Int → Int) (inB : Int → Bool) (dtY : Int → Int) (dtM : Int → Int) (dtD : Int → Int) (dtH : Int → Int) (dtI : Int → Int) (fmtC : Int → ByteArray) (mnV : List (List AV) → Int → Int) (mnA : List (List AV) → Int → Int) (prsM : ByteArray → Int) (prsV : ByteArray → Bool) (dim : Int → Int → Int) (vldB : Int → Int → Int → Int → Int → Bool) (mns : Int → Int → Int → Int → Int → Int) (dtR : Int → Int) (cumI : Int → Int → Int) (rsV : Int → Int → Int → Int → Int) (rsOk : Int → Int → Int → Int → Bool) : Prop := ∀ (gl : Glob) (zs : List (List AV)), IntsA zs → fnK Try.prog { glob := gl, spec := lk [(19, (cDate_s inB dtY dtM dtD dtH dtI dtR cumI)), (12, (cMinutes_s vldB mns)), (22, (cFormat_s inB fmtC)), (23, (cParse_s prsM prsV)), (16, (cDays_s dim)), (21, (cAwake_s fmtC inB prsM prsV rsV rsOk))], specH := lk [(10, newsrc_s), (18, (lMinute_s mnV mnA))], nowf := true } { nt := 120, drop := drp [(1, 49152), (2, 196608), (3, 8126464), (4, 260046848), (5, 8321499136), (6, 266287972352), (7, 2305842734335787008), (9, 4611686018427387904), (10, 18446744073709551616), (11, 2324289753287403503616), (12, 2361183241434822606848), (14, 141670994486089356410880), (15, 453347182355485940514816), (16, 37476700408053504415891456), (17, 116056878683004400771792896), (18, 9594035304461697130468212736), (19, 1257747079913946359297510211584), (20, 78594337214150222892795598733312), (21, 243388915243820045087367015432192), (22, 20120150326822457060555673275727872), (23, 1308458808350776562389685074963464192)], tys := [23] } (invs [(100017, bkI (dtY (mnV (zs.take 2000) 0), dtM (mnV (zs.take 2000) 0), dtD (mnV (zs.take 2000) 0), b1H (mnV (zs.take 2000) 0), b1I (mnV (zs.take 2000) 0)) (bkN dtY dtM dtD dtH dtI (mnV (zs.take 2000) 0))), (100019, bkI (dtY (mnV (zs.take 2000) 0), dtM (mnV (zs.take 2000) 0), b2D (mnV (zs.take 2000) 0), b2H (mnV (zs.take 2000) 0), b1I (mnV (zs.take 2000) 0)) (bkN dtY dtM dtD dtH dtI (mnV (zs.take 2000) 0))), (100021, bkI (dtY (mnV (zs.take 2000) 0), b3M (mnV (zs.take 2000) 0), b3D (mnV (zs.take 2000) 0), b2H (mnV (zs.take 2000) 0), b1I (mnV (zs.take 2000) 0)) (bkN dtY dtM dtD dtH dtI (mnV (zs.take 2000) 0))), (100023, bkI (b4Y (mnV (zs.take 2000) 0), b4M (mnV (zs.take 2000) 0), b3D (mnV (zs.take 2000) 0), b2H (mnV (zs.take 2000) 0), b1I (mnV (zs.take 2000) 0)) (bkN dtY dtM dtD dtH dtI (mnV (zs.take 2000) 0)))]) 6 Try.f4 [.sl 1 false zs] (.bool true)
set_option maxRecDepth 100000 in
theorem lBack_e (b1I : Int → Int) (b1H : Int → Int) (b2H : Int → Int) (b2D : Int → Int) (b3D : Int → Int) (b3M : Int → Int) (b4M : Int → Int) (b4Y : Int → Int) (inB : Int → Bool) (dtY : Int → Int) (dtM : Int → Int) (dtD : Int → Int) (dtH : Int → Int) (dtI : Int → Int) (fmtC : Int → ByteArray) (mnV : List (List AV) → Int → Int) (mnA : List (List AV) → Int → Int) (prsM : ByteArray → Int) (prsV : ByteArray → Bool) (dim : Int → Int → Int) (vldB : Int → Int → Int → Int → Int → Bool) (mns : Int → Int → Int → Int → Int → Int) (dtR : Int → Int) (cumI : Int → Int → Int) (rsV : Int → Int → Int → Int → Int) (rsOk : Int → Int → Int → Int → Bool) : lBack_T b1I b1H b2H b2D b3D b3M b4M b4Y inB dtY dtM dtD dtH dtI fmtC mnV mnA prsM prsV dim vldB mns dtR cumI rsV rsOk = lBack_S b1I b1H b2H b2D b3D b3M b4M b4Y inB dtY dtM dtD dtH dtI fmtC mnV mnA prsM prsV dim vldB mns dtR cumI rsV rsOk := by kernel_rfl
theorem lBack_v : lBack_S b1I b1H b2H b2D b3D b3M b4M b4Y inB dtY dtM dtD dtH dtI fmtC mnV mnA prsM prsV dim vldB mns dtR cumI rsV rsOk := @Eq.mp (lBack_T b1I b1H b2H b2D b3D b3M b4M b4Y inB dtY dtM dtD dtH dtI fmtC mnV mnA prsM prsV dim vldB mns dtR cumI rsV rsOk) (lBack_S b1I b1H b2H b2D b3D b3M b4M b4Y inB dtY dtM dtD dtH dtI fmtC mnV mnA prsM prsV dim vldB mns dtR cumI rsV rsOk) (lBack_e b1I b1H b2H b2D b3D b3M b4M b4Y inB dtY dtM dtD dtH dtI fmtC mnV mnA prsM prsV dim vldB mns dtR cumI rsV rsOk) lBack_P
theorem lBack_ok (gl : Glob) : SOK Try.prog gl 4 (lBack_s b1I b1H b2H b2D b3D b3M b4M b4Y inB dtY dtM dtD dtH dtI fmtC mnV mnA prsM prsV dim vldB mns) := by
  refine ⟨fok Try.func4 (by kernel_rfl) (by kernel_rfl), ?_⟩
  intro xs pre r h hp
  unfold lBack_s at h
  split at h
  · simp only [Option.some.injEq, Prod.mk.injEq] at h
    obtain ⟨h1, h2⟩ := h
    subst h1 h2
    exact fnK_sound (tyOf (by kernel_rfl)) (by exact specOK rfl rfl ⟨cDate_ok gl, cMinutes_ok gl, cFormat_ok gl, cParse_ok gl, cDays_ok gl, cAwake_ok gl, trivial⟩ ⟨newsrc_ok gl, lMinute_ok gl, trivial⟩) (by kernel_rfl) Try.func4 rfl (lBack_v gl _ hp)
  · cases h
end Go.Proofs.Ytakmploakbaglaa
