/- The clock: the law of days. -/
import Derived.Test.YtakmploakbaglaaClG
namespace Go.Proofs.Ytakmploakbaglaa
open Go
set_option linter.unusedVariables false
set_option linter.unusedSimpArgs false

theorem modZ_in (x : Int) {n : Int} (hn : 1 ≤ n) : 0 ≤ modZ x n ∧ modZ x n < n := by
  unfold modZ; rw [if_neg (by omega)]; exact ⟨Int.emod_nonneg _ (by omega), Int.emod_lt_of_pos _ (by omega)⟩
structure DysP (y : Int) (x : Int × Int) : Prop where
  lo : 1 ≤ x.2
  hi : x.2 ≤ 13
  eq : x.1 = cum y (x.2 - 1).toNat
def dysI (y m : Int) : LInv := ⟨Int × Int, fun (s, k) => ⟨[(4, .bool false), (5, .int .i64 y), (6, .int .i64 m), (7, .int .i64 s), (8, .int .i64 k)], []⟩, DysP y, fun (s, k) => (13 - k).toNat, none⟩
def dysC (y m s : Int) : LInv := ⟨Unit, fun _ => ⟨[(4, .bool false), (5, .int .i64 y), (6, .int .i64 m), (7, .int .i64 s)], []⟩, OneP, fun _ => 0, none⟩
def lDays_s (lp : Int → Int) (dim : Int → Int → Int) (vldB : Int → Int → Int → Int → Int → Bool) (mns : Int → Int → Int → Int → Int → Int) : Sp
  | [.int .i64 y0, .int .i64 m0] => some (True, .bool true)
  | _ => none
set_option maxRecDepth 100000 in
def lDays_T (lp : Int → Int) (dim : Int → Int → Int) (vldB : Int → Int → Int → Int → Int → Bool) (mns : Int → Int → Int → Int → Int → Int) (fmtC : Int → ByteArray) (inB : Int → Bool) (prsM : ByteArray → Int) (prsV : ByteArray → Bool) (rsV : Int → Int → Int → Int → Int) (rsOk : Int → Int → Int → Int → Bool) : Prop :=
  ∀ (gl : Glob) (y0 m0 : Int), (-9223372036854775808 : Int) ≤ y0 ∧ y0 ≤ (9223372036854775807 : Int) → (-9223372036854775808 : Int) ≤ m0 ∧ m0 ≤ (9223372036854775807 : Int) → True ∧
  bif decide (rng IntKind.i64 ((2000 : Int) + modZ y0 (100 : Int))) then True ∧ bif decide (rng IntKind.i64 ((1 : Int) + modZ m0 (12 : Int))) then (∃ x, DysP ((2000 : Int) + modZ y0
  (100 : Int)) x ∧ (false = false ∧ (2000 : Int) + modZ y0 (100 : Int) = (2000 : Int) + modZ y0 (100 : Int) ∧ (1 : Int) + modZ m0 (12 : Int) = (1 : Int) + modZ m0 (12 : Int) ∧ (0 :
  Int) = x.1 ∧ (1 : Int) = x.2 ∧ True) ∧ True) ∧ ∀ (x : Int × Int), DysP ((2000 : Int) + modZ y0 (100 : Int)) x → bif decide (x.2 ≤ (12 : Int)) then True ∧ bif decide (rng
  IntKind.i64 (x.1 + dim ((2000 : Int) + modZ y0 (100 : Int)) x.2)) then bif decide (rng IntKind.i64 (x.2 + (1 : Int))) then ∃ y, DysP ((2000 : Int) + modZ y0 (100 : Int)) y ∧ (dysI
  ((2000 : Int) + modZ y0 (100 : Int)) ((1 : Int) + modZ m0 (12 : Int))).m y < (dysI ((2000 : Int) + modZ y0 (100 : Int)) ((1 : Int) + modZ m0 (12 : Int))).m x ∧ (false = false ∧
  (2000 : Int) + modZ y0 (100 : Int) = (2000 : Int) + modZ y0 (100 : Int) ∧ (1 : Int) + modZ m0 (12 : Int) = (1 : Int) + modZ m0 (12 : Int) ∧ x.1 + dim ((2000 : Int) + modZ y0 (100 :
  Int)) x.2 = y.1 ∧ x.2 + (1 : Int) = y.2 ∧ True) ∧ True else False else False else (bif decide (((2000 : Int) + modZ y0 (100 : Int)).tmod (4 : Int) = (0 : Int)) then bif decide ¬x.1
  = (366 : Int) then false = true else bif decide ¬((2000 : Int) + modZ y0 (100 : Int)).tmod (4 : Int) = (0 : Int) then bif decide ¬x.1 = (365 : Int) then false = true else ∃ x_1,
  OneP x_1 ∧ (false = false ∧ (2000 : Int) + modZ y0 (100 : Int) = (2000 : Int) + modZ y0 (100 : Int) ∧ (1 : Int) + modZ m0 (12 : Int) = (1 : Int) + modZ m0 (12 : Int) ∧ x.1 = (365 :
  Int) + lp ((2000 : Int) + modZ y0 (100 : Int)) ∧ True) ∧ True else ∃ x_1, OneP x_1 ∧ (false = false ∧ (2000 : Int) + modZ y0 (100 : Int) = (2000 : Int) + modZ y0 (100 : Int) ∧ (1 :
  Int) + modZ m0 (12 : Int) = (1 : Int) + modZ m0 (12 : Int) ∧ x.1 = (365 : Int) + lp ((2000 : Int) + modZ y0 (100 : Int)) ∧ True) ∧ True else bif decide ¬((2000 : Int) + modZ y0
  (100 : Int)).tmod (4 : Int) = (0 : Int) then bif decide ¬x.1 = (365 : Int) then false = true else ∃ x_1, OneP x_1 ∧ (false = false ∧ (2000 : Int) + modZ y0 (100 : Int) = (2000 :
  Int) + modZ y0 (100 : Int) ∧ (1 : Int) + modZ m0 (12 : Int) = (1 : Int) + modZ m0 (12 : Int) ∧ x.1 = (365 : Int) + lp ((2000 : Int) + modZ y0 (100 : Int)) ∧ True) ∧ True else ∃
  x_1, OneP x_1 ∧ (false = false ∧ (2000 : Int) + modZ y0 (100 : Int) = (2000 : Int) + modZ y0 (100 : Int) ∧ (1 : Int) + modZ m0 (12 : Int) = (1 : Int) + modZ m0 (12 : Int) ∧ x.1 =
  (365 : Int) + lp ((2000 : Int) + modZ y0 (100 : Int)) ∧ True) ∧ True) ∧ ∀ (x : PUnit), OneP x → True ∧ True ∧ True ∧ True ∧ bif decide (rng IntKind.i64 (dim ((2000 : Int) + modZ y0
  (100 : Int)) ((1 : Int) + modZ m0 (12 : Int)) + (1 : Int))) then True ∧ True ∧ True ∧ bif decide ((if vldB ((2000 : Int) + modZ y0 (100 : Int)) ((1 : Int) + modZ m0 (12 : Int)) (1
  : Int) (0 : Int) (0 : Int) = true then (0 : Int) else (1 : Int)) = (0 : Int)) then bif decide ((if vldB ((2000 : Int) + modZ y0 (100 : Int)) ((1 : Int) + modZ m0 (12 : Int)) (dim
  ((2000 : Int) + modZ y0 (100 : Int)) ((1 : Int) + modZ m0 (12 : Int))) (0 : Int) (0 : Int) = true then (0 : Int) else (1 : Int)) = (0 : Int)) then bif decide ((if vldB ((2000 :
  Int) + modZ y0 (100 : Int)) ((1 : Int) + modZ m0 (12 : Int)) (dim ((2000 : Int) + modZ y0 (100 : Int)) ((1 : Int) + modZ m0 (12 : Int)) + (1 : Int)) (0 : Int) (0 : Int) = true then
  (0 : Int) else (1 : Int)) = (1 : Int)) then bif decide ((if vldB ((2000 : Int) + modZ y0 (100 : Int)) (1 : Int) (1 : Int) (0 : Int) (0 : Int) = true then (0 : Int) else (1 : Int))
  = (0 : Int)) then bif decide ((if vldB ((2000 : Int) + modZ y0 (100 : Int)) (12 : Int) (31 : Int) (0 : Int) (0 : Int) = true then (0 : Int) else (1 : Int)) = (0 : Int)) then bif
  decide (rng IntKind.i64 ((if vldB ((2000 : Int) + modZ y0 (100 : Int)) ((1 : Int) + modZ m0 (12 : Int)) (dim ((2000 : Int) + modZ y0 (100 : Int)) ((1 : Int) + modZ m0 (12 : Int)))
  (0 : Int) (0 : Int) = true then mns ((2000 : Int) + modZ y0 (100 : Int)) ((1 : Int) + modZ m0 (12 : Int)) (dim ((2000 : Int) + modZ y0 (100 : Int)) ((1 : Int) + modZ m0 (12 :
  Int))) (0 : Int) (0 : Int) else (0 : Int)) - if vldB ((2000 : Int) + modZ y0 (100 : Int)) ((1 : Int) + modZ m0 (12 : Int)) (1 : Int) (0 : Int) (0 : Int) = true then mns ((2000 :
  Int) + modZ y0 (100 : Int)) ((1 : Int) + modZ m0 (12 : Int)) (1 : Int) (0 : Int) (0 : Int) else (0 : Int))) then True ∧ bif decide (rng IntKind.i64 (dim ((2000 : Int) + modZ y0
  (100 : Int)) ((1 : Int) + modZ m0 (12 : Int)) - (1 : Int))) then bif decide (rng IntKind.i64 ((1440 : Int) * (dim ((2000 : Int) + modZ y0 (100 : Int)) ((1 : Int) + modZ m0 (12 :
  Int)) - (1 : Int)))) then bif decide (((if vldB ((2000 : Int) + modZ y0 (100 : Int)) ((1 : Int) + modZ m0 (12 : Int)) (dim ((2000 : Int) + modZ y0 (100 : Int)) ((1 : Int) + modZ m0
  (12 : Int))) (0 : Int) (0 : Int) = true then mns ((2000 : Int) + modZ y0 (100 : Int)) ((1 : Int) + modZ m0 (12 : Int)) (dim ((2000 : Int) + modZ y0 (100 : Int)) ((1 : Int) + modZ
  m0 (12 : Int))) (0 : Int) (0 : Int) else (0 : Int)) - if vldB ((2000 : Int) + modZ y0 (100 : Int)) ((1 : Int) + modZ m0 (12 : Int)) (1 : Int) (0 : Int) (0 : Int) = true then mns
  ((2000 : Int) + modZ y0 (100 : Int)) ((1 : Int) + modZ m0 (12 : Int)) (1 : Int) (0 : Int) (0 : Int) else (0 : Int)) = (1440 : Int) * (dim ((2000 : Int) + modZ y0 (100 : Int)) ((1 :
  Int) + modZ m0 (12 : Int)) - (1 : Int))) then bif decide (rng IntKind.i64 ((if vldB ((2000 : Int) + modZ y0 (100 : Int)) (12 : Int) (31 : Int) (0 : Int) (0 : Int) = true then mns
  ((2000 : Int) + modZ y0 (100 : Int)) (12 : Int) (31 : Int) (0 : Int) (0 : Int) else (0 : Int)) - if vldB ((2000 : Int) + modZ y0 (100 : Int)) (1 : Int) (1 : Int) (0 : Int) (0 :
  Int) = true then mns ((2000 : Int) + modZ y0 (100 : Int)) (1 : Int) (1 : Int) (0 : Int) (0 : Int) else (0 : Int))) then bif decide (rng IntKind.i64 ((365 : Int) + lp ((2000 : Int)
  + modZ y0 (100 : Int)) - (1 : Int))) then bif decide (rng IntKind.i64 ((1440 : Int) * ((365 : Int) + lp ((2000 : Int) + modZ y0 (100 : Int)) - (1 : Int)))) then bif decide (((if
  vldB ((2000 : Int) + modZ y0 (100 : Int)) (12 : Int) (31 : Int) (0 : Int) (0 : Int) = true then mns ((2000 : Int) + modZ y0 (100 : Int)) (12 : Int) (31 : Int) (0 : Int) (0 : Int)
  else (0 : Int)) - if vldB ((2000 : Int) + modZ y0 (100 : Int)) (1 : Int) (1 : Int) (0 : Int) (0 : Int) = true then mns ((2000 : Int) + modZ y0 (100 : Int)) (1 : Int) (1 : Int) (0 :
  Int) (0 : Int) else (0 : Int)) = (1440 : Int) * ((365 : Int) + lp ((2000 : Int) + modZ y0 (100 : Int)) - (1 : Int))) then True ∧ true = true else false = true else False else False
  else False else false = true else False else False else False else false = true else false = true else false = true else false = true else false = true else False else False else
  False
set_option maxRecDepth 100000 in
theorem lDays_P : lDays_T lp dim vldB mns fmtC inB prsM prsV rsV rsOk := by
  unfold lDays_T
  intro gl y0 m0 _ _
  have hy := modZ_in y0 (n := 100) (by decide)
  have hm := modZ_in m0 (n := 12) (by decide)
  refine ⟨trivial, cdI (by omega) ⟨trivial, cdI (by omega) ?_⟩⟩
  generalize hY : 2000 + modZ y0 100 = Y
  generalize hM : 1 + modZ m0 12 = M
  have y1 : 2000 ≤ Y ∧ Y ≤ 2099 := by omega
  have m1 : 1 ≤ M ∧ M ≤ 12 := by omega
  have hl := lp01 Y
  refine ⟨⟨(0, 1), ⟨by decide, by decide, rfl⟩, ?_⟩, ?_⟩
  · repeat' (first | apply And.intro | exact trivial | exact rfl)
  · rintro ⟨s, k⟩ ⟨k1, k2, hs⟩
    simp only at k1 k2 hs
    refine csplit (fun hle => ?_) (fun hle => ?_)
    · have hle : k ≤ 12 := of_decide_eq_true hle
      have hc := cum_bd Y (k := (k - 1).toNat) (by omega)
      have hd := dim_in (y := Y) (m := k) ⟨y1.1, y1.2, k1, hle⟩
      have hb := dim_bd Y k
      have e1 : (k + 1 - 1).toNat = (k - 1).toNat + 1 := by omega
      refine ⟨trivial, cdI (by simp only; omega) (cdI (by simp only; omega) ⟨(s + dim Y k, k + 1), ⟨by simp only; omega, by simp only; omega, ?_⟩, by simp only [dysI]; omega, ?_⟩)⟩
      · simp only [e1, cum]; rw [← hd]; omega
      · repeat' (first | apply And.intro | exact trivial | exact rfl)
    · have hle : ¬ k ≤ 12 := of_decide_eq_false hle
      have hk : (k - 1).toNat = 12 := by omega
      rw [hk, cum12] at hs
      have e4 := tmod4 Y
      have q : s = 365 + lp Y := hs
      have hl4 : lp Y = if Y % 4 = 0 then 1 else 0 := rfl
      refine ⟨?_, fun _ _ => ?_⟩
      · refine csplit (fun h4 => csplit (fun h5 => ?_) (fun h5 => ?_)) (fun h4 => ?_)
        · have h4 := e4.1 (of_decide_eq_true h4)
          rw [if_pos h4] at hl4
          have h5 : ¬ s = 366 := of_decide_eq_true h5
          omega
        · have h4 := e4.1 (of_decide_eq_true h4)
          rw [if_pos h4] at hl4
          refine csplit (fun h6 => absurd (e4.2 h4) (of_decide_eq_true h6)) (fun h6 => ⟨(), ⟨trivial⟩, ?_⟩)
          repeat' (first | apply And.intro | exact trivial | exact rfl | exact q)
        · have h4 := fun z => (of_decide_eq_false h4) (e4.2 z)
          rw [if_neg h4] at hl4
          refine csplit (fun h6 => csplit (fun h7 => ?_) (fun h7 => ⟨(), ⟨trivial⟩, ?_⟩)) (fun h6 => ⟨(), ⟨trivial⟩, ?_⟩)
          · have h7 : ¬ s = 365 := of_decide_eq_true h7
            omega
          · repeat' (first | apply And.intro | exact trivial | exact rfl | exact q)
          · repeat' (first | apply And.intro | exact trivial | exact rfl | exact q)
      · have hd := dim_in (y := Y) (m := M) ⟨y1.1, y1.2, m1⟩
        have hb := len12_bd Y (k := (M - 1).toNat) (by omega)
        have v1 : VldC Y M 1 0 0 := ⟨y1, m1, ⟨by decide, by omega⟩, by decide, by decide⟩
        have v2 : VldC Y M (dim Y M) 0 0 := ⟨y1, m1, ⟨by omega, by omega⟩, by decide, by decide⟩
        have v3 : VldC Y 1 1 0 0 := ⟨y1, by decide, ⟨by decide, Int.le_trans (by decide) (len12_bd Y (k := 0) (by decide)).1⟩, by decide, by decide⟩
        have v4 : VldC Y 12 31 0 0 := ⟨y1, by decide, ⟨by decide, Int.le_refl _⟩, by decide, by decide⟩
        have b1 := (vldB_iff _ _ _ _ _).2 v1
        have b2 := (vldB_iff _ _ _ _ _).2 v2
        have b3 := (vldB_iff _ _ _ _ _).2 v3
        have b4 := (vldB_iff _ _ _ _ _).2 v4
        have b5 : vldB Y M (dim Y M + 1) 0 0 = false := by
          cases h : vldB Y M (dim Y M + 1) 0 0 with
          | false => rfl
          | true => have := ((vldB_iff _ _ _ _ _).1 h).dy; omega
        have w1 := mns_in v1
        have w2 := mns_in v2
        have w3 := mns_in v3
        have w4 := mns_in v4
        have e1 : mns Y M (dim Y M) 0 0 - mns Y M 1 0 0 = 1440 * (dim Y M - 1) := by unfold mns; omega
        have e2 : mns Y 12 31 0 0 - mns Y 1 1 0 0 = 1440 * (365 + lp Y - 1) := by
          have c := cum12 Y
          have c1 : cum Y 12 = cum Y 11 + 31 := rfl
          have c2 : (12 - 1 : Int).toNat = 11 := rfl
          have c3 : (1 - 1 : Int).toNat = 0 := rfl
          have c4 : cum Y 0 = 0 := rfl
          unfold mns; rw [c2, c3, c4]; omega
        rw [b1, b2, b3, b4, b5]
        simp only [if_true]
        exact ⟨trivial, trivial, trivial, trivial, cdI (by omega) ⟨trivial, trivial, trivial, cd1 trivial (cd1 trivial (cd1 rfl (cd1 trivial (cd1 trivial (cdI (by omega) ⟨trivial, cdI (by omega) (cdI (by omega) (cd1 e1 (cdI (by omega) (cdI (by omega) (cdI (by omega) (cd1 e2 ⟨trivial, trivial⟩))))))⟩)))))⟩⟩
def lDays_S (lp : Int → Int) (dim : Int → Int → Int) (vldB : Int → Int → Int → Int → Int → Bool) (mns : Int → Int → Int → Int → Int → Int) (fmtC : Int → ByteArray) (inB : Int → Bool) (prsM : ByteArray → Int) (prsV : ByteArray → Bool) (rsV : Int → Int → Int → Int → Int) (rsOk : Int → Int → Int → Int → Bool) : Prop := ∀ (gl : Glob) (y0 m0 : Int), fnK Try.prog { glob := gl, spec := lk [(25, mod_s), (16, (cDays_s dim)), (12, (cMinutes_s vldB mns)), (21, (cAwake_s fmtC inB prsM prsV rsV rsOk))], specH := lk [], shape := [26], nowf := true } { nt := 131, drop := drp [(1, 33030144), (4, 33554432), (5, 402653184), (6, 16642998272), (7, 562932773552128), (9, 142989288169013248), (10, 147429837401600557056), (11, 302083880951067617263616), (12, 19040581658930409501622272), (13, 1218597226171546208103825408), (14, 2722258935366269767667711479179246567424)] } (invs [(4, dysI (2000 + modZ y0 100) (1 + modZ m0 12)), (100009, dysC (2000 + modZ y0 100) (1 + modZ m0 12) (365 + lp (2000 + modZ y0 100)))]) 6 Try.f8 [.int .i64 y0, .int .i64 m0] (.bool true)
set_option maxRecDepth 100000 in
theorem lDays_e (lp : Int → Int) (dim : Int → Int → Int) (vldB : Int → Int → Int → Int → Int → Bool) (mns : Int → Int → Int → Int → Int → Int) (fmtC : Int → ByteArray) (inB : Int → Bool) (prsM : ByteArray → Int) (prsV : ByteArray → Bool) (rsV : Int → Int → Int → Int → Int) (rsOk : Int → Int → Int → Int → Bool) : lDays_T lp dim vldB mns fmtC inB prsM prsV rsV rsOk = lDays_S lp dim vldB mns fmtC inB prsM prsV rsV rsOk := by kernel_rfl
theorem lDays_v : lDays_S lp dim vldB mns fmtC inB prsM prsV rsV rsOk := @Eq.mp (lDays_T lp dim vldB mns fmtC inB prsM prsV rsV rsOk) (lDays_S lp dim vldB mns fmtC inB prsM prsV rsV rsOk) (lDays_e lp dim vldB mns fmtC inB prsM prsV rsV rsOk) lDays_P
theorem lDays_ok (gl : Glob) : SOK Try.prog gl 8 (lDays_s lp dim vldB mns) := by
  refine ⟨fok Try.func8 (by kernel_rfl) (by kernel_rfl), ?_⟩
  intro xs pre r h hp
  unfold lDays_s at h
  split at h
  · simp only [Option.some.injEq, Prod.mk.injEq] at h
    obtain ⟨h1, h2⟩ := h
    subst h1 h2
    exact fnK_sound tyNil (by exact specOK rfl rfl ⟨mod_ok gl, cDays_ok gl, cMinutes_ok gl, cAwake_ok gl, trivial⟩ trivial) (by kernel_rfl) Try.func8 rfl (lDays_v gl _ _)
  · cases h
end Go.Proofs.Ytakmploakbaglaa
