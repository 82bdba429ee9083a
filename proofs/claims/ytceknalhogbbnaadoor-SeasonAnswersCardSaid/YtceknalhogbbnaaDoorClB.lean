/- The clock: the date of a minute. -/
import Derived.Test.YtceknalhogbbnaaDoorClA
namespace Go.Proofs.YtceknalhogbbnaaDoor
open Go
set_option linter.unusedVariables false
set_option linter.unusedSimpArgs false

structure DatP (t y : Int) : Prop where
  lo : 2000 ≤ y
  hi : y ≤ 2099
  le : fst' y ≤ t
def datI (t : Int) : LInv := ⟨Int, fun y => ⟨[(0, .int .i64 t), (2, .ptr 2 0), (3, .int .i64 0), (4, .ptr 4 0)], [(2, .cells [.int .i64 0, .int .i64 0, .int .i64 0, .int .i64 0, .int .i64 0]), (4, .cells [.int .i64 y, .int .i64 1, .int .i64 0, .int .i64 0, .int .i64 0])]⟩,
  DatP t, fun y => (2100 - y).toNat, none⟩
structure DatQ (y r k : Int) : Prop where
  lo : 0 ≤ k
  hi : k ≤ 12
  le : cum y k.toNat ≤ r
def datJ (y r lpy : Int) (cumy : Int → Int) : LInv := ⟨Int, fun k => ⟨[(2, .ptr 2 0), (3, .int .i64 0), (4, .ptr 4 0), (5, .int .i64 r), (6, .int .i64 (r / 1440 - cumy k)), (33, .agg [.int .i64 31, .int .i64 (28 + lpy), .int .i64 31, .int .i64 30, .int .i64 31, .int .i64 30, .int .i64 31, .int .i64 31, .int .i64 30, .int .i64 31, .int .i64 30, .int .i64 31]), (34, .int .i64 k)],
   [(2, .cells [.int .i64 0, .int .i64 0, .int .i64 0, .int .i64 0, .int .i64 0]), (4, .cells [.int .i64 y, .int .i64 (k + 1), .int .i64 0, .int .i64 0, .int .i64 0])]⟩,
  DatQ y (r / 1440), fun k => (12 - k).toNat, none⟩
def cumI (y k : Int) : Int := cum y k.toNat
def cDate_s (inB : Int → Bool) (dtY : Int → Int) (dtM : Int → Int) (dtD : Int → Int) (dtH : Int → Int) (dtI : Int → Int) (dtR : Int → Int) (cumI : Int → Int → Int) : Sp
  | [.int .i64 t] => some (True, .tup [.agg [.int .i64 (if inB t then dtY t else 0), .int .i64 (if inB t then dtM t else 0), .int .i64 (if inB t then dtD t else 0), .int .i64 (if inB t then dtH t else 0), .int .i64 (if inB t then dtI t else 0)], .int .i64 (if inB t then 0 else 1)])
  | _ => none
set_option maxRecDepth 100000 in
def cDate_T (inB : Int → Bool) (dtY : Int → Int) (dtM : Int → Int) (dtD : Int → Int) (dtH : Int → Int) (dtI : Int → Int) (dtR : Int → Int) (cumI : Int → Int → Int) (fst' : Int → Int) (lp : Int → Int) : Prop :=
  ∀ (gl : Glob) (t : Int), (-9223372036854775808 : Int) ≤ t ∧ t ≤ (9223372036854775807 : Int) → True ∧ bif !inB t then (((0 : Int) = if inB t = true then dtY t else (0 : Int)) ∧ ((0
  : Int) = if inB t = true then dtM t else (0 : Int)) ∧ ((0 : Int) = if inB t = true then dtD t else (0 : Int)) ∧ ((0 : Int) = if inB t = true then dtH t else (0 : Int)) ∧ ((0 : Int)
  = if inB t = true then dtI t else (0 : Int)) ∧ True) ∧ ((1 : Int) = if inB t = true then (0 : Int) else (1 : Int)) ∧ True else (∃ x, DatP t x ∧ (t = t ∧ (0 : Nat) = (0 : Nat) ∧ (0
  : Int) = (0 : Int) ∧ (0 : Nat) = (0 : Nat) ∧ True) ∧ ((0 : Int) = (0 : Int) ∧ (0 : Int) = (0 : Int) ∧ (0 : Int) = (0 : Int) ∧ (0 : Int) = (0 : Int) ∧ (0 : Int) = (0 : Int) ∧ True)
  ∧ ((2000 : Int) = x ∧ (1 : Int) = (1 : Int) ∧ (0 : Int) = (0 : Int) ∧ (0 : Int) = (0 : Int) ∧ (0 : Int) = (0 : Int) ∧ True) ∧ True) ∧ ∀ (x : Int), DatP t x → bif decide (rng
  IntKind.i64 (x + (1 : Int))) then YrR (x + (1 : Int)) ∧ bif decide (fst' (x + (1 : Int)) ≤ t) then bif decide (rng IntKind.i64 (x + (1 : Int))) then ∃ y, DatP t y ∧ (datI t).m y <
  (datI t).m x ∧ (t = t ∧ (0 : Nat) = (0 : Nat) ∧ (0 : Int) = (0 : Int) ∧ (0 : Nat) = (0 : Nat) ∧ True) ∧ ((0 : Int) = (0 : Int) ∧ (0 : Int) = (0 : Int) ∧ (0 : Int) = (0 : Int) ∧ (0
  : Int) = (0 : Int) ∧ (0 : Int) = (0 : Int) ∧ True) ∧ (x + (1 : Int) = y ∧ (1 : Int) = (1 : Int) ∧ (0 : Int) = (0 : Int) ∧ (0 : Int) = (0 : Int) ∧ (0 : Int) = (0 : Int) ∧ True) ∧
  True else False else YrR x ∧ bif decide (rng IntKind.i64 (t - fst' x)) then bif decide (rng IntKind.i64 ((t - fst' x).tdiv (1440 : Int))) then True ∧ (∃ x_1, DatQ (dtY t) (dtR t /
  (1440 : Int)) x_1 ∧ ((0 : Nat) = (0 : Nat) ∧ (0 : Int) = (0 : Int) ∧ (0 : Nat) = (0 : Nat) ∧ t - fst' x = dtR t ∧ (t - fst' x).tdiv (1440 : Int) = dtR t / (1440 : Int) - cumI (dtY
  t) x_1 ∧ ((31 : Int) = (31 : Int) ∧ (28 : Int) + lp x = (28 : Int) + lp (dtY t) ∧ (31 : Int) = (31 : Int) ∧ (30 : Int) = (30 : Int) ∧ (31 : Int) = (31 : Int) ∧ (30 : Int) = (30 :
  Int) ∧ (31 : Int) = (31 : Int) ∧ (31 : Int) = (31 : Int) ∧ (30 : Int) = (30 : Int) ∧ (31 : Int) = (31 : Int) ∧ (30 : Int) = (30 : Int) ∧ (31 : Int) = (31 : Int) ∧ True) ∧ (0 : Int)
  = x_1 ∧ True) ∧ ((0 : Int) = (0 : Int) ∧ (0 : Int) = (0 : Int) ∧ (0 : Int) = (0 : Int) ∧ (0 : Int) = (0 : Int) ∧ (0 : Int) = (0 : Int) ∧ True) ∧ (x = dtY t ∧ (1 : Int) = x_1 + (1 :
  Int) ∧ (0 : Int) = (0 : Int) ∧ (0 : Int) = (0 : Int) ∧ (0 : Int) = (0 : Int) ∧ True) ∧ True) ∧ ∀ (x : Int), DatQ (dtY t) (dtR t / (1440 : Int)) x → bif decide (x < (12 : Int)) then
  bif decide ((0 : Int) ≤ x ∧ x < (12 : Int)) then ∃ n, List.take [AV.int IntKind.i64 n].length (List.drop (x.toNat * (1 : Nat)) [AV.int IntKind.i64 (31 : Int), AV.int IntKind.i64
  ((28 : Int) + lp (dtY t)), AV.int IntKind.i64 (31 : Int), AV.int IntKind.i64 (30 : Int), AV.int IntKind.i64 (31 : Int), AV.int IntKind.i64 (30 : Int), AV.int IntKind.i64 (31 :
  Int), AV.int IntKind.i64 (31 : Int), AV.int IntKind.i64 (30 : Int), AV.int IntKind.i64 (31 : Int), AV.int IntKind.i64 (30 : Int), AV.int IntKind.i64 (31 : Int)]) = [AV.int
  IntKind.i64 n] ∧ bif decide (dtR t / (1440 : Int) - cumI (dtY t) x < n) then bif decide (rng IntKind.i64 (dtR t / (1440 : Int) - cumI (dtY t) x + (1 : Int))) then bif decide (rng
  IntKind.i64 (((dtR t).tmod (1440 : Int)).tdiv (60 : Int))) then ((dtY t = if inB t = true then dtY t else (0 : Int)) ∧ (x + (1 : Int) = if inB t = true then dtM t else (0 : Int)) ∧
  (dtR t / (1440 : Int) - cumI (dtY t) x + (1 : Int) = if inB t = true then dtD t else (0 : Int)) ∧ (((dtR t).tmod (1440 : Int)).tdiv (60 : Int) = if inB t = true then dtH t else (0
  : Int)) ∧ ((dtR t).tmod (60 : Int) = if inB t = true then dtI t else (0 : Int)) ∧ True) ∧ ((0 : Int) = if inB t = true then (0 : Int) else (1 : Int)) ∧ True else False else False
  else bif decide (rng IntKind.i64 (dtR t / (1440 : Int) - cumI (dtY t) x - n)) then bif decide (rng IntKind.i64 (x + (1 : Int) + (1 : Int))) then bif decide (rng IntKind.i64 (x + (1
  : Int))) then ∃ y, DatQ (dtY t) (dtR t / (1440 : Int)) y ∧ (datJ (dtY t) (dtR t) (lp (dtY t)) (cumI (dtY t))).m y < (datJ (dtY t) (dtR t) (lp (dtY t)) (cumI (dtY t))).m x ∧ ((0 :
  Nat) = (0 : Nat) ∧ (0 : Int) = (0 : Int) ∧ (0 : Nat) = (0 : Nat) ∧ dtR t = dtR t ∧ dtR t / (1440 : Int) - cumI (dtY t) x - n = dtR t / (1440 : Int) - cumI (dtY t) y ∧ ((31 : Int) =
  (31 : Int) ∧ (28 : Int) + lp (dtY t) = (28 : Int) + lp (dtY t) ∧ (31 : Int) = (31 : Int) ∧ (30 : Int) = (30 : Int) ∧ (31 : Int) = (31 : Int) ∧ (30 : Int) = (30 : Int) ∧ (31 : Int)
  = (31 : Int) ∧ (31 : Int) = (31 : Int) ∧ (30 : Int) = (30 : Int) ∧ (31 : Int) = (31 : Int) ∧ (30 : Int) = (30 : Int) ∧ (31 : Int) = (31 : Int) ∧ True) ∧ x + (1 : Int) = y ∧ True) ∧
  ((0 : Int) = (0 : Int) ∧ (0 : Int) = (0 : Int) ∧ (0 : Int) = (0 : Int) ∧ (0 : Int) = (0 : Int) ∧ (0 : Int) = (0 : Int) ∧ True) ∧ (dtY t = dtY t ∧ x + (1 : Int) + (1 : Int) = y + (1
  : Int) ∧ (0 : Int) = (0 : Int) ∧ (0 : Int) = (0 : Int) ∧ (0 : Int) = (0 : Int) ∧ True) ∧ True else False else False else False else False else bif decide (rng IntKind.i64 (dtR t /
  (1440 : Int) - cumI (dtY t) x + (1 : Int))) then bif decide (rng IntKind.i64 (((dtR t).tmod (1440 : Int)).tdiv (60 : Int))) then ((dtY t = if inB t = true then dtY t else (0 :
  Int)) ∧ (x + (1 : Int) = if inB t = true then dtM t else (0 : Int)) ∧ (dtR t / (1440 : Int) - cumI (dtY t) x + (1 : Int) = if inB t = true then dtD t else (0 : Int)) ∧ (((dtR
  t).tmod (1440 : Int)).tdiv (60 : Int) = if inB t = true then dtH t else (0 : Int)) ∧ ((dtR t).tmod (60 : Int) = if inB t = true then dtI t else (0 : Int)) ∧ True) ∧ ((0 : Int) = if
  inB t = true then (0 : Int) else (1 : Int)) ∧ True else False else False else False else False else False
set_option maxRecDepth 100000 in
theorem cDate_P : cDate_T inB dtY dtM dtD dtH dtI dtR cumI fst' lp := by
  unfold cDate_T
  intro gl t _
  refine ⟨trivial, ?_⟩
  cases hb : inB t with
  | false => exact ⟨⟨rfl, rfl, rfl, rfl, rfl, trivial⟩, rfl, trivial⟩
  | true =>
    have ht : 0 ≤ t ∧ t ≤ 52595999 := by simpa [inB] using hb
    simp only [if_true]
    obtain ⟨r0, r1⟩ := dtR_bd ht
    obtain ⟨y1, y2, _, _⟩ := yrF_spec ht
    obtain ⟨m1, m2, m3⟩ := moF_spec ht
    have hl01 := lp01 (yrF t)
    have q1 : (dtR t).tmod 1440 = dtR t % 1440 := Int.tmod_eq_emod_of_nonneg r0
    have q2 : ((dtR t).tmod 1440).tdiv 60 = dtH t := by rw [q1, Int.tdiv_eq_ediv_of_nonneg (by omega)]; rfl
    have q3 : (dtR t).tmod 60 = dtI t := by rw [Int.tmod_eq_emod_of_nonneg r0]; rfl
    have q4 : 0 ≤ dtH t ∧ dtH t < 24 := (date_ok ht).vld.hr
    refine ⟨⟨2000, ⟨by decide, by decide, by rw [fst_2000]; exact ht.1⟩, ?_⟩, ?_⟩
    · repeat' (first | apply And.intro | exact trivial | exact rfl)
    · rintro y ⟨h1, h2, h3⟩
      have hb := fst_mono (y := 2000) (z := y) (by decide) h1
      rw [fst_2000] at hb
      refine cdI (by omega) ⟨⟨by omega, by omega⟩, csplit (fun hle => ?_) (fun hle => ?_)⟩
      · have hle := of_decide_eq_true hle
        have hy : y + 1 ≤ 2099 := by
          rcases Int.lt_or_le 2099 (y + 1) with h | h
          · have := fst_mono (y := 2100) (z := y + 1) (by decide) (by omega)
            rw [fst_2100] at this; omega
          · exact h
        refine cdI (by omega) ⟨y + 1, ⟨by omega, hy, hle⟩, by simp only [datI]; omega, ?_⟩
        repeat' (first | apply And.intro | exact trivial | exact rfl)
      · have hle := of_decide_eq_false hle
        have hy : y = dtY t := yr_uniq ht h1 h3 (by omega)
        have hr : t - fst' y = dtR t := by rw [hy]; rfl
        rw [hr, Int.tdiv_eq_ediv_of_nonneg r0]
        refine ⟨⟨h1, by omega⟩, cdI (by omega) (cdI (by omega) ⟨trivial, ⟨0, ⟨by decide, by decide, by simp [cum]; omega⟩, ?_⟩, ?_⟩)⟩
        · have q0 : dtR t / 1440 = dtR t / 1440 - cumI (dtY t) 0 := by simp [cumI, cum]
          have q5 : 28 + lp y = 28 + lp (dtY t) := by rw [hy]
          repeat' (first | apply And.intro | exact trivial | exact rfl | exact hy | exact q0 | exact q5)
        rintro k ⟨k1, k2, k3⟩
        have hc := cum_bd (dtY t) (k := k.toNat) (by omega)
        refine csplit (fun hlt => ?_) (fun hlt => ?_)
        · have hlt : k < 12 := of_decide_eq_true hlt
          have hn := len12_bd (dtY t) (k := k.toNat) (by omega)
          have hcs : cum (dtY t) (k.toNat + 1) = cum (dtY t) k.toNat + (len12 (dtY t)).getD k.toNat 0 := rfl
          have e1 : (k + 1).toNat = k.toNat + 1 := by omega
          refine cd1 ⟨k1, hlt⟩ ⟨(len12 (dtY t)).getD k.toNat 0, by rw [Nat.mul_one]; exact take1_map (len12 (dtY t)) (by simp [len12]; omega), csplit (fun hd => ?_) (fun hd => ?_)⟩
          · have hd := of_decide_eq_true hd
            unfold cumI at hd ⊢
            have hm : k.toNat = moF (dtY t) (dtR t / 1440) := mo_uniq (by omega) (by omega) k3 (by omega)
            rw [q2]
            have qM : k + 1 = dtM t := by
              unfold dtM
              change k + 1 = (moF (dtY t) (dtR t / 1440) : Nat) + 1
              omega
            have qD : dtR t / 1440 - cum (dtY t) k.toNat + 1 = dtD t := by
              unfold dtD
              change _ = dtR t / 1440 - cum (dtY t) (moF (dtY t) (dtR t / 1440)) + 1
              rw [← hm]
            refine cdI (by omega) (cdI (by omega) ?_)
            repeat' (first | apply And.intro | exact trivial | exact rfl | exact q3 | exact qM | exact qD)
          · have hd := of_decide_eq_false hd
            unfold cumI at hd ⊢
            refine cdI (by omega) (cdI (by omega) (cdI (by omega) ⟨k + 1, ⟨by omega, by omega, by rw [e1, hcs]; omega⟩, by simp only [datJ]; omega, ?_⟩))
            have q6 : dtR t / 1440 - cum (dtY t) k.toNat - (len12 (dtY t)).getD k.toNat 0 = dtR t / 1440 - cum (dtY t) (k + 1).toNat := by rw [e1, hcs]; omega
            repeat' (first | apply And.intro | exact trivial | exact rfl | exact q6)
        · have hlt : ¬ k < 12 := of_decide_eq_false hlt
          have h12 : k.toNat = 12 := by omega
          rw [h12, cum12] at k3
          change 365 + lp (yrF t) ≤ _ at k3
          omega
def cDate_S (inB : Int → Bool) (dtY : Int → Int) (dtM : Int → Int) (dtD : Int → Int) (dtH : Int → Int) (dtI : Int → Int) (dtR : Int → Int) (cumI : Int → Int → Int) (fst' : Int → Int) (lp : Int → Int) : Prop := ∀ (gl : Glob) (t : Int), fnK Tryd.prog { glob := gl, spec := lk [(73, (cIn_s inB)), (74, (cFirst_s fst')), (75, (cLen_s lp))], specH := lk [], shape := [36], nowf := true } { nt := 59, drop := drp [(1, 1536), (2, 4096), (3, 8192), (4, 507904), (5, 15728640), (6, 520093696), (7, 1610612736), (8, 6442450944), (10, 68719476736), (11, 412316860416), (12, 139637976727552), (13, 140737488355328), (14, 287948901175001088), (15, 288230376151711744)] } (invs [(4, datI t), (9, datJ (dtY t) (dtR t) (lp (dtY t)) (cumI (dtY t)))]) 6 Tryd.f54 [.int .i64 t] (.tup [.agg [.int .i64 (if inB t then dtY t else 0), .int .i64 (if inB t then dtM t else 0), .int .i64 (if inB t then dtD t else 0), .int .i64 (if inB t then dtH t else 0), .int .i64 (if inB t then dtI t else 0)], .int .i64 (if inB t then 0 else 1)])
set_option maxRecDepth 100000 in
theorem cDate_e (inB : Int → Bool) (dtY : Int → Int) (dtM : Int → Int) (dtD : Int → Int) (dtH : Int → Int) (dtI : Int → Int) (dtR : Int → Int) (cumI : Int → Int → Int) (fst' : Int → Int) (lp : Int → Int) : cDate_T inB dtY dtM dtD dtH dtI dtR cumI fst' lp = cDate_S inB dtY dtM dtD dtH dtI dtR cumI fst' lp := by kernel_rfl
theorem cDate_v : cDate_S inB dtY dtM dtD dtH dtI dtR cumI fst' lp := @Eq.mp (cDate_T inB dtY dtM dtD dtH dtI dtR cumI fst' lp) (cDate_S inB dtY dtM dtD dtH dtI dtR cumI fst' lp) (cDate_e inB dtY dtM dtD dtH dtI dtR cumI fst' lp) cDate_P
theorem cDate_ok (gl : Glob) : SOK Tryd.prog gl 54 (cDate_s inB dtY dtM dtD dtH dtI dtR cumI) := by
  refine ⟨fok Tryd.func54 (by kernel_rfl) (by kernel_rfl), ?_⟩
  intro xs pre r h hp
  unfold cDate_s at h
  split at h
  · simp only [Option.some.injEq, Prod.mk.injEq] at h
    obtain ⟨h1, h2⟩ := h
    subst h1 h2
    exact fnK_sound tyNil (by exact specOK rfl rfl ⟨cIn_ok gl, cFirst_ok gl, cLen_ok gl, trivial⟩ trivial) (by kernel_rfl) Tryd.func54 rfl (cDate_v gl _)
  · cases h
end Go.Proofs.YtceknalhogbbnaaDoor
