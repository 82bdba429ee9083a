/- The clock: the nearest minute. -/
import Derived.Test.YtakmploakbaglaaClD
namespace Go.Proofs.Ytakmploakbaglaa
open Go
set_option linter.unusedVariables false
set_option linter.unusedSimpArgs false

def dstI (a b : Int) : Int := max (a - b) (b - a)
/-- The minute with a day and a time in the month of number k from January 2000 on, or -1. -/
def vAt (d h i k : Int) : Int := if decide (0 ≤ k) && vldB (2000 + k / 12) (k % 12 + 1) d h i then mns (2000 + k / 12) (k % 12 + 1) d h i else -1
def stp (near best x : Int) : Int := if 0 ≤ x ∧ (best < 0 ∨ dstI x near < dstI best near) then x else best
def bstR (near : Int) (f : Int → Int) (k : Int) : Nat → Int
  | 0 => -1
  | n + 1 => stp near (bstR near f k n) (f (k + n))
def rsOk (d h i near : Int) : Bool := inB near && decide (1 ≤ d) && decide (d ≤ 31) && tmB h i
def mnth (near : Int) : Int := 12 * (dtY near - 2000) + dtM near - 1
def bst (d h i near : Int) : Int := bstR near (vAt d h i) (mnth near - 3) 7
def rsV (d h i near : Int) : Int := if rsOk d h i near then bst d h i near else 0
structure RsP (d h i near k : Int) : Prop where
  lo : mnth near - 3 ≤ k
  hi : k ≤ mnth near + 4
def rsB (d h i near k : Int) : Int := bstR near (vAt d h i) (mnth near - 3) (k - (mnth near - 3)).toNat
def rsI (d h i near : Int) (mnth' : Int) (B : Int → Int) : LInv := ⟨Int, fun k => ⟨[(0, .int .i64 d), (1, .int .i64 h), (2, .int .i64 i), (3, .int .i64 near), (8, .int .i64 0), (9, .int .i64 0), (12, .int .i64 (B k)), (13, .int .i64 mnth'), (14, .int .i64 k)], []⟩,
  RsP d h i near, fun k => (mnth near + 4 - k).toNat, none⟩
theorem vAt_neg {d h i k : Int} (hk : k < 0) : vAt d h i k = -1 := by unfold vAt; rw [decide_eq_false (by omega)]; rfl
theorem vAt_pos {d h i k : Int} (hk : 0 ≤ k) : vAt d h i k = if vldB (2000 + k / 12) (k % 12 + 1) d h i then mns (2000 + k / 12) (k % 12 + 1) d h i else -1 := by unfold vAt; rw [decide_eq_true hk]; rfl
theorem vAt_bd (d h i k : Int) : -1 ≤ vAt d h i k ∧ vAt d h i k ≤ 52595999 := by
  unfold vAt
  split
  · next h => exact ⟨by have := mns_in ((vldB_iff _ _ _ _ _).1 (Bool.and_eq_true .. ▸ h : _ ∧ _).2); omega, by have := mns_in ((vldB_iff _ _ _ _ _).1 (Bool.and_eq_true .. ▸ h : _ ∧ _).2); omega⟩
  · omega
theorem bstR_bd {near : Int} {f : Int → Int} {k : Int} (hf : ∀ x, -1 ≤ f x ∧ f x ≤ 52595999) : ∀ n, -1 ≤ bstR near f k n ∧ bstR near f k n ≤ 52595999
  | 0 => by simp [bstR]
  | n + 1 => by
    simp only [bstR, stp]
    split
    · exact hf _
    · exact bstR_bd hf n
theorem rsB_bd (d h i near k : Int) : -1 ≤ rsB d h i near k ∧ rsB d h i near k ≤ 52595999 := bstR_bd (vAt_bd d h i) _
theorem rsB_step {d h i near x : Int} (hx : mnth near - 3 ≤ x) : rsB d h i near (x + 1) = stp near (rsB d h i near x) (vAt d h i x) := by
  unfold rsB
  have e : (x + 1 - (mnth near - 3)).toNat = (x - (mnth near - 3)).toNat + 1 := by omega
  have e2 : mnth near - 3 + ((x - (mnth near - 3)).toNat : Int) = x := by omega
  rw [e]; simp only [bstR]; rw [e2]
theorem mnth_bd {t : Int} (ht : 0 ≤ t ∧ t ≤ 52595999) : 0 ≤ mnth t ∧ mnth t ≤ 1199 := by
  have v := (date_ok ht).vld
  obtain ⟨⟨y1, y2⟩, ⟨m1, m2⟩, _⟩ := v
  unfold mnth; omega
theorem rsOk_iff (d h i near : Int) : rsOk d h i near = true ↔ (inB near = true ∧ 1 ≤ d ∧ d ≤ 31 ∧ tmB h i = true) := by
  unfold rsOk; simp only [Bool.and_eq_true, decide_eq_true_eq, and_assoc]
theorem rs_bad {d h i near : Int} (hq : ¬ (rsOk d h i near = true)) : 0 = rsV d h i near ∧ (1 = if rsOk d h i near = true then (0 : Int) else 1) ∧ True := by
  unfold rsV; rw [if_neg hq, if_neg hq]; exact ⟨rfl, rfl, trivial⟩
def cResolve_s (inB : Int → Bool) (dtY : Int → Int) (dtM : Int → Int) (dtD : Int → Int) (dtH : Int → Int) (dtI : Int → Int) (tmB : Int → Int → Bool) (vldB : Int → Int → Int → Int → Int → Bool) (mns : Int → Int → Int → Int → Int → Int) (rsV : Int → Int → Int → Int → Int) (rsOk : Int → Int → Int → Int → Bool) (rsB : Int → Int → Int → Int → Int → Int) (mnth : Int → Int) : Sp
  | [.int .i64 d, .int .i64 h, .int .i64 i, .int .i64 near] => some (True, .tup [.int .i64 (rsV d h i near), .int .i64 (if rsOk d h i near then 0 else 1)])
  | _ => none
set_option maxRecDepth 100000 in
def cResolve_T (inB : Int → Bool) (dtY : Int → Int) (dtM : Int → Int) (dtD : Int → Int) (dtH : Int → Int) (dtI : Int → Int) (tmB : Int → Int → Bool) (vldB : Int → Int → Int → Int → Int → Bool) (mns : Int → Int → Int → Int → Int → Int) (rsV : Int → Int → Int → Int → Int) (rsOk : Int → Int → Int → Int → Bool) (rsB : Int → Int → Int → Int → Int → Int) (mnth : Int → Int) (dtR : Int → Int) (cumI : Int → Int → Int) : Prop :=
  ∀ (gl : Glob) (d h i near : Int), (-9223372036854775808 : Int) ≤ d ∧ d ≤ (9223372036854775807 : Int) → (-9223372036854775808 : Int) ≤ h ∧ h ≤ (9223372036854775807 : Int) →
  (-9223372036854775808 : Int) ≤ i ∧ i ≤ (9223372036854775807 : Int) → (-9223372036854775808 : Int) ≤ near ∧ near ≤ (9223372036854775807 : Int) → True ∧ bif decide ¬(if inB near =
  true then (0 : Int) else (1 : Int)) = (0 : Int) then (0 : Int) = rsV d h i near ∧ ((1 : Int) = if rsOk d h i near = true then (0 : Int) else (1 : Int)) ∧ True else bif decide (d <
  (1 : Int)) then (0 : Int) = rsV d h i near ∧ ((1 : Int) = if rsOk d h i near = true then (0 : Int) else (1 : Int)) ∧ True else bif decide ((31 : Int) < d) then (0 : Int) = rsV d h
  i near ∧ ((1 : Int) = if rsOk d h i near = true then (0 : Int) else (1 : Int)) ∧ True else True ∧ bif !tmB h i then (0 : Int) = rsV d h i near ∧ ((1 : Int) = if rsOk d h i near =
  true then (0 : Int) else (1 : Int)) ∧ True else bif decide (rng IntKind.i64 ((if inB near = true then dtY near else (0 : Int)) - (2000 : Int))) then bif decide (rng IntKind.i64
  ((12 : Int) * ((if inB near = true then dtY near else (0 : Int)) - (2000 : Int)))) then ∃ n, List.take [AV.int IntKind.i64 n].length (List.drop (1 : Nat) [AV.int IntKind.i64 (if
  inB near = true then dtY near else (0 : Int)), AV.int IntKind.i64 (if inB near = true then dtM near else (0 : Int)), AV.int IntKind.i64 (if inB near = true then dtD near else (0 :
  Int)), AV.int IntKind.i64 (if inB near = true then dtH near else (0 : Int)), AV.int IntKind.i64 (if inB near = true then dtI near else (0 : Int))]) = [AV.int IntKind.i64 n] ∧ bif
  decide (rng IntKind.i64 ((12 : Int) * ((if inB near = true then dtY near else (0 : Int)) - (2000 : Int)) + n)) then bif decide (rng IntKind.i64 ((12 : Int) * ((if inB near = true
  then dtY near else (0 : Int)) - (2000 : Int)) + n - (1 : Int))) then bif decide (rng IntKind.i64 ((12 : Int) * ((if inB near = true then dtY near else (0 : Int)) - (2000 : Int)) +
  n - (1 : Int) - (3 : Int))) then (∃ x, RsP d h i near x ∧ (d = d ∧ h = h ∧ i = i ∧ near = near ∧ (0 : Int) = (0 : Int) ∧ (0 : Int) = (0 : Int) ∧ (-1 : Int) = rsB d h i near x ∧ (12
  : Int) * ((if inB near = true then dtY near else (0 : Int)) - (2000 : Int)) + n - (1 : Int) = mnth near ∧ (12 : Int) * ((if inB near = true then dtY near else (0 : Int)) - (2000 :
  Int)) + n - (1 : Int) - (3 : Int) = x ∧ True) ∧ True) ∧ ∀ (x : Int), RsP d h i near x → bif decide (rng IntKind.i64 (mnth near + (3 : Int))) then bif decide (x ≤ mnth near + (3 :
  Int)) then bif decide (x < (0 : Int)) then bif decide (rng IntKind.i64 (x + (1 : Int))) then ∃ y, RsP d h i near y ∧ (rsI d h i near (mnth near) (rsB d h i near)).m y < (rsI d h i
  near (mnth near) (rsB d h i near)).m x ∧ (d = d ∧ h = h ∧ i = i ∧ near = near ∧ (0 : Int) = (0 : Int) ∧ (0 : Int) = (0 : Int) ∧ rsB d h i near x = rsB d h i near y ∧ mnth near =
  mnth near ∧ x + (1 : Int) = y ∧ True) ∧ True else False else bif decide (rng IntKind.i64 (x.tdiv (12 : Int))) then bif decide (rng IntKind.i64 ((2000 : Int) + x.tdiv (12 : Int)))
  then bif decide (rng IntKind.i64 (x.tmod (12 : Int) + (1 : Int))) then True ∧ bif decide ((if vldB ((2000 : Int) + x.tdiv (12 : Int)) (x.tmod (12 : Int) + (1 : Int)) d h i = true
  then (0 : Int) else (1 : Int)) = (0 : Int)) then bif decide (rsB d h i near x < (0 : Int)) then bif decide (rng IntKind.i64 (x + (1 : Int))) then ∃ y, RsP d h i near y ∧ (rsI d h i
  near (mnth near) (rsB d h i near)).m y < (rsI d h i near (mnth near) (rsB d h i near)).m x ∧ (d = d ∧ h = h ∧ i = i ∧ near = near ∧ (0 : Int) = (0 : Int) ∧ (0 : Int) = (0 : Int) ∧
  (if vldB ((2000 : Int) + x.tdiv (12 : Int)) (x.tmod (12 : Int) + (1 : Int)) d h i = true then mns ((2000 : Int) + x.tdiv (12 : Int)) (x.tmod (12 : Int) + (1 : Int)) d h i else (0 :
  Int)) = rsB d h i near y ∧ mnth near = mnth near ∧ x + (1 : Int) = y ∧ True) ∧ True else False else ((((0 : Int) ≤ if vldB ((2000 : Int) + x.tdiv (12 : Int)) (x.tmod (12 : Int) +
  (1 : Int)) d h i = true then mns ((2000 : Int) + x.tdiv (12 : Int)) (x.tmod (12 : Int) + (1 : Int)) d h i else (0 : Int)) ∧ (if vldB ((2000 : Int) + x.tdiv (12 : Int)) (x.tmod (12
  : Int) + (1 : Int)) d h i = true then mns ((2000 : Int) + x.tdiv (12 : Int)) (x.tmod (12 : Int) + (1 : Int)) d h i else (0 : Int)) ≤ (52595999 : Int)) ∧ (0 : Int) ≤ near ∧ near ≤
  (52595999 : Int)) ∧ (((0 : Int) ≤ rsB d h i near x ∧ rsB d h i near x ≤ (52595999 : Int)) ∧ (0 : Int) ≤ near ∧ near ≤ (52595999 : Int)) ∧ bif decide (max ((if vldB ((2000 : Int) +
  x.tdiv (12 : Int)) (x.tmod (12 : Int) + (1 : Int)) d h i = true then mns ((2000 : Int) + x.tdiv (12 : Int)) (x.tmod (12 : Int) + (1 : Int)) d h i else (0 : Int)) - near) (near - if
  vldB ((2000 : Int) + x.tdiv (12 : Int)) (x.tmod (12 : Int) + (1 : Int)) d h i = true then mns ((2000 : Int) + x.tdiv (12 : Int)) (x.tmod (12 : Int) + (1 : Int)) d h i else (0 :
  Int)) < max (rsB d h i near x - near) (near - rsB d h i near x)) then bif decide (rng IntKind.i64 (x + (1 : Int))) then ∃ y, RsP d h i near y ∧ (rsI d h i near (mnth near) (rsB d h
  i near)).m y < (rsI d h i near (mnth near) (rsB d h i near)).m x ∧ (d = d ∧ h = h ∧ i = i ∧ near = near ∧ (0 : Int) = (0 : Int) ∧ (0 : Int) = (0 : Int) ∧ (if vldB ((2000 : Int) +
  x.tdiv (12 : Int)) (x.tmod (12 : Int) + (1 : Int)) d h i = true then mns ((2000 : Int) + x.tdiv (12 : Int)) (x.tmod (12 : Int) + (1 : Int)) d h i else (0 : Int)) = rsB d h i near y
  ∧ mnth near = mnth near ∧ x + (1 : Int) = y ∧ True) ∧ True else False else bif decide (rng IntKind.i64 (x + (1 : Int))) then ∃ y, RsP d h i near y ∧ (rsI d h i near (mnth near)
  (rsB d h i near)).m y < (rsI d h i near (mnth near) (rsB d h i near)).m x ∧ (d = d ∧ h = h ∧ i = i ∧ near = near ∧ (0 : Int) = (0 : Int) ∧ (0 : Int) = (0 : Int) ∧ rsB d h i near x
  = rsB d h i near y ∧ mnth near = mnth near ∧ x + (1 : Int) = y ∧ True) ∧ True else False else bif decide (rng IntKind.i64 (x + (1 : Int))) then ∃ y, RsP d h i near y ∧ (rsI d h i
  near (mnth near) (rsB d h i near)).m y < (rsI d h i near (mnth near) (rsB d h i near)).m x ∧ (d = d ∧ h = h ∧ i = i ∧ near = near ∧ (0 : Int) = (0 : Int) ∧ (0 : Int) = (0 : Int) ∧
  rsB d h i near x = rsB d h i near y ∧ mnth near = mnth near ∧ x + (1 : Int) = y ∧ True) ∧ True else False else False else False else False else rsB d h i near x = rsV d h i near ∧
  ((0 : Int) = if rsOk d h i near = true then (0 : Int) else (1 : Int)) ∧ True else False else False else False else False else False else False
set_option maxRecDepth 100000 in
theorem cResolve_P : cResolve_T inB dtY dtM dtD dtH dtI tmB vldB mns rsV rsOk rsB mnth dtR cumI := by
  unfold cResolve_T
  intro gl d h i near _ _ _ _
  refine ⟨trivial, ?_⟩
  cases hb : inB near with
  | false => exact rs_bad (by rw [rsOk_iff, hb]; simp)
  | true =>
    have ht : 0 ≤ near ∧ near ≤ 52595999 := by simpa [inB] using hb
    simp only [if_true]
    refine csplit (fun h1 => absurd (of_decide_eq_true h1) (by decide)) (fun _ => csplit (fun h1 => rs_bad ?_) (fun h1 => csplit (fun h2 => rs_bad ?_) (fun h2 => ⟨trivial, csplit (fun h3 => rs_bad ?_) (fun h3 => ?_)⟩)))
    · have h1 := of_decide_eq_true h1; rw [rsOk_iff]; omega
    · have h2 := of_decide_eq_true h2; rw [rsOk_iff]; omega
    · rw [rsOk_iff]; intro q; rw [q.2.2.2] at h3; cases h3
    have h1 : ¬ d < 1 := of_decide_eq_false h1
    have h2 : ¬ 31 < d := of_decide_eq_false h2
    have hT : tmB h i = true := by cases q : tmB h i with | true => rfl | false => rw [q] at h3; cases h3
    have hok : rsOk d h i near = true := (rsOk_iff _ _ _ _).2 ⟨hb, by omega, by omega, hT⟩
    have v := (date_ok ht).vld
    obtain ⟨⟨y1, y2⟩, ⟨m1, m2⟩, _⟩ := v
    have hm := mnth_bd ht
    refine cdI (by omega) (cdI (by omega) ⟨dtM near, rfl, cdI (by omega) (cdI (by omega) (cdI (by omega) ⟨⟨mnth near - 3, ⟨by omega, by omega⟩, ?_⟩, ?_⟩))⟩)
    · have e : (-1 : Int) = rsB d h i near (mnth near - 3) := by unfold rsB; rw [Int.sub_self]; rfl
      repeat' (first | apply And.intro | exact trivial | exact rfl | exact e)
    rintro x ⟨x1, x2⟩
    have hx := rsB_bd d h i near x
    have hst := rsB_step (d := d) (h := h) (i := i) x1
    refine cdI (by omega) (csplit (fun hle => ?_) (fun hle => ?_))
    · have hle := of_decide_eq_true hle
      have nx : RsP d h i near (x + 1) := ⟨by omega, by omega⟩
      have hmm : (rsI d h i near (mnth near) (rsB d h i near)).m (x + 1) < (rsI d h i near (mnth near) (rsB d h i near)).m x := by simp only [rsI]; omega
      have g1 : rng .i64 (x + 1) := by show _ ∧ _; omega
      have go : ∀ z, z = rsB d h i near (x + 1) → ∃ y, RsP d h i near y ∧ (rsI d h i near (mnth near) (rsB d h i near)).m y < (rsI d h i near (mnth near) (rsB d h i near)).m x ∧ (True ∧ True ∧ True ∧ True ∧ True ∧ True ∧ z = rsB d h i near y ∧ True ∧ x + 1 = y ∧ True) ∧ True := by
        intro z hz
        refine ⟨x + 1, nx, hmm, ?_⟩
        repeat' (first | apply And.intro | exact trivial | exact rfl | exact hz)
      refine csplit (fun hn => ?_) (fun hn => ?_)
      · have hn := of_decide_eq_true hn
        rw [vAt_neg hn] at hst
        exact cdI g1 (go _ (by rw [hst]; rfl))
      · have hn := of_decide_eq_false hn
        rw [vAt_pos (by omega)] at hst
        have e1 : x.tdiv 12 = x / 12 := Int.tdiv_eq_ediv_of_nonneg (by omega)
        have e2 : x.tmod 12 = x % 12 := Int.tmod_eq_emod_of_nonneg (by omega)
        rw [e1, e2]
        refine cdI (by omega) (cdI (by omega) (cdI (by omega) ⟨trivial, ?_⟩))
        cases hv : vldB (2000 + x / 12) (x % 12 + 1) d h i with
        | false =>
          rw [hv] at hst
          exact csplit (fun q => absurd (of_decide_eq_true q) (by decide)) (fun _ => cdI g1 (go _ (by rw [hst]; rfl)))
        | true =>
          rw [hv] at hst
          simp only [if_true] at hst ⊢
          have hw := mns_in ((vldB_iff _ _ _ _ _).1 hv)
          generalize mns (2000 + x / 12) (x % 12 + 1) d h i = w at *
          unfold stp at hst
          refine csplit (fun _ => ?_) (fun q => absurd q (by decide))
          refine csplit (fun hb0 => ?_) (fun hb0 => ⟨⟨hw, ht⟩, ⟨⟨by have := of_decide_eq_false hb0; omega, hx.2⟩, ht⟩, csplit (fun hd => ?_) (fun hd => ?_)⟩)
          · have hb0 := of_decide_eq_true hb0
            rw [if_pos ⟨hw.1, Or.inl hb0⟩] at hst
            exact cdI g1 (go _ hst.symm)
          · have hd := of_decide_eq_true hd
            rw [if_pos ⟨hw.1, Or.inr hd⟩] at hst
            exact cdI g1 (go _ hst.symm)
          · have hd := of_decide_eq_false hd
            have hb0 := of_decide_eq_false hb0
            rw [if_neg (fun q => q.2.elim hb0 hd)] at hst
            exact cdI g1 (go _ hst.symm)
    · have hle := of_decide_eq_false hle
      have e : rsB d h i near x = rsV d h i near := by
        unfold rsV rsB bst; rw [if_pos hok]
        have : (x - (mnth near - 3)).toNat = 7 := by omega
        rw [this]
      rw [hok]
      exact ⟨e, rfl, trivial⟩
def cResolve_S (inB : Int → Bool) (dtY : Int → Int) (dtM : Int → Int) (dtD : Int → Int) (dtH : Int → Int) (dtI : Int → Int) (tmB : Int → Int → Bool) (vldB : Int → Int → Int → Int → Int → Bool) (mns : Int → Int → Int → Int → Int → Int) (rsV : Int → Int → Int → Int → Int) (rsOk : Int → Int → Int → Int → Bool) (rsB : Int → Int → Int → Int → Int → Int) (mnth : Int → Int) (dtR : Int → Int) (cumI : Int → Int → Int) : Prop := ∀ (gl : Glob) (d h i near : Int), fnK Try.prog { glob := gl, spec := lk [(19, (cDate_s inB dtY dtM dtD dtH dtI dtR cumI)), (35, (cTime_s tmB)), (12, (cMinutes_s vldB mns)), (40, cDist_s)], specH := lk [], shape := [43], nowf := true } { nt := 87, drop := drp [(1, 4063232), (2, 137434759168), (5, 70093866270720), (6, 211106232532992), (7, 1970324836974592), (8, 13510798882111488), (9, 18014398509481984), (10, 1180519563123373375488), (11, 19341632522213349383995392), (12, 38685626227668133590597632), (13, 77371252455336267181195264)] } (invs [(7, rsI d h i near (mnth near) (rsB d h i near))]) 6 Try.f27 [.int .i64 d, .int .i64 h, .int .i64 i, .int .i64 near] (.tup [.int .i64 (rsV d h i near), .int .i64 (if rsOk d h i near then 0 else 1)])
set_option maxRecDepth 100000 in
theorem cResolve_e (inB : Int → Bool) (dtY : Int → Int) (dtM : Int → Int) (dtD : Int → Int) (dtH : Int → Int) (dtI : Int → Int) (tmB : Int → Int → Bool) (vldB : Int → Int → Int → Int → Int → Bool) (mns : Int → Int → Int → Int → Int → Int) (rsV : Int → Int → Int → Int → Int) (rsOk : Int → Int → Int → Int → Bool) (rsB : Int → Int → Int → Int → Int → Int) (mnth : Int → Int) (dtR : Int → Int) (cumI : Int → Int → Int) : cResolve_T inB dtY dtM dtD dtH dtI tmB vldB mns rsV rsOk rsB mnth dtR cumI = cResolve_S inB dtY dtM dtD dtH dtI tmB vldB mns rsV rsOk rsB mnth dtR cumI := by kernel_rfl
theorem cResolve_v : cResolve_S inB dtY dtM dtD dtH dtI tmB vldB mns rsV rsOk rsB mnth dtR cumI := @Eq.mp (cResolve_T inB dtY dtM dtD dtH dtI tmB vldB mns rsV rsOk rsB mnth dtR cumI) (cResolve_S inB dtY dtM dtD dtH dtI tmB vldB mns rsV rsOk rsB mnth dtR cumI) (cResolve_e inB dtY dtM dtD dtH dtI tmB vldB mns rsV rsOk rsB mnth dtR cumI) cResolve_P
theorem cResolve_ok (gl : Glob) : SOK Try.prog gl 27 (cResolve_s inB dtY dtM dtD dtH dtI tmB vldB mns rsV rsOk rsB mnth) := by
  refine ⟨fok Try.func27 (by kernel_rfl) (by kernel_rfl), ?_⟩
  intro xs pre r h hp
  unfold cResolve_s at h
  split at h
  · simp only [Option.some.injEq, Prod.mk.injEq] at h
    obtain ⟨h1, h2⟩ := h
    subst h1 h2
    exact fnK_sound tyNil (by exact specOK rfl rfl ⟨cDate_ok gl, cTime_ok gl, cMinutes_ok gl, cDist_ok gl, trivial⟩ trivial) (by kernel_rfl) Try.func27 rfl (cResolve_v gl _ _ _ _)
  · cases h
end Go.Proofs.Ytakmploakbaglaa
