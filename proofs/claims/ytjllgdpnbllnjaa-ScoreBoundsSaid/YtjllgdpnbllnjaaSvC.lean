/- Scores: lists of pairs: their error, their summary, their table. -/
import Derived.Test.YtjllgdpnbllnjaaSvB
namespace Go.Proofs.Ytjllgdpnbllnjaa
open Go
set_option linter.unusedVariables false
set_option linter.unusedSimpArgs false

structure PrsP (xs : List (List AV)) : Prop where
  row : ∀ i, i < xs.length → ∃ f o : Int, xs.getD i [] = [.int .i64 f, .int .i64 o] ∧ rng .i64 f ∧ rng .i64 o
  sm : xs.length ≤ 9223372036854775807
def prF (r : List AV) : Int := cellI (r.take 1)
def prO (r : List AV) : Int := cellI (r.drop 1)
def okPr (r : List AV) : Bool := decide ((-1000000 ≤ prF r ∧ prF r ≤ 1000000) ∧ -1000000 ≤ prO r ∧ prO r ≤ 1000000)
def ckE (xs : List (List AV)) : Int := if 10000 < xs.length then 2 else if xs.all okPr then 0 else 1
theorem gD {xs : List (List AV)} {j : Nat} (h : j < xs.length) : xs.getD j [] = xs[j] := by rw [List.getD_eq_getElem?_getD, List.getElem?_eq_getElem h]; rfl
theorem all_ok {p : List AV → Bool} {xs : List (List AV)} (h : ∀ j : Nat, j < xs.length → p (xs.getD j []) = true) : xs.all p = true := by
  rw [List.all_eq_true]
  intro x hx
  obtain ⟨j, hj, rfl⟩ := List.mem_iff_getElem.1 hx
  rw [← gD hj]; exact h j hj
theorem all_no {p : List AV → Bool} {xs : List (List AV)} {j : Nat} (hj : j < xs.length) (h : p (xs.getD j []) = false) : xs.all p = false := by
  rw [Bool.eq_false_iff, ne_eq, List.all_eq_true]
  intro k
  have := k _ (List.getElem_mem hj)
  rw [← gD hj, h] at this; cases this
theorem all_get {p : List AV → Bool} {xs : List (List AV)} (h : xs.all p = true) {j : Nat} (hj : j < xs.length) : p (xs.getD j []) = true := by
  rw [List.all_eq_true] at h
  rw [gD hj]; exact h _ (List.getElem_mem hj)
theorem ck0 {xs : List (List AV)} (h : ckE xs = 0) : xs.length ≤ 10000 ∧ ∀ j : Nat, j < xs.length → okPr (xs.getD j []) = true := by
  unfold ckE at h
  split at h
  · cases h
  · split at h
    · next k => exact ⟨by omega, fun j hj => all_get k hj⟩
    · cases h
theorem okPr_iff {f o : Int} : okPr [.int .i64 f, .int .i64 o] = true ↔ (-1000000 ≤ f ∧ f ≤ 1000000) ∧ -1000000 ≤ o ∧ o ≤ 1000000 := by
  show decide _ = true ↔ _
  rw [decide_eq_true_eq]; rfl
structure CkI (xs : List (List AV)) (i : Int) : Prop where
  lo : 0 ≤ i
  hi : i ≤ xs.length
  ok : ∀ j : Nat, (j : Int) < i → okPr (xs.getD j []) = true
def ckL (f : Bool) (xs : List (List AV)) : LInv := ⟨Int, fun i => ⟨[(8, .sl 2 f xs), (9, .int .i64 xs.length), (10, .int .i64 i)], []⟩, CkI xs, fun i => (xs.length - i).toNat, none⟩
def scheck_s (ckE : List (List AV) → Int) : Sp
  | [.sl 2 f xs] => some (PrsP xs, .int .i64 (ckE xs))
  | _ => none
set_option maxRecDepth 100000 in
def scheck_T (ckE : List (List AV) → Int) : Prop :=
  ∀ (gl : Glob) (f : Bool) (xs : List (List AV)), PrsP xs → True → bif decide ((10000 : Int) < (↑xs.length : Int)) then (2 : Int) = ckE xs else (∃ x, CkI xs x ∧ (((bif f then f =
  true else True) ∧ xs = xs) ∧ (↑xs.length : Int) = (↑xs.length : Int) ∧ (0 : Int) = x ∧ True) ∧ True) ∧ ∀ (x : Int), CkI xs x → bif decide (x < (↑xs.length : Int)) then bif decide
  ((0 : Int) ≤ x ∧ x < (↑xs.length : Int)) then ∃ n n_1, List.take [AV.int IntKind.i64 n, AV.int IntKind.i64 n_1].length (xs.getD x.toNat []) = [AV.int IntKind.i64 n, AV.int
  IntKind.i64 n_1] ∧ True ∧ bif !decide ((-1000000 : Int) ≤ n ∧ n ≤ (1000000 : Int)) then (1 : Int) = ckE xs else True ∧ bif !decide ((-1000000 : Int) ≤ n_1 ∧ n_1 ≤ (1000000 : Int))
  then (1 : Int) = ckE xs else bif decide (rng IntKind.i64 (x + (1 : Int))) then ∃ y, CkI xs y ∧ (ckL f xs).m y < (ckL f xs).m x ∧ (((bif f then f = true else True) ∧ xs = xs) ∧
  (↑xs.length : Int) = (↑xs.length : Int) ∧ x + (1 : Int) = y ∧ True) ∧ True else False else False else (0 : Int) = ckE xs
set_option maxRecDepth 100000 in
theorem scheck_P : scheck_T ckE := by
  unfold scheck_T
  intro gl f xs ⟨hr, hs⟩ _
  have bf : cond f (f = true) True := by cases f <;> trivial
  refine cs (fun h => by unfold ckE; rw [if_pos (by omega)]) (fun h => ?_)
  have hc : ckE xs = if xs.all okPr then 0 else 1 := by unfold ckE; rw [if_neg (by omega)]
  rw [hc]
  refine ⟨⟨0, ⟨by decide, by omega, fun j h => by omega⟩, ⟨⟨bf, rfl⟩, rfl, rfl, trivial⟩, trivial⟩, ?_⟩
  rintro i ⟨h0, h1, hk⟩
  refine cs (fun hl => ?_) (fun hl => ?_)
  · obtain ⟨u, v, he, _, _⟩ := hr i.toNat (by omega)
    have no : ¬ ((-1000000 ≤ u ∧ u ≤ 1000000) ∧ -1000000 ≤ v ∧ v ≤ 1000000) → 1 = if xs.all okPr then (0 : Int) else 1 := fun q => by
      rw [all_no (j := i.toNat) (by omega) (by rw [he, Bool.eq_false_iff]; exact fun k => q (okPr_iff.1 k))]; rfl
    refine cd1 ⟨h0, hl⟩ ⟨u, v, by rw [he]; rfl, trivial, csplit (fun q => no fun k => by simp only [decide_eq_true k.1] at q; cases q) (fun q1' => ⟨trivial, csplit (fun q => no fun k => by simp only [decide_eq_true k.2] at q; cases q) (fun q2' => ?_)⟩)⟩
    have b1 : -1000000 ≤ u ∧ u ≤ 1000000 := by simpa using q1'
    have b2 : -1000000 ≤ v ∧ v ≤ 1000000 := by simpa using q2'
    refine cdI (by omega) ⟨i + 1, ⟨by omega, by omega, fun j hj => ?_⟩, by simp only [ckL]; omega, ⟨⟨bf, rfl⟩, rfl, rfl, trivial⟩, trivial⟩
    rcases Nat.lt_or_ge j i.toNat with k | k
    · exact hk j (by omega)
    · rw [show j = i.toNat by omega, he]; exact okPr_iff.2 ⟨b1, b2⟩
  · rw [all_ok fun j hj => hk j (by omega)]; rfl
def scheck_S (ckE : List (List AV) → Int) : Prop := ∀ (gl : Glob) (f : Bool) (xs : List (List AV)), PrsP xs → fnK Try.prog { glob := gl, spec := lk [(46, swithin_s)], specH := lk [], shape := [13], nowf := true } { nt := 25, drop := drp [(1, 96), (5, 12288), (6, 8372224), (8, 16777216)] } (invs [(4, ckL f xs)]) 6 Try.f44 [.sl 2 f xs] (.int .i64 (ckE xs))
set_option maxRecDepth 100000 in
theorem scheck_e (ckE : List (List AV) → Int) : scheck_T ckE = scheck_S ckE := by kernel_rfl
theorem scheck_v : scheck_S ckE := @Eq.mp (scheck_T ckE) (scheck_S ckE) (scheck_e ckE) scheck_P
theorem scheck_ok (gl : Glob) : SOK Try.prog gl 44 (scheck_s ckE) := by
  refine ⟨fok Try.func44 (by kernel_rfl) (by kernel_rfl), ?_⟩
  intro xs pre r h hp
  unfold scheck_s at h
  split at h
  · simp only [Option.some.injEq, Prod.mk.injEq] at h
    obtain ⟨h1, h2⟩ := h
    subst h1 h2
    exact fnK_sound tyNil (by exact specOK rfl rfl ⟨swithin_ok gl, trivial⟩ trivial) (by kernel_rfl) Try.func44 rfl (scheck_v gl _ _ hp)
  · cases h
def smB (ys : List (List AV)) (m : Int) : Bool := ys.all fun r => decide (-m ≤ cellI r ∧ cellI r ≤ m)
structure SmI (ys : List (List AV)) (m i : Int) : Prop where
  lo : 0 ≤ i
  hi : i ≤ ys.length
  ok : ∀ j : Nat, (j : Int) < i → -m ≤ cellI (ys.getD j []) ∧ cellI (ys.getD j []) ≤ m
structure SmP (ys : List (List AV)) (n : Nat) (m : Int) : Prop where
  ints : IntsA ys
  len : ys.length = n
  sm : n ≤ 100
  m : 0 ≤ m ∧ m ≤ 1152921504606846976
def smL (ys : List (List AV)) (n : Nat) (m : Int) : LInv := ⟨Int, fun i => ⟨[(0, .rw 0 1 n), (1, .int .i64 m), (5, .int .i64 i)], [(0, .row 3 1 ys)]⟩, SmI ys m, fun i => (ys.length - i).toNat, none⟩
def rsmall_s (smB : List (List AV) → Int → Bool) : SpH
  | [.rw 0 1 n, .int .i64 m], [.row 3 1 ys] => some (SmP ys n m, .bool (smB ys m), [.row 3 1 ys])
  | _, _ => none
set_option maxRecDepth 100000 in
def rsmall_T (smB : List (List AV) → Int → Bool) : Prop :=
  ∀ (gl : Glob) (n : Nat) (ys : List (List AV)) (m : Int), SmP ys n m → True → (-9223372036854775808 : Int) ≤ m ∧ m ≤ (9223372036854775807 : Int) → (∃ x, SmI ys m x ∧ (n = n ∧ m = m
  ∧ (0 : Int) = x ∧ True) ∧ ys = ys ∧ True) ∧ ∀ (x : Int), SmI ys m x → bif decide (x < (↑n : Int)) then bif decide ((0 : Int) ≤ x ∧ x < (↑n : Int)) then bif decide (n = ys.length ∧
  x.toNat < ys.length) then ∃ n_1, List.take [AV.int IntKind.i64 n_1].length (List.drop (0 : Nat) (ys.getD x.toNat [])) = [AV.int IntKind.i64 n_1] ∧ bif decide (m < n_1) then false =
  smB ys m ∧ ys = ys ∧ True else bif decide ((0 : Int) ≤ x ∧ x < (↑n : Int)) then bif decide (n = ys.length ∧ x.toNat < ys.length) then ∃ n_2, List.take [AV.int IntKind.i64
  n_2].length (List.drop (0 : Nat) (ys.getD x.toNat [])) = [AV.int IntKind.i64 n_2] ∧ bif decide (rng IntKind.i64 ((0 : Int) - m)) then bif decide (n_2 < (0 : Int) - m) then false =
  smB ys m ∧ ys = ys ∧ True else bif decide (rng IntKind.i64 (x + (1 : Int))) then ∃ y, SmI ys m y ∧ (smL ys n m).m y < (smL ys n m).m x ∧ (n = n ∧ m = m ∧ x + (1 : Int) = y ∧ True)
  ∧ ys = ys ∧ True else False else False else False else False else False else False else true = smB ys m ∧ ys = ys ∧ True
set_option maxRecDepth 100000 in
theorem rsmall_P : rsmall_T smB := by
  unfold rsmall_T
  intro gl n ys m ⟨hi, hl, hs, hm⟩ _ _
  refine ⟨⟨0, ⟨by decide, by omega, fun j h => by omega⟩, ⟨rfl, rfl, rfl, trivial⟩, rfl, trivial⟩, ?_⟩
  rintro i ⟨h0, h1, hk⟩
  refine cs (fun hlt => ?_) (fun hlt => ?_)
  · have hj : i.toNat < ys.length := by omega
    obtain ⟨z, hz, _⟩ := hi ys[i.toNat] (List.getElem_mem hj)
    have hg : ys.getD i.toNat [] = [.int .i64 z] := by rw [gD hj, hz]
    have no : ¬ (-m ≤ z ∧ z ≤ m) → false = smB ys m ∧ ys = ys ∧ True := fun q => by
      refine ⟨(all_no hj ?_).symm, rfl, trivial⟩
      rw [hg]; exact decide_eq_false q
    refine cd1 ⟨h0, hlt⟩ (cd1 ⟨hl.symm, hj⟩ ⟨z, by rw [hg]; rfl, cs (fun q => no (by omega)) (fun q1' => cd1 ⟨h0, hlt⟩ (cd1 ⟨hl.symm, hj⟩ ⟨z, by rw [hg]; rfl, cdI (by omega) (cs (fun q => no (by omega)) (fun q2' => cdI (by omega) ⟨i + 1, ⟨by omega, by omega, fun j hj2 => ?_⟩, by simp only [smL]; omega, ⟨rfl, rfl, rfl, trivial⟩, rfl, trivial⟩))⟩))⟩)
    rcases Nat.lt_or_ge j i.toNat with k | k
    · exact hk j (by omega)
    · rw [show j = i.toNat by omega, hg]; show -m ≤ z ∧ z ≤ m; omega
  · exact ⟨(all_ok fun j hj => decide_eq_true (hk j (by omega))).symm, rfl, trivial⟩
def rsmall_S (smB : List (List AV) → Int → Bool) : Prop := ∀ (gl : Glob) (n : Nat) (ys : List (List AV)) (m : Int), SmP ys n m → fnH Try.prog { glob := gl, spec := lk [], specH := lk [], shape := [15, 22], nowf := true } { nt := 27, drop := drp [(2, 448), (3, 3072), (4, 67104768)], fr := 1000, kp := [0] } (invs [(2, smL ys n m)]) 6 Try.f60 [.rw 0 1 n, .int .i64 m] [.row 3 1 ys] (.bool (smB ys m)) [.row 3 1 ys]
set_option maxRecDepth 100000 in
theorem rsmall_e (smB : List (List AV) → Int → Bool) : rsmall_T smB = rsmall_S smB := by kernel_rfl
theorem rsmall_v : rsmall_S smB := @Eq.mp (rsmall_T smB) (rsmall_S smB) (rsmall_e smB) rsmall_P
theorem rsmall_ok (gl : Glob) : HOK Try.prog gl 60 (rsmall_s smB) := by
  refine ⟨fok Try.func60 (by kernel_rfl) (by kernel_rfl), ?_⟩
  intro xs bs pre r bs2 h hp
  unfold rsmall_s at h
  split at h
  · simp only [Option.some.injEq, Prod.mk.injEq] at h
    obtain ⟨h1, h2, h3⟩ := h
    subst h1 h2 h3
    exact fnH_sound tyNil (by exact specOK rfl rfl trivial trivial) (by kernel_rfl) Try.func60 (rsmall_v gl _ _ _ hp)
  · cases h
def rckL (f : Bool) (xs : List (List AV)) : LInv := ⟨Int, fun i => ⟨[(0, .sl 2 f xs), (3, .int .i64 i)], []⟩, CkI xs, fun i => (xs.length - i).toNat, none⟩
def rcheck_s (ckE : List (List AV) → Int) : Sp
  | [.sl 2 f xs] => some (PrsP xs, .int .i64 (ckE xs))
  | _ => none
set_option maxRecDepth 100000 in
def rcheck_T (ckE : List (List AV) → Int) : Prop :=
  ∀ (gl : Glob) (f : Bool) (xs : List (List AV)), PrsP xs → True → bif decide ((10000 : Int) < (↑xs.length : Int)) then (2 : Int) = ckE xs else (∃ x, CkI xs x ∧ (((bif f then f =
  true else True) ∧ xs = xs) ∧ (0 : Int) = x ∧ True) ∧ True) ∧ ∀ (x : Int), CkI xs x → bif decide (x < (↑xs.length : Int)) then bif decide ((0 : Int) ≤ x ∧ x < (↑xs.length : Int))
  then ∃ n, List.take [AV.int IntKind.i64 n].length (List.drop (0 : Nat) (xs.getD x.toNat [])) = [AV.int IntKind.i64 n] ∧ bif decide ((0 : Int) ≤ x ∧ x < (↑xs.length : Int)) then ∃
  n_1, List.take [AV.int IntKind.i64 n_1].length (List.drop (1 : Nat) (xs.getD x.toNat [])) = [AV.int IntKind.i64 n_1] ∧ SmP [[AV.int IntKind.i64 n], [AV.int IntKind.i64 n_1]] (2 :
  Nat) (1000000 : Int) ∧ bif !smB [[AV.int IntKind.i64 n], [AV.int IntKind.i64 n_1]] (1000000 : Int) then (1 : Int) = ckE xs else bif decide (rng IntKind.i64 (x + (1 : Int))) then ∃
  y, CkI xs y ∧ (rckL f xs).m y < (rckL f xs).m x ∧ (((bif f then f = true else True) ∧ xs = xs) ∧ x + (1 : Int) = y ∧ True) ∧ True else False else False else False else (0 : Int) =
  ckE xs
set_option maxRecDepth 100000 in
theorem rcheck_P : rcheck_T ckE := by
  unfold rcheck_T
  intro gl f xs ⟨hr, hs⟩ _
  have bf : cond f (f = true) True := by cases f <;> trivial
  refine cs (fun h => by unfold ckE; rw [if_pos (by omega)]) (fun h => ?_)
  have hc : ckE xs = if xs.all okPr then 0 else 1 := by unfold ckE; rw [if_neg (by omega)]
  rw [hc]
  refine ⟨⟨0, ⟨by decide, by omega, fun j h => by omega⟩, ⟨⟨bf, rfl⟩, rfl, trivial⟩, trivial⟩, ?_⟩
  rintro i ⟨h0, h1, hk⟩
  refine cs (fun hl => ?_) (fun hl => ?_)
  · obtain ⟨u, v, he, ru, rv⟩ := hr i.toNat (by omega)
    have hsm : smB [[.int .i64 u], [.int .i64 v]] 1000000 = okPr [.int .i64 u, .int .i64 v] := by
      rw [Bool.eq_iff_iff, okPr_iff]
      show (decide (-1000000 ≤ u ∧ u ≤ 1000000) && (decide (-1000000 ≤ v ∧ v ≤ 1000000) && true)) = true ↔ _
      simp only [Bool.and_eq_true, decide_eq_true_eq, and_true]
    refine cd1 ⟨h0, hl⟩ ⟨u, by rw [he]; rfl, cd1 ⟨h0, hl⟩ ⟨v, by rw [he]; rfl, ⟨?_, rfl, by decide, by decide⟩, ?_⟩⟩
    · intro x hx
      simp only [List.mem_cons, List.not_mem_nil, or_false] at hx
      rcases hx with rfl | rfl
      · exact ⟨u, rfl, ru⟩
      · exact ⟨v, rfl, rv⟩
    · rw [hsm, ← he]
      refine csplit (fun q => ?_) (fun q => ?_)
      · rw [all_no (j := i.toNat) (by omega) (by simpa using q)]; rfl
      · refine cdI (by omega) ⟨i + 1, ⟨by omega, by omega, fun j hj => ?_⟩, by simp only [rckL]; omega, ⟨⟨bf, rfl⟩, rfl, trivial⟩, trivial⟩
        rcases Nat.lt_or_ge j i.toNat with k | k
        · exact hk j (by omega)
        · rw [show j = i.toNat by omega]; simpa using q
  · rw [all_ok fun j hj => hk j (by omega)]; rfl
def rcheck_S (ckE : List (List AV) → Int) : Prop := ∀ (gl : Glob) (f : Bool) (xs : List (List AV)), PrsP xs → fnK Try.prog { glob := gl, spec := lk [], specH := lk [(60, (rsmall_s Go.Proofs.Ytjllgdpnbllnjaa.smB))], shape := [17, 22], nowf := true } { nt := 26, drop := drp [(1, 48), (4, 896), (5, 6144), (6, 33546240)] } (invs [(4, rckL f xs)]) 6 Try.f47 [.sl 2 f xs] (.int .i64 (ckE xs))
set_option maxRecDepth 100000 in
theorem rcheck_e (ckE : List (List AV) → Int) : rcheck_T ckE = rcheck_S ckE := by kernel_rfl
theorem rcheck_v : rcheck_S ckE := @Eq.mp (rcheck_T ckE) (rcheck_S ckE) (rcheck_e ckE) rcheck_P
theorem rcheck_ok (gl : Glob) : SOK Try.prog gl 47 (rcheck_s ckE) := by
  refine ⟨fok Try.func47 (by kernel_rfl) (by kernel_rfl), ?_⟩
  intro xs pre r h hp
  unfold rcheck_s at h
  split at h
  · simp only [Option.some.injEq, Prod.mk.injEq] at h
    obtain ⟨h1, h2⟩ := h
    subst h1 h2
    exact fnK_sound tyNil (by exact specOK rfl rfl trivial ⟨rsmall_ok gl, trivial⟩) (by kernel_rfl) Try.func47 rfl (rcheck_v gl _ _ hp)
  · cases h
def dfR (r : List AV) : Int := prF r - prO r
def ofS (xs : List (List AV)) : Nat → Int
  | 0 => 0
  | n + 1 => ofS xs n + dfR (xs.getD n [])
def ofA (xs : List (List AV)) : Nat → Int
  | 0 => 0
  | n + 1 => ofA xs n + max (dfR (xs.getD n [])) (0 - dfR (xs.getD n []))
def ofQ (xs : List (List AV)) : Nat → Int
  | 0 => 0
  | n + 1 => ofQ xs n + dfR (xs.getD n []) * dfR (xs.getD n [])
theorem sq_bd {d : Int} (h : -2000000 ≤ d ∧ d ≤ 2000000) : 0 ≤ d * d ∧ d * d ≤ 4000000000000 := by
  rcases Int.le_total 0 d with k | k
  · have h1 := Int.mul_le_mul h.2 h.2 k (by decide)
    have h2 := Int.mul_nonneg k k
    omega
  · have e : d * d = (-d) * (-d) := by rw [Int.neg_mul_neg]
    have h1 := Int.mul_le_mul (show -d ≤ 2000000 by omega) (show -d ≤ 2000000 by omega) (by omega) (by decide)
    have h2 := Int.mul_nonneg (show 0 ≤ -d by omega) (show 0 ≤ -d by omega)
    omega
structure OfB (s a q : Int) (n : Nat) : Prop where
  s : -a ≤ s ∧ s ≤ a
  a : 0 ≤ a ∧ a ≤ 2000000 * n
  q : 0 ≤ q ∧ q ≤ 4000000000000 * n
theorem okD {r : List AV} (h : okPr r = true) : -2000000 ≤ dfR r ∧ dfR r ≤ 2000000 := by
  have := of_decide_eq_true h
  unfold dfR; omega
theorem of_bd {xs : List (List AV)} (h : ∀ j : Nat, j < xs.length → okPr (xs.getD j []) = true) : ∀ n : Nat, n ≤ xs.length → OfB (ofS xs n) (ofA xs n) (ofQ xs n) n
  | 0, _ => ⟨by simp [ofS, ofA], by simp [ofA], by simp [ofQ]⟩
  | n + 1, hn => by
    obtain ⟨h1, h2, h3⟩ := of_bd h n (by omega)
    have d := okD (h n (by omega))
    have q := sq_bd d
    refine ⟨?_, ?_, ?_⟩
    · simp only [ofS, ofA]; omega
    · simp only [ofA]; omega
    · simp only [ofQ]; omega
def ofI (f : Bool) (xs : List (List AV)) : LInv := ⟨Int, fun i => ⟨[(2, .ptr 2 0), (5, .ptr 5 0), (18, .sl 2 f xs), (19, .int .i64 xs.length), (20, .int .i64 i)], [(2, .cells [.int .i64 0, .int .i64 0, .int .i64 0, .int .i64 0]), (5, .cells [.int .i64 xs.length, .int .i64 (ofS xs i.toNat), .int .i64 (ofA xs i.toNat), .int .i64 (ofQ xs i.toNat)])]⟩, CkI xs, fun i => (xs.length - i).toNat, none⟩
def oN (xs : List (List AV)) : Int := if ckE xs = 0 then xs.length else 0
def oS (xs : List (List AV)) : Int := if ckE xs = 0 then ofS xs xs.length else 0
def oA (xs : List (List AV)) : Int := if ckE xs = 0 then ofA xs xs.length else 0
def oQ (xs : List (List AV)) : Int := if ckE xs = 0 then ofQ xs xs.length else 0
def sof_s (ckE : List (List AV) → Int) (oN : List (List AV) → Int) (oS : List (List AV) → Int) (oA : List (List AV) → Int) (oQ : List (List AV) → Int) : Sp
  | [.sl 2 f xs] => some (PrsP xs, .tup [.agg [.int .i64 (oN xs), .int .i64 (oS xs), .int .i64 (oA xs), .int .i64 (oQ xs)], .int .i64 (ckE xs)])
  | _ => none
set_option maxRecDepth 100000 in
def sof_T (ckE : List (List AV) → Int) (oN : List (List AV) → Int) (oS : List (List AV) → Int) (oA : List (List AV) → Int) (oQ : List (List AV) → Int) : Prop :=
  ∀ (gl : Glob) (f : Bool) (xs : List (List AV)), PrsP xs → True → PrsP xs ∧ bif decide ¬ckE xs = (0 : Int) then ((0 : Int) = oN xs ∧ (0 : Int) = oS xs ∧ (0 : Int) = oA xs ∧ (0 :
  Int) = oQ xs ∧ True) ∧ ckE xs = ckE xs ∧ True else (∃ x, CkI xs x ∧ ((0 : Nat) = (0 : Nat) ∧ (0 : Nat) = (0 : Nat) ∧ ((bif f then f = true else True) ∧ xs = xs) ∧ (↑xs.length :
  Int) = (↑xs.length : Int) ∧ (0 : Int) = x ∧ True) ∧ ((0 : Int) = (0 : Int) ∧ (0 : Int) = (0 : Int) ∧ (0 : Int) = (0 : Int) ∧ (0 : Int) = (0 : Int) ∧ True) ∧ ((↑xs.length : Int) =
  (↑xs.length : Int) ∧ (0 : Int) = ofS xs (Int.toNat x) ∧ (0 : Int) = ofA xs (Int.toNat x) ∧ (0 : Int) = ofQ xs (Int.toNat x) ∧ True) ∧ True) ∧ ∀ (x : Int), CkI xs x → bif decide (x
  < (↑xs.length : Int)) then bif decide ((0 : Int) ≤ x ∧ x < (↑xs.length : Int)) then ∃ n n_1, List.take [AV.int IntKind.i64 n, AV.int IntKind.i64 n_1].length (xs.getD x.toNat []) =
  [AV.int IntKind.i64 n, AV.int IntKind.i64 n_1] ∧ bif decide (rng IntKind.i64 (n - n_1)) then bif decide (rng IntKind.i64 (ofS xs x.toNat + (n - n_1))) then bif decide (rng
  IntKind.i64 ((0 : Int) - (n - n_1))) then bif decide (rng IntKind.i64 (ofA xs x.toNat + max (n - n_1) ((0 : Int) - (n - n_1)))) then bif decide (rng IntKind.i64 ((n - n_1) * (n -
  n_1))) then bif decide (rng IntKind.i64 (ofQ xs x.toNat + (n - n_1) * (n - n_1))) then bif decide (rng IntKind.i64 (x + (1 : Int))) then ∃ y, CkI xs y ∧ (ofI f xs).m y < (ofI f
  xs).m x ∧ ((0 : Nat) = (0 : Nat) ∧ (0 : Nat) = (0 : Nat) ∧ ((bif f then f = true else True) ∧ xs = xs) ∧ (↑xs.length : Int) = (↑xs.length : Int) ∧ x + (1 : Int) = y ∧ True) ∧ ((0 :
  Int) = (0 : Int) ∧ (0 : Int) = (0 : Int) ∧ (0 : Int) = (0 : Int) ∧ (0 : Int) = (0 : Int) ∧ True) ∧ ((↑xs.length : Int) = (↑xs.length : Int) ∧ ofS xs x.toNat + (n - n_1) = ofS xs
  (Int.toNat y) ∧ ofA xs x.toNat + max (n - n_1) ((0 : Int) - (n - n_1)) = ofA xs (Int.toNat y) ∧ ofQ xs x.toNat + (n - n_1) * (n - n_1) = ofQ xs (Int.toNat y) ∧ True) ∧ True else
  False else False else False else False else False else False else False else False else ((↑xs.length : Int) = oN xs ∧ ofS xs x.toNat = oS xs ∧ ofA xs x.toNat = oA xs ∧ ofQ xs
  x.toNat = oQ xs ∧ True) ∧ (0 : Int) = ckE xs ∧ True
set_option maxRecDepth 100000 in
theorem sof_P : sof_T ckE oN oS oA oQ := by
  unfold sof_T
  intro gl f xs ⟨hr, hs⟩ _
  have bf : cond f (f = true) True := by cases f <;> trivial
  refine ⟨⟨hr, hs⟩, cs (fun q => ?_) (fun q => ?_)⟩
  · unfold oN oS oA oQ; rw [if_neg q, if_neg q, if_neg q, if_neg q]; exact ⟨⟨rfl, rfl, rfl, rfl, trivial⟩, rfl, trivial⟩
  have q := Decidable.not_not.1 q
  obtain ⟨hle, hok⟩ := ck0 q
  refine ⟨⟨0, ⟨by decide, by omega, fun j h => by omega⟩, by repeat' (first | apply And.intro | exact trivial | exact rfl | exact bf)⟩, ?_⟩
  rintro i ⟨h0, h1, hk⟩
  have ei : (i + 1).toNat = i.toNat + 1 := by omega
  refine cs (fun hl => ?_) (fun hl => ?_)
  · obtain ⟨u, v, he, _, _⟩ := hr i.toNat (by omega)
    have hd := okD (hok i.toNat (by omega))
    have e : dfR (xs.getD i.toNat []) = u - v := by rw [he]; rfl
    have b := of_bd hok i.toNat (by omega)
    obtain ⟨b1, b2, b3⟩ := b
    rw [e] at hd
    have sq := sq_bd hd
    have s1 : ofS xs i.toNat + (u - v) = ofS xs (i + 1).toNat := by rw [ei]; simp only [ofS, e]
    have s2 : ofA xs i.toNat + max (u - v) (0 - (u - v)) = ofA xs (i + 1).toNat := by rw [ei]; simp only [ofA, e]
    have s3 : ofQ xs i.toNat + (u - v) * (u - v) = ofQ xs (i + 1).toNat := by rw [ei]; simp only [ofQ, e]
    refine cd1 ⟨h0, hl⟩ ⟨u, v, by rw [he]; rfl, cdI (by omega) (cdI (by omega) (cdI (by omega) (cdI (by omega) (cdI (by omega) (cdI (by omega) (cdI (by omega) ⟨i + 1, ⟨by omega, by omega, fun j hj => hok j (by omega)⟩, by simp only [ofI]; omega, by repeat' (first | apply And.intro | exact trivial | exact rfl | exact bf | exact s1 | exact s2 | exact s3)⟩))))))⟩
  · have hz : i.toNat = xs.length := by omega
    unfold oN oS oA oQ
    rw [if_pos q, if_pos q, if_pos q, if_pos q, hz, q]
    exact ⟨⟨rfl, rfl, rfl, rfl, trivial⟩, rfl, trivial⟩
def sof_S (ckE : List (List AV) → Int) (oN : List (List AV) → Int) (oS : List (List AV) → Int) (oA : List (List AV) → Int) (oQ : List (List AV) → Int) : Prop := ∀ (gl : Glob) (f : Bool) (xs : List (List AV)), PrsP xs → fnK Try.prog { glob := gl, spec := lk [(44, (scheck_s ckE))], specH := lk [], shape := [23], nowf := true } { nt := 51, drop := drp [(1, 1536), (2, 2048), (3, 24576), (4, 229376), (7, 12582912), (8, 520093696), (9, 16642998272), (10, 4380866641920), (11, 558551906910208), (12, 562949953421312), (13, 1125899906842624)] } (invs [(6, ofI f xs)]) 6 Try.f21 [.sl 2 f xs] (.tup [.agg [.int .i64 (oN xs), .int .i64 (oS xs), .int .i64 (oA xs), .int .i64 (oQ xs)], .int .i64 (ckE xs)])
set_option maxRecDepth 100000 in
theorem sof_e (ckE : List (List AV) → Int) (oN : List (List AV) → Int) (oS : List (List AV) → Int) (oA : List (List AV) → Int) (oQ : List (List AV) → Int) : sof_T ckE oN oS oA oQ = sof_S ckE oN oS oA oQ := by kernel_rfl
theorem sof_v : sof_S ckE oN oS oA oQ := @Eq.mp (sof_T ckE oN oS oA oQ) (sof_S ckE oN oS oA oQ) (sof_e ckE oN oS oA oQ) sof_P
theorem sof_ok (gl : Glob) : SOK Try.prog gl 21 (sof_s ckE oN oS oA oQ) := by
  refine ⟨fok Try.func21 (by kernel_rfl) (by kernel_rfl), ?_⟩
  intro xs pre r h hp
  unfold sof_s at h
  split at h
  · simp only [Option.some.injEq, Prod.mk.injEq] at h
    obtain ⟨h1, h2⟩ := h
    subst h1 h2
    exact fnK_sound tyNil (by exact specOK rfl rfl ⟨scheck_ok gl, trivial⟩ trivial) (by kernel_rfl) Try.func21 rfl (sof_v gl _ _ hp)
  · cases h
def rofI (f : Bool) (xs : List (List AV)) : LInv := ⟨Int, fun i => ⟨[(0, .sl 2 f xs), (2, .ptr 2 0), (5, .ptr 5 0), (6, .int .i64 i)], [(2, .cells [.int .i64 0, .int .i64 0, .int .i64 0, .int .i64 0]), (5, .cells [.int .i64 xs.length, .int .i64 (ofS xs i.toNat), .int .i64 (ofA xs i.toNat), .int .i64 (ofQ xs i.toNat)])]⟩, CkI xs, fun i => (xs.length - i).toNat, none⟩
def rof_s (ckE : List (List AV) → Int) (oN : List (List AV) → Int) (oS : List (List AV) → Int) (oA : List (List AV) → Int) (oQ : List (List AV) → Int) : Sp
  | [.sl 2 f xs] => some (PrsP xs, .tup [.agg [.int .i64 (oN xs), .int .i64 (oS xs), .int .i64 (oA xs), .int .i64 (oQ xs)], .int .i64 (ckE xs)])
  | _ => none
set_option maxRecDepth 100000 in
def rof_T (ckE : List (List AV) → Int) (oN : List (List AV) → Int) (oS : List (List AV) → Int) (oA : List (List AV) → Int) (oQ : List (List AV) → Int) : Prop :=
  ∀ (gl : Glob) (f : Bool) (xs : List (List AV)), PrsP xs → True → PrsP xs ∧ bif decide ¬ckE xs = (0 : Int) then ((0 : Int) = oN xs ∧ (0 : Int) = oS xs ∧ (0 : Int) = oA xs ∧ (0 :
  Int) = oQ xs ∧ True) ∧ ckE xs = ckE xs ∧ True else (∃ x, CkI xs x ∧ (((bif f then f = true else True) ∧ xs = xs) ∧ (0 : Nat) = (0 : Nat) ∧ (0 : Nat) = (0 : Nat) ∧ (0 : Int) = x ∧
  True) ∧ ((0 : Int) = (0 : Int) ∧ (0 : Int) = (0 : Int) ∧ (0 : Int) = (0 : Int) ∧ (0 : Int) = (0 : Int) ∧ True) ∧ ((↑xs.length : Int) = (↑xs.length : Int) ∧ (0 : Int) = ofS xs
  (Int.toNat x) ∧ (0 : Int) = ofA xs (Int.toNat x) ∧ (0 : Int) = ofQ xs (Int.toNat x) ∧ True) ∧ True) ∧ ∀ (x : Int), CkI xs x → bif decide (x < (↑xs.length : Int)) then bif decide
  ((0 : Int) ≤ x ∧ x < (↑xs.length : Int)) then ∃ n, List.take [AV.int IntKind.i64 n].length (List.drop (0 : Nat) (xs.getD x.toNat [])) = [AV.int IntKind.i64 n] ∧ bif decide ((0 :
  Int) ≤ x ∧ x < (↑xs.length : Int)) then ∃ n_1, List.take [AV.int IntKind.i64 n_1].length (List.drop (1 : Nat) (xs.getD x.toNat [])) = [AV.int IntKind.i64 n_1] ∧ bif decide (rng
  IntKind.i64 (n - n_1)) then bif decide (rng IntKind.i64 (ofS xs x.toNat + (n - n_1))) then bif decide (rng IntKind.i64 ((0 : Int) - (n - n_1))) then bif decide (rng IntKind.i64
  (ofA xs x.toNat + max (n - n_1) ((0 : Int) - (n - n_1)))) then bif decide (rng IntKind.i64 ((n - n_1) * (n - n_1))) then bif decide (rng IntKind.i64 (ofQ xs x.toNat + (n - n_1) *
  (n - n_1))) then bif decide (rng IntKind.i64 (x + (1 : Int))) then ∃ y, CkI xs y ∧ (rofI f xs).m y < (rofI f xs).m x ∧ (((bif f then f = true else True) ∧ xs = xs) ∧ (0 : Nat) = (0
  : Nat) ∧ (0 : Nat) = (0 : Nat) ∧ x + (1 : Int) = y ∧ True) ∧ ((0 : Int) = (0 : Int) ∧ (0 : Int) = (0 : Int) ∧ (0 : Int) = (0 : Int) ∧ (0 : Int) = (0 : Int) ∧ True) ∧ ((↑xs.length :
  Int) = (↑xs.length : Int) ∧ ofS xs x.toNat + (n - n_1) = ofS xs (Int.toNat y) ∧ ofA xs x.toNat + max (n - n_1) ((0 : Int) - (n - n_1)) = ofA xs (Int.toNat y) ∧ ofQ xs x.toNat + (n
  - n_1) * (n - n_1) = ofQ xs (Int.toNat y) ∧ True) ∧ True else False else False else False else False else False else False else False else False else False else ((↑xs.length : Int)
  = oN xs ∧ ofS xs x.toNat = oS xs ∧ ofA xs x.toNat = oA xs ∧ ofQ xs x.toNat = oQ xs ∧ True) ∧ (0 : Int) = ckE xs ∧ True
set_option maxRecDepth 100000 in
theorem rof_P : rof_T ckE oN oS oA oQ := by
  unfold rof_T
  intro gl f xs ⟨hr, hs⟩ _
  have bf : cond f (f = true) True := by cases f <;> trivial
  refine ⟨⟨hr, hs⟩, cs (fun q => ?_) (fun q => ?_)⟩
  · unfold oN oS oA oQ; rw [if_neg q, if_neg q, if_neg q, if_neg q]; exact ⟨⟨rfl, rfl, rfl, rfl, trivial⟩, rfl, trivial⟩
  have q := Decidable.not_not.1 q
  obtain ⟨hle, hok⟩ := ck0 q
  refine ⟨⟨0, ⟨by decide, by omega, fun j h => by omega⟩, by repeat' (first | apply And.intro | exact trivial | exact rfl | exact bf)⟩, ?_⟩
  rintro i ⟨h0, h1, hk⟩
  have ei : (i + 1).toNat = i.toNat + 1 := by omega
  refine cs (fun hl => ?_) (fun hl => ?_)
  · obtain ⟨u, v, he, _, _⟩ := hr i.toNat (by omega)
    have hd := okD (hok i.toNat (by omega))
    have e : dfR (xs.getD i.toNat []) = u - v := by rw [he]; rfl
    have b := of_bd hok i.toNat (by omega)
    obtain ⟨b1, b2, b3⟩ := b
    rw [e] at hd
    have sq := sq_bd hd
    have s1 : ofS xs i.toNat + (u - v) = ofS xs (i + 1).toNat := by rw [ei]; simp only [ofS, e]
    have s2 : ofA xs i.toNat + max (u - v) (0 - (u - v)) = ofA xs (i + 1).toNat := by rw [ei]; simp only [ofA, e]
    have s3 : ofQ xs i.toNat + (u - v) * (u - v) = ofQ xs (i + 1).toNat := by rw [ei]; simp only [ofQ, e]
    refine cd1 ⟨h0, hl⟩ ⟨u, by rw [he]; rfl, cd1 ⟨h0, hl⟩ ⟨v, by rw [he]; rfl, cdI (by omega) (cdI (by omega) (cdI (by omega) (cdI (by omega) (cdI (by omega) (cdI (by omega) (cdI (by omega) ⟨i + 1, ⟨by omega, by omega, fun j hj => hok j (by omega)⟩, by simp only [rofI]; omega, by repeat' (first | apply And.intro | exact trivial | exact rfl | exact bf | exact s1 | exact s2 | exact s3)⟩))))))⟩⟩
  · have hz : i.toNat = xs.length := by omega
    unfold oN oS oA oQ
    rw [if_pos q, if_pos q, if_pos q, if_pos q, hz, q]
    exact ⟨⟨rfl, rfl, rfl, rfl, trivial⟩, rfl, trivial⟩
def rof_S (ckE : List (List AV) → Int) (oN : List (List AV) → Int) (oS : List (List AV) → Int) (oA : List (List AV) → Int) (oQ : List (List AV) → Int) : Prop := ∀ (gl : Glob) (f : Bool) (xs : List (List AV)), PrsP xs → fnK Try.prog { glob := gl, spec := lk [(47, (rcheck_s ckE))], specH := lk [], shape := [27, 32], nowf := true } { nt := 55, drop := drp [(1, 768), (2, 1024), (3, 12288), (4, 114688), (6, 917504), (7, 6291456), (8, 17171480576), (9, 532575944704), (10, 140187732541440), (11, 17873661021126656), (12, 18014398509481984)] } (invs [(6, rofI f xs)]) 6 Try.f26 [.sl 2 f xs] (.tup [.agg [.int .i64 (oN xs), .int .i64 (oS xs), .int .i64 (oA xs), .int .i64 (oQ xs)], .int .i64 (ckE xs)])
set_option maxRecDepth 100000 in
theorem rof_e (ckE : List (List AV) → Int) (oN : List (List AV) → Int) (oS : List (List AV) → Int) (oA : List (List AV) → Int) (oQ : List (List AV) → Int) : rof_T ckE oN oS oA oQ = rof_S ckE oN oS oA oQ := by kernel_rfl
theorem rof_v : rof_S ckE oN oS oA oQ := @Eq.mp (rof_T ckE oN oS oA oQ) (rof_S ckE oN oS oA oQ) (rof_e ckE oN oS oA oQ) rof_P
theorem rof_ok (gl : Glob) : SOK Try.prog gl 26 (rof_s ckE oN oS oA oQ) := by
  refine ⟨fok Try.func26 (by kernel_rfl) (by kernel_rfl), ?_⟩
  intro xs pre r h hp
  unfold rof_s at h
  split at h
  · simp only [Option.some.injEq, Prod.mk.injEq] at h
    obtain ⟨h1, h2⟩ := h
    subst h1 h2
    exact fnK_sound tyNil (by exact specOK rfl rfl ⟨rcheck_ok gl, trivial⟩ trivial) (by kernel_rfl) Try.func26 rfl (rof_v gl _ _ hp)
  · cases h
end Go.Proofs.Ytjllgdpnbllnjaa
