/- The clock: the law of the nearest minute. -/
import Derived.Test.YtakmploakbaglaaClO
namespace Go.Proofs.Ytakmploakbaglaa
open Go
set_option linter.unusedVariables false
set_option linter.unusedSimpArgs false

theorem bstR_best {near : Int} {f : Int → Int} {k : Int} (hm : ∀ a b, k ≤ a → a < b → 0 ≤ f a → 0 ≤ f b → f a < f b) :
    ∀ n : Nat, (∀ j, k ≤ j → j < k + n → 0 ≤ f j → 0 ≤ bstR near f k n ∧ (dstI (bstR near f k n) near < dstI (f j) near ∨ (dstI (bstR near f k n) near = dstI (f j) near ∧ bstR near f k n ≤ f j)))
      ∧ (0 ≤ bstR near f k n → ∃ j, k ≤ j ∧ j < k + n ∧ bstR near f k n = f j)
  | 0 => ⟨fun j h1 h2 => by omega, fun h => by simp [bstR] at h⟩
  | n + 1 => by
    obtain ⟨i1, i2⟩ := bstR_best (near := near) hm n
    simp only [bstR, stp]
    have en : k + ((n + 1 : Nat) : Int) = k + n + 1 := by omega
    split
    · next c =>
      refine ⟨fun j h1 h2 h3 => ⟨c.1, ?_⟩, fun _ => ⟨k + n, by omega, by omega, rfl⟩⟩
      rcases Int.lt_or_le j (k + n) with q | q
      · obtain ⟨g1, g2⟩ := i1 j h1 q h3
        have c2 := c.2
        omega
      · have : j = k + n := by omega
        subst this
        exact Or.inr ⟨rfl, Int.le_refl _⟩
    · next c =>
      refine ⟨fun j h1 h2 h3 => ?_, fun h => ?_⟩
      · rcases Int.lt_or_le j (k + n) with q | q
        · exact i1 j h1 q h3
        · have e : j = k + n := by omega
          subst e
          have hb : 0 ≤ bstR near f k n := by
            rcases Int.lt_or_le (bstR near f k n) 0 with z | z
            · exact absurd ⟨h3, Or.inl z⟩ c
            · exact z
          have hd : ¬ dstI (f (k + n)) near < dstI (bstR near f k n) near := fun z => c ⟨h3, Or.inr z⟩
          obtain ⟨j0, a1, a2, a3⟩ := i2 hb
          have := hm j0 (k + n) a1 a2 (by omega) h3
          refine ⟨hb, ?_⟩
          omega
      · obtain ⟨j, a1, a2, a3⟩ := i2 h
        exact ⟨j, a1, by omega, a3⟩
theorem dt_time {m q h i : Int} (hm : 0 ≤ m ∧ m ≤ 52595999) (e : m = q * 1440 + h * 60 + i) (hh : 0 ≤ h ∧ h < 24) (hi : 0 ≤ i ∧ i < 60) : dtH m = h ∧ dtI m = i := by
  unfold dtH dtI dtR fst'
  omega
theorem best_law {d h i near m : Int} (hok : rsOk d h i near = true) (hm : 0 ≤ m ∧ m ≤ 52595999) (ed : dtD m = d) (eh : dtH m = h) (ei : dtI m = i) (hf : -102240 ≤ m - near ∧ m - near ≤ 102240) :
    ¬ dstI m near < dstI (rsV d h i near) near ∧ (dstI m near = dstI (rsV d h i near) near → ¬ m < rsV d h i near) := by
  obtain ⟨hn, _, _, _⟩ := (rsOk_iff _ _ _ _).1 hok
  have hn : 0 ≤ near ∧ near ≤ 52595999 := by simpa [inB] using hn
  subst ed eh ei
  have a1 := vAt_of hm
  have a2 := vAt_of hn
  have b1 := vAt_ms (d := dtD m) (h := dtH m) (i := dtI m) (k := mnth m) (by omega)
  have b2 := vAt_ms (d := dtD near) (h := dtH near) (i := dtI near) (k := mnth near) (by omega)
  rw [a1] at b1
  rw [a2] at b2
  have c1 : mnth m ≤ mnth near + 3 := by
    rcases Int.lt_or_le (mnth near + 3) (mnth m) with c | c
    · have := ms_lt (j := mnth near + 1) (k := mnth m) (by omega) (by omega); omega
    · exact c
  have c2 : mnth near ≤ mnth m + 3 := by
    rcases Int.lt_or_le (mnth m + 3) (mnth near) with c | c
    · have := ms_lt (j := mnth m + 1) (k := mnth near) (by omega) (by omega); omega
    · exact c
  have mono : ∀ a b, mnth near - 3 ≤ a → a < b → 0 ≤ vAt (dtD m) (dtH m) (dtI m) a → 0 ≤ vAt (dtD m) (dtH m) (dtI m) b → vAt (dtD m) (dtH m) (dtI m) a < vAt (dtD m) (dtH m) (dtI m) b := by
    intro a b _ hab ha hb
    obtain ⟨x1, x2, _, _⟩ := vAt_ms ha
    obtain ⟨y1, y2, _, _⟩ := vAt_ms hb
    have := ms_lt x1 hab
    omega
  have key := (bstR_best (near := near) mono 7).1 (mnth m) (by omega) (by omega) (by omega)
  rw [a1] at key
  unfold rsV bst
  rw [if_pos hok]
  omega
theorem rsV_bd (d h i near : Int) : -1 ≤ rsV d h i near ∧ rsV d h i near ≤ 52595999 := by
  unfold rsV bst
  split
  · exact bstR_bd (vAt_bd d h i) 7
  · omega
structure ResP (d h i near : Int) (xs : List (List AV)) (D H I N : Int → Int) : Prop where
  d0 : d = D 0
  h0 : h = H 0
  i0 : i = I 0
  n0 : near = N 0
  d1 : 1 + srcN xs 0 31 = D 1
  h1 : srcN xs (rawA xs 0) 24 = H 1
  i1 : srcN xs (rawA xs (rawA xs 0)) 60 = I 1
  n1 : mnV xs (rawA xs (rawA xs (rawA xs 0))) = N 1
  d2 : 28 + srcN xs (mnA xs (rawA xs (rawA xs (rawA xs 0)))) 4 = D 2
  h2 : srcN xs (rawA xs (mnA xs (rawA xs (rawA xs (rawA xs 0))))) 24 = H 2
  i2 : srcN xs (rawA xs (rawA xs (mnA xs (rawA xs (rawA xs (rawA xs 0)))))) 60 = I 2
  n2 : modZ (rawV xs (rawA xs (rawA xs (rawA xs (mnA xs (rawA xs (rawA xs (rawA xs 0)))))))) 90000 = N 2
structure ResO (x : Int) : Prop where
  lo : 0 ≤ x
  hi : x ≤ 3
def nstR (D H I N : Int → Int) : List (List AV) := [[.int .i64 (D 0), .int .i64 (H 0), .int .i64 (I 0), .int .i64 (N 0)], [.int .i64 (D 1), .int .i64 (H 1), .int .i64 (I 1), .int .i64 (N 1)], [.int .i64 (D 2), .int .i64 (H 2), .int .i64 (I 2), .int .i64 (N 2)]]
def nstO (D H I N : Int → Int) : LInv := ⟨Int, fun j => ⟨[(10, .bool false), (50, .rw 50 4 3), (51, .int .i64 3), (52, .int .i64 j)], [(50, .row 42 4 (nstR D H I N))]⟩, ResO, fun j => (3 - j).toNat, none⟩
structure ResK (D H I N : Int → Int) (j : Int) (k : Int) : Prop where
  jl : 0 ≤ j
  jh : j < 3
  kl : -70 ≤ k
  kh : k ≤ 71
  ok : rsOk (D j) (H j) (I j) (N j) = true
def nstK (D H I N : Int → Int) (V : Int → Int → Int → Int → Int) (j : Int) : LInv := ⟨Int, fun k => ⟨[(10, .bool false), (13, .ptr 13 0), (14, .int .i64 (V (D j) (H j) (I j) (N j))), (18, .int .i64 (max (V (D j) (H j) (I j) (N j) - N j) (N j - V (D j) (H j) (I j) (N j)))), (19, .int .i64 k), (50, .rw 50 4 3), (51, .int .i64 3), (52, .int .i64 j)],
  [(13, .cells [.int .i64 (D j), .int .i64 (H j), .int .i64 (I j), .int .i64 (N j)]), (50, .row 42 4 (nstR D H I N))]⟩, ResK D H I N j, fun k => (71 - k).toNat, none⟩
set_option maxRecDepth 100000 in
def lRes_T (inB : Int → Bool) (dtY : Int → Int) (dtM : Int → Int) (dtD : Int → Int) (dtH : Int → Int) (dtI : Int → Int) (mnV : List (List AV) → Int → Int) (mnA : List (List AV) → Int → Int) (rsV : Int → Int → Int → Int → Int) (rsOk : Int → Int → Int → Int → Bool) (tmB : Int → Int → Bool) (vldB : Int → Int → Int → Int → Int → Bool) (mns : Int → Int → Int → Int → Int → Int) (rsB : Int → Int → Int → Int → Int → Int) (mnth : Int → Int) (rsK0 : Int → Int → Int → Int → Int → Int) (rsKf : Int → Int → Int → Int → Int → Bool) (rsK : Int → Int → Int → Int → Int → Int) (dtR : Int → Int) (fmtC : Int → ByteArray) (prsM : ByteArray → Int) (prsV : ByteArray → Bool) : Prop :=
  ∀ (gl : Glob) (d h i near : Int) (zs : List (List AV)) (D H I N : Int → Int), (∀ (x : List AV), List.Mem x zs → ∃ n, x = [AV.int IntKind.i64 n] ∧ rng IntKind.i64 n) ∧ ResP d h i
  near (List.take (2000 : Nat) zs) D H I N → (-9223372036854775808 : Int) ≤ d ∧ d ≤ (9223372036854775807 : Int) → (-9223372036854775808 : Int) ≤ h ∧ h ≤ (9223372036854775807 : Int) →
  (-9223372036854775808 : Int) ≤ i ∧ i ≤ (9223372036854775807 : Int) → (-9223372036854775808 : Int) ≤ near ∧ near ≤ (9223372036854775807 : Int) → True → True ∧ ((SrcI (List.take
  (2000 : Nat) zs) ∧ (0 : Int) ≤ (0 : Int)) ∧ ((-1000000 : Int) ≤ (1 : Int) ∧ (1 : Int) ≤ (1000000 : Int)) ∧ (1 : Int) ≤ (31 : Int) ∧ (31 : Int) ≤ (1000000 : Int)) ∧ (SrcI (List.take
  (2000 : Nat) zs) ∧ (0 : Int) ≤ rawA (List.take (2000 : Nat) zs) (0 : Int)) ∧ (SrcI (List.take (2000 : Nat) zs) ∧ (0 : Int) ≤ rawA (List.take (2000 : Nat) zs) (rawA (List.take (2000
  : Nat) zs) (0 : Int))) ∧ (SrcI (List.take (2000 : Nat) zs) ∧ (0 : Int) ≤ rawA (List.take (2000 : Nat) zs) (rawA (List.take (2000 : Nat) zs) (rawA (List.take (2000 : Nat) zs) (0 :
  Int)))) ∧ ((SrcI (List.take (2000 : Nat) zs) ∧ (0 : Int) ≤ mnA (List.take (2000 : Nat) zs) (rawA (List.take (2000 : Nat) zs) (rawA (List.take (2000 : Nat) zs) (rawA (List.take
  (2000 : Nat) zs) (0 : Int))))) ∧ ((-1000000 : Int) ≤ (28 : Int) ∧ (28 : Int) ≤ (1000000 : Int)) ∧ (28 : Int) ≤ (31 : Int) ∧ (31 : Int) ≤ (1000000 : Int)) ∧ (SrcI (List.take (2000 :
  Nat) zs) ∧ (0 : Int) ≤ rawA (List.take (2000 : Nat) zs) (mnA (List.take (2000 : Nat) zs) (rawA (List.take (2000 : Nat) zs) (rawA (List.take (2000 : Nat) zs) (rawA (List.take (2000
  : Nat) zs) (0 : Int)))))) ∧ (SrcI (List.take (2000 : Nat) zs) ∧ (0 : Int) ≤ rawA (List.take (2000 : Nat) zs) (rawA (List.take (2000 : Nat) zs) (mnA (List.take (2000 : Nat) zs)
  (rawA (List.take (2000 : Nat) zs) (rawA (List.take (2000 : Nat) zs) (rawA (List.take (2000 : Nat) zs) (0 : Int))))))) ∧ (SrcI (List.take (2000 : Nat) zs) ∧ (0 : Int) ≤ rawA
  (List.take (2000 : Nat) zs) (rawA (List.take (2000 : Nat) zs) (rawA (List.take (2000 : Nat) zs) (mnA (List.take (2000 : Nat) zs) (rawA (List.take (2000 : Nat) zs) (rawA (List.take
  (2000 : Nat) zs) (rawA (List.take (2000 : Nat) zs) (0 : Int)))))))) ∧ True ∧ (∃ x, ResO x ∧ (false = false ∧ (3 : Nat) = (3 : Nat) ∧ (3 : Int) = (3 : Int) ∧ (0 : Int) = x ∧ True) ∧
  [[AV.int IntKind.i64 d, AV.int IntKind.i64 h, AV.int IntKind.i64 i, AV.int IntKind.i64 near], [AV.int IntKind.i64 ((1 : Int) + srcN (List.take (2000 : Nat) zs) (0 : Int) (31 :
  Int)), AV.int IntKind.i64 (srcN (List.take (2000 : Nat) zs) (rawA (List.take (2000 : Nat) zs) (0 : Int)) (24 : Int)), AV.int IntKind.i64 (srcN (List.take (2000 : Nat) zs) (rawA
  (List.take (2000 : Nat) zs) (rawA (List.take (2000 : Nat) zs) (0 : Int))) (60 : Int)), AV.int IntKind.i64 (mnV (List.take (2000 : Nat) zs) (rawA (List.take (2000 : Nat) zs) (rawA
  (List.take (2000 : Nat) zs) (rawA (List.take (2000 : Nat) zs) (0 : Int)))))], [AV.int IntKind.i64 ((28 : Int) + srcN (List.take (2000 : Nat) zs) (mnA (List.take (2000 : Nat) zs)
  (rawA (List.take (2000 : Nat) zs) (rawA (List.take (2000 : Nat) zs) (rawA (List.take (2000 : Nat) zs) (0 : Int))))) (4 : Int)), AV.int IntKind.i64 (srcN (List.take (2000 : Nat) zs)
  (rawA (List.take (2000 : Nat) zs) (mnA (List.take (2000 : Nat) zs) (rawA (List.take (2000 : Nat) zs) (rawA (List.take (2000 : Nat) zs) (rawA (List.take (2000 : Nat) zs) (0 :
  Int)))))) (24 : Int)), AV.int IntKind.i64 (srcN (List.take (2000 : Nat) zs) (rawA (List.take (2000 : Nat) zs) (rawA (List.take (2000 : Nat) zs) (mnA (List.take (2000 : Nat) zs)
  (rawA (List.take (2000 : Nat) zs) (rawA (List.take (2000 : Nat) zs) (rawA (List.take (2000 : Nat) zs) (0 : Int))))))) (60 : Int)), AV.int IntKind.i64 (modZ (rawV (List.take (2000 :
  Nat) zs) (rawA (List.take (2000 : Nat) zs) (rawA (List.take (2000 : Nat) zs) (rawA (List.take (2000 : Nat) zs) (mnA (List.take (2000 : Nat) zs) (rawA (List.take (2000 : Nat) zs)
  (rawA (List.take (2000 : Nat) zs) (rawA (List.take (2000 : Nat) zs) (0 : Int))))))))) (90000 : Int))]] = nstR D H I N ∧ True) ∧ ∀ (x : Int), ResO x → bif decide (x < (3 : Int))
  then bif decide ((0 : Int) ≤ x ∧ x < (3 : Int)) then bif decide ((3 : Nat) = (nstR D H I N).length ∧ x.toNat < (nstR D H I N).length) then ∃ n n_1 n_2 n_3, List.take [AV.int
  IntKind.i64 n, AV.int IntKind.i64 n_1, AV.int IntKind.i64 n_2, AV.int IntKind.i64 n_3].length (List.drop (0 : Nat) ((nstR D H I N).getD x.toNat [])) = [AV.int IntKind.i64 n, AV.int
  IntKind.i64 n_1, AV.int IntKind.i64 n_2, AV.int IntKind.i64 n_3] ∧ True ∧ True ∧ bif decide ¬rsV n n_1 n_2 n_3 = rsV n n_1 n_2 n_3 then false = true else bif decide ¬(if rsOk n n_1
  n_2 n_3 = true then (0 : Int) else (1 : Int)) = if rsOk n n_1 n_2 n_3 = true then (0 : Int) else (1 : Int) then false = true else bif decide ¬(if rsOk n n_1 n_2 n_3 = true then (0
  : Int) else (1 : Int)) = (0 : Int) then bif decide (rng IntKind.i64 (x + (1 : Int))) then ∃ y, ResO y ∧ ((fun x => nstO D H I N) (0 : Int)).m y < ((fun x => nstO D H I N) (0 :
  Int)).m x ∧ (false = false ∧ (3 : Nat) = (3 : Nat) ∧ (3 : Int) = (3 : Int) ∧ x + (1 : Int) = y ∧ True) ∧ nstR D H I N = nstR D H I N ∧ True else False else bif decide (rng
  IntKind.i64 (rsV n n_1 n_2 n_3 - n_3)) then bif decide (rng IntKind.i64 (n_3 - rsV n n_1 n_2 n_3)) then (∃ x_1, ResK D H I N x x_1 ∧ (false = false ∧ (0 : Nat) = (0 : Nat) ∧ rsV n
  n_1 n_2 n_3 = rsV (D x) (H x) (I x) (N x) ∧ max (rsV n n_1 n_2 n_3 - n_3) (n_3 - rsV n n_1 n_2 n_3) = max (rsV (D x) (H x) (I x) (N x) - N x) (N x - rsV (D x) (H x) (I x) (N x)) ∧
  (-70 : Int) = x_1 ∧ (3 : Nat) = (3 : Nat) ∧ (3 : Int) = (3 : Int) ∧ x = x ∧ True) ∧ (n = D x ∧ n_1 = H x ∧ n_2 = I x ∧ n_3 = N x ∧ True) ∧ nstR D H I N = nstR D H I N ∧ True) ∧ ∀
  (x_1 : Int), ResK D H I N x x_1 → bif decide (x_1 ≤ (70 : Int)) then bif decide (rng IntKind.i64 ((N x).tdiv (1440 : Int))) then bif decide (rng IntKind.i64 ((N x).tdiv (1440 :
  Int) + x_1)) then bif decide (rng IntKind.i64 (((N x).tdiv (1440 : Int) + x_1) * (1440 : Int))) then bif decide (rng IntKind.i64 (H x * (60 : Int))) then bif decide (rng
  IntKind.i64 (((N x).tdiv (1440 : Int) + x_1) * (1440 : Int) + H x * (60 : Int))) then bif decide (rng IntKind.i64 (((N x).tdiv (1440 : Int) + x_1) * (1440 : Int) + H x * (60 : Int)
  + I x)) then True ∧ bif decide ¬(if inB (((N x).tdiv (1440 : Int) + x_1) * (1440 : Int) + H x * (60 : Int) + I x) = true then (0 : Int) else (1 : Int)) = (0 : Int) then bif decide
  (rng IntKind.i64 (x_1 + (1 : Int))) then ∃ y, ResK D H I N x y ∧ (nstK D H I N rsV x).m y < (nstK D H I N rsV x).m x_1 ∧ (false = false ∧ (0 : Nat) = (0 : Nat) ∧ rsV (D x) (H x) (I
  x) (N x) = rsV (D x) (H x) (I x) (N x) ∧ max (rsV (D x) (H x) (I x) (N x) - N x) (N x - rsV (D x) (H x) (I x) (N x)) = max (rsV (D x) (H x) (I x) (N x) - N x) (N x - rsV (D x) (H
  x) (I x) (N x)) ∧ x_1 + (1 : Int) = y ∧ (3 : Nat) = (3 : Nat) ∧ (3 : Int) = (3 : Int) ∧ x = x ∧ True) ∧ (D x = D x ∧ H x = H x ∧ I x = I x ∧ N x = N x ∧ True) ∧ nstR D H I N = nstR
  D H I N ∧ True else False else bif decide ¬(if inB (((N x).tdiv (1440 : Int) + x_1) * (1440 : Int) + H x * (60 : Int) + I x) = true then dtD (((N x).tdiv (1440 : Int) + x_1) *
  (1440 : Int) + H x * (60 : Int) + I x) else (0 : Int)) = D x then bif decide (rng IntKind.i64 (x_1 + (1 : Int))) then ∃ y, ResK D H I N x y ∧ (nstK D H I N rsV x).m y < (nstK D H I
  N rsV x).m x_1 ∧ (false = false ∧ (0 : Nat) = (0 : Nat) ∧ rsV (D x) (H x) (I x) (N x) = rsV (D x) (H x) (I x) (N x) ∧ max (rsV (D x) (H x) (I x) (N x) - N x) (N x - rsV (D x) (H x)
  (I x) (N x)) = max (rsV (D x) (H x) (I x) (N x) - N x) (N x - rsV (D x) (H x) (I x) (N x)) ∧ x_1 + (1 : Int) = y ∧ (3 : Nat) = (3 : Nat) ∧ (3 : Int) = (3 : Int) ∧ x = x ∧ True) ∧
  (D x = D x ∧ H x = H x ∧ I x = I x ∧ N x = N x ∧ True) ∧ nstR D H I N = nstR D H I N ∧ True else False else bif decide (rng IntKind.i64 (((N x).tdiv (1440 : Int) + x_1) * (1440 :
  Int) + H x * (60 : Int) + I x - N x)) then bif decide (rng IntKind.i64 (N x - (((N x).tdiv (1440 : Int) + x_1) * (1440 : Int) + H x * (60 : Int) + I x))) then bif decide (max (((N
  x).tdiv (1440 : Int) + x_1) * (1440 : Int) + H x * (60 : Int) + I x - N x) (N x - (((N x).tdiv (1440 : Int) + x_1) * (1440 : Int) + H x * (60 : Int) + I x)) < max (rsV (D x) (H x)
  (I x) (N x) - N x) (N x - rsV (D x) (H x) (I x) (N x))) then false = true else bif decide (max (((N x).tdiv (1440 : Int) + x_1) * (1440 : Int) + H x * (60 : Int) + I x - N x) (N x
  - (((N x).tdiv (1440 : Int) + x_1) * (1440 : Int) + H x * (60 : Int) + I x)) = max (rsV (D x) (H x) (I x) (N x) - N x) (N x - rsV (D x) (H x) (I x) (N x))) then bif decide (((N
  x).tdiv (1440 : Int) + x_1) * (1440 : Int) + H x * (60 : Int) + I x < rsV (D x) (H x) (I x) (N x)) then false = true else bif decide (rng IntKind.i64 (x_1 + (1 : Int))) then ∃ y,
  ResK D H I N x y ∧ (nstK D H I N rsV x).m y < (nstK D H I N rsV x).m x_1 ∧ (false = false ∧ (0 : Nat) = (0 : Nat) ∧ rsV (D x) (H x) (I x) (N x) = rsV (D x) (H x) (I x) (N x) ∧ max
  (rsV (D x) (H x) (I x) (N x) - N x) (N x - rsV (D x) (H x) (I x) (N x)) = max (rsV (D x) (H x) (I x) (N x) - N x) (N x - rsV (D x) (H x) (I x) (N x)) ∧ x_1 + (1 : Int) = y ∧ (3 :
  Nat) = (3 : Nat) ∧ (3 : Int) = (3 : Int) ∧ x = x ∧ True) ∧ (D x = D x ∧ H x = H x ∧ I x = I x ∧ N x = N x ∧ True) ∧ nstR D H I N = nstR D H I N ∧ True else False else bif decide
  (rng IntKind.i64 (x_1 + (1 : Int))) then ∃ y, ResK D H I N x y ∧ (nstK D H I N rsV x).m y < (nstK D H I N rsV x).m x_1 ∧ (false = false ∧ (0 : Nat) = (0 : Nat) ∧ rsV (D x) (H x) (I
  x) (N x) = rsV (D x) (H x) (I x) (N x) ∧ max (rsV (D x) (H x) (I x) (N x) - N x) (N x - rsV (D x) (H x) (I x) (N x)) = max (rsV (D x) (H x) (I x) (N x) - N x) (N x - rsV (D x) (H
  x) (I x) (N x)) ∧ x_1 + (1 : Int) = y ∧ (3 : Nat) = (3 : Nat) ∧ (3 : Int) = (3 : Int) ∧ x = x ∧ True) ∧ (D x = D x ∧ H x = H x ∧ I x = I x ∧ N x = N x ∧ True) ∧ nstR D H I N = nstR
  D H I N ∧ True else False else False else False else False else False else False else False else False else False else bif decide (rng IntKind.i64 (x + (1 : Int))) then ∃ y, ResO y
  ∧ ((fun x => nstO D H I N) (0 : Int)).m y < ((fun x => nstO D H I N) (0 : Int)).m x ∧ (false = false ∧ (3 : Nat) = (3 : Nat) ∧ (3 : Int) = (3 : Int) ∧ x + (1 : Int) = y ∧ True) ∧
  nstR D H I N = nstR D H I N ∧ True else False else False else False else False else False else True ∧ true = true
set_option maxRecDepth 100000 in
theorem lRes_P : lRes_T inB dtY dtM dtD dtH dtI mnV mnA rsV rsOk tmB vldB mns rsB mnth rsK0 rsKf rsK dtR fmtC prsM prsV := by
  unfold lRes_T
  intro gl d h i near zs D H I N ⟨hz, hP⟩ _ _ _ _ _
  have hs : SrcI (List.take 2000 zs) := SrcI.take hz
  generalize List.take 2000 zs = xs at *
  have p1 := rawA_le (xs := xs) (i := 0) (by decide)
  have p2 := rawA_le (xs := xs) p1
  have p3 := rawA_le (xs := xs) p2
  have p4 := mnA_le (xs := xs) p3
  have p5 := rawA_le (xs := xs) p4
  have p6 := rawA_le (xs := xs) p5
  have p7 := rawA_le (xs := xs) p6
  refine ⟨trivial, ⟨⟨hs, by decide⟩, by decide⟩, ⟨hs, p1⟩, ⟨hs, p2⟩, ⟨hs, p3⟩, ⟨⟨hs, p4⟩, by decide⟩, ⟨hs, p5⟩, ⟨hs, p6⟩, ⟨hs, p7⟩, trivial, ⟨0, ⟨by decide, by decide⟩, ⟨rfl, rfl, rfl, rfl, trivial⟩, ?_, trivial⟩, ?_⟩
  · rw [hP.d1, hP.h1, hP.i1, hP.n1, hP.d2, hP.h2, hP.i2, hP.n2, hP.d0, hP.h0, hP.i0, hP.n0]; rfl
  clear hP p1 p2 p3 p4 p5 p6 p7
  rintro x ⟨x0, x3⟩
  refine csplit (fun hx => ?_) (fun _ => ⟨trivial, rfl⟩)
  have hx : x < 3 := of_decide_eq_true hx
  refine cd1 ⟨x0, hx⟩ (cd1 ⟨rfl, by show x.toNat < 3; omega⟩ ⟨D x, H x, I x, N x, ?_, trivial, trivial, ?_⟩)
  · rcases (by omega : x = 0 ∨ x = 1 ∨ x = 2) with rfl | rfl | rfl <;> rfl
  have nx : ResO (x + 1) := ⟨by omega, by omega⟩
  have mx : (nstO D H I N).m (x + 1) < (nstO D H I N).m x := by simp only [nstO]; omega
  refine csplit (fun q => absurd rfl (of_decide_eq_true q)) (fun _ => csplit (fun q => absurd rfl (of_decide_eq_true q)) (fun _ => ?_))
  cases hok : rsOk (D x) (H x) (I x) (N x) with
  | false =>
    refine csplit (fun _ => cdI (by omega) ⟨x + 1, nx, mx, ?_⟩) (fun q => absurd (show ¬ (if false = true then (0 : Int) else 1) = 0 by decide) (of_decide_eq_false q))
    repeat' (first | apply And.intro | exact trivial | exact rfl)
  | true =>
    refine csplit (fun q => absurd rfl (of_decide_eq_true q)) (fun _ => ?_)
    obtain ⟨hn, d1, d2, ht⟩ := (rsOk_iff _ _ _ _).1 hok
    have hN : 0 ≤ N x ∧ N x ≤ 52595999 := by simpa [inB] using hn
    have hT : 0 ≤ H x ∧ H x < 24 ∧ 0 ≤ I x ∧ I x < 60 := by simpa [tmB] using ht
    have hV := rsV_bd (D x) (H x) (I x) (N x)
    refine cdI (by omega) (cdI (by omega) ⟨⟨-70, ⟨x0, hx, by decide, by decide, hok⟩, ?_⟩, ?_⟩)
    · repeat' (first | apply And.intro | exact trivial | exact rfl)
    rintro k ⟨_, _, k1, k2, _⟩
    refine csplit (fun hk => ?_) (fun hk => ?_)
    · have hk : k ≤ 70 := of_decide_eq_true hk
      have nk : ResK D H I N x (k + 1) := ⟨x0, hx, by omega, by omega, hok⟩
      have mk : (nstK D H I N rsV x).m (k + 1) < (nstK D H I N rsV x).m k := by simp only [nstK]; omega
      rw [Int.tdiv_eq_ediv_of_nonneg hN.1]
      refine cdI (by omega) (cdI (by omega) (cdI (by omega) (cdI (by omega) (cdI (by omega) (cdI (by omega) ⟨trivial, ?_⟩)))))
      generalize hM : (N x / 1440 + k) * 1440 + H x * 60 + I x = m
      have mf : -102240 ≤ m - N x ∧ m - N x ≤ 102240 := by omega
      cases hb : inB m with
      | false =>
        refine csplit (fun _ => cdI (by omega) ⟨k + 1, nk, mk, ?_⟩) (fun q => absurd (show ¬ (if false = true then (0 : Int) else 1) = 0 by decide) (of_decide_eq_false q))
        repeat' (first | apply And.intro | exact trivial | exact rfl)
      | true =>
        have hm : 0 ≤ m ∧ m ≤ 52595999 := by simpa [inB] using hb
        obtain ⟨t1, t2⟩ := dt_time hm hM.symm ⟨hT.1, hT.2.1⟩ ⟨hT.2.2.1, hT.2.2.2⟩
        refine csplit (fun q => absurd rfl (of_decide_eq_true q)) (fun _ => csplit (fun _ => cdI (by omega) ⟨k + 1, nk, mk, ?_⟩) (fun hD => ?_))
        · repeat' (first | apply And.intro | exact trivial | exact rfl)
        have hD : dtD m = D x := Decidable.not_not.1 (of_decide_eq_false hD)
        obtain ⟨g1, g2⟩ := best_law hok hm hD t1 t2 mf
        unfold dstI at g1 g2
        refine cdI (by omega) (cdI (by omega) (csplit (fun q => absurd (of_decide_eq_true q) g1) (fun _ => csplit (fun q => csplit (fun r => absurd (of_decide_eq_true r) (g2 (of_decide_eq_true q))) (fun _ => cdI (by omega) ⟨k + 1, nk, mk, ?_⟩)) (fun _ => cdI (by omega) ⟨k + 1, nk, mk, ?_⟩))))
        · repeat' (first | apply And.intro | exact trivial | exact rfl)
        · repeat' (first | apply And.intro | exact trivial | exact rfl)
    · refine cdI (by omega) ⟨x + 1, nx, mx, ?_⟩
      repeat' (first | apply And.intro | exact trivial | exact rfl)
def lRes_S (inB : Int → Bool) (dtY : Int → Int) (dtM : Int → Int) (dtD : Int → Int) (dtH : Int → Int) (dtI : Int → Int) (mnV : List (List AV) → Int → Int) (mnA : List (List AV) → Int → Int) (rsV : Int → Int → Int → Int → Int) (rsOk : Int → Int → Int → Int → Bool) (tmB : Int → Int → Bool) (vldB : Int → Int → Int → Int → Int → Bool) (mns : Int → Int → Int → Int → Int → Int) (rsB : Int → Int → Int → Int → Int → Int) (mnth : Int → Int) (rsK0 : Int → Int → Int → Int → Int → Int) (rsKf : Int → Int → Int → Int → Int → Bool) (rsK : Int → Int → Int → Int → Int → Int) (dtR : Int → Int) (fmtC : Int → ByteArray) (prsM : ByteArray → Int) (prsV : ByteArray → Bool) : Prop := ∀ (gl : Glob) (d h i near : Int) (zs : List (List AV)) (D H I N : Int → Int), IntsA zs ∧ ResP d h i near (zs.take 2000) D H I N → fnK Try.prog { glob := gl, spec := lk [(25, mod_s), (27, (cResolve_s inB dtY dtM dtD dtH dtI tmB vldB mns rsV rsOk rsB mnth)), (28, (rResolve_s inB dtY dtM dtD dtH dtI tmB vldB mns rsV rsOk rsK0 rsKf rsK)), (20, (rDate_s inB dtY dtM dtD dtH dtI dtR)), (21, (cAwake_s fmtC inB prsM prsV rsV rsOk))], specH := lk [(18, (lMinute_s mnV mnA)), (11, srcRg_s), (24, srcn_s), (26, raw_s), (10, newsrc_s)], shape := [55], nowf := true } { nt := 154, drop := drp [(1, 50331648), (2, 1125899839733760), (4, 54043195528445952), (5, 295075847585314897920), (6, 1208630671709449821880320), (7, 153533579091057905187684352), (9, 309485009821345068724781056), (10, 632587360074829320473452478464), (12, 633825300114114700748351602688), (13, 7605903601369376408980219232256), (14, 83066608531755416221275967641878528), (15, 2575379241833274503751126179293167616), (16, 677906277850307095180941600742975733760), (17, 695537157986398219319137697590534224216064), (18, 2853798487124465680143398947702970011468431360), (20, 5708990770823839524233143877797980545530986496), (21, 11417981541647679048466287755595961091061972992)] } (invsN [(3, 52, fun _ => nstO D H I N), (12, 52, nstK D H I N rsV)]) 6 Try.f5 [.int .i64 d, .int .i64 h, .int .i64 i, .int .i64 near, .sl 1 false zs] (.bool true)
set_option maxRecDepth 100000 in
theorem lRes_e (inB : Int → Bool) (dtY : Int → Int) (dtM : Int → Int) (dtD : Int → Int) (dtH : Int → Int) (dtI : Int → Int) (mnV : List (List AV) → Int → Int) (mnA : List (List AV) → Int → Int) (rsV : Int → Int → Int → Int → Int) (rsOk : Int → Int → Int → Int → Bool) (tmB : Int → Int → Bool) (vldB : Int → Int → Int → Int → Int → Bool) (mns : Int → Int → Int → Int → Int → Int) (rsB : Int → Int → Int → Int → Int → Int) (mnth : Int → Int) (rsK0 : Int → Int → Int → Int → Int → Int) (rsKf : Int → Int → Int → Int → Int → Bool) (rsK : Int → Int → Int → Int → Int → Int) (dtR : Int → Int) (fmtC : Int → ByteArray) (prsM : ByteArray → Int) (prsV : ByteArray → Bool) : lRes_T inB dtY dtM dtD dtH dtI mnV mnA rsV rsOk tmB vldB mns rsB mnth rsK0 rsKf rsK dtR fmtC prsM prsV = lRes_S inB dtY dtM dtD dtH dtI mnV mnA rsV rsOk tmB vldB mns rsB mnth rsK0 rsKf rsK dtR fmtC prsM prsV := by kernel_rfl
theorem lRes_v : lRes_S inB dtY dtM dtD dtH dtI mnV mnA rsV rsOk tmB vldB mns rsB mnth rsK0 rsKf rsK dtR fmtC prsM prsV := @Eq.mp (lRes_T inB dtY dtM dtD dtH dtI mnV mnA rsV rsOk tmB vldB mns rsB mnth rsK0 rsKf rsK dtR fmtC prsM prsV) (lRes_S inB dtY dtM dtD dtH dtI mnV mnA rsV rsOk tmB vldB mns rsB mnth rsK0 rsKf rsK dtR fmtC prsM prsV) (lRes_e inB dtY dtM dtD dtH dtI mnV mnA rsV rsOk tmB vldB mns rsB mnth rsK0 rsKf rsK dtR fmtC prsM prsV) lRes_P
def q4 (a b c : Int) (j : Int) : Int := if j = 0 then a else if j = 1 then b else c
theorem res_P (d h i near : Int) (xs : List (List AV)) : ResP d h i near xs (q4 d (1 + srcN xs 0 31) (28 + srcN xs (mnA xs (rawA xs (rawA xs (rawA xs 0)))) 4)) (q4 h (srcN xs (rawA xs 0) 24) (srcN xs (rawA xs (mnA xs (rawA xs (rawA xs (rawA xs 0))))) 24))
    (q4 i (srcN xs (rawA xs (rawA xs 0)) 60) (srcN xs (rawA xs (rawA xs (mnA xs (rawA xs (rawA xs (rawA xs 0)))))) 60)) (q4 near (mnV xs (rawA xs (rawA xs (rawA xs 0)))) (modZ (rawV xs (rawA xs (rawA xs (rawA xs (mnA xs (rawA xs (rawA xs (rawA xs 0)))))))) 90000)) :=
  ⟨rfl, rfl, rfl, rfl, rfl, rfl, rfl, rfl, rfl, rfl, rfl, rfl⟩
theorem res_law (gl : Glob) (d h i near : Int) (zs : List (List AV)) (hz : IntsA zs) : PureC Try.prog gl 5 [.int .i64 d, .int .i64 h, .int .i64 i, .int .i64 near, .sl 1 false zs] (.bool true) :=
  fnK_sound tyNil (by exact specOK rfl rfl ⟨mod_ok gl, cResolve_ok gl, rResolve_ok gl, rDate_ok gl, cAwake_ok gl, trivial⟩ ⟨lMinute_ok gl, srcRg_ok gl, srcn_ok gl, raw_ok gl, newsrc_ok gl, trivial⟩) (by kernel_rfl) Try.func5 rfl (lRes_v gl d h i near zs _ _ _ _ ⟨hz, res_P d h i near _⟩)
end Go.Proofs.Ytakmploakbaglaa
