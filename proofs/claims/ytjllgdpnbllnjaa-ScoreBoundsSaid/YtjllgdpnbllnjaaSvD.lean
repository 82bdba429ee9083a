/- Scores: tables, sums of summaries, means, skill. -/
import Derived.Test.YtjllgdpnbllnjaaSvC
namespace Go.Proofs.Ytjllgdpnbllnjaa
open Go
set_option linter.unusedVariables false
set_option linter.unusedSimpArgs false

def b01 (b : Bool) : Int := if b then 1 else 0
def tH (xs : List (List AV)) (th : Int) : Nat → Int
  | 0 => 0
  | n + 1 => tH xs th n + b01 (decide (th ≤ prF (xs.getD n [])) && decide (th ≤ prO (xs.getD n [])))
def tA (xs : List (List AV)) (th : Int) : Nat → Int
  | 0 => 0
  | n + 1 => tA xs th n + b01 (decide (th ≤ prF (xs.getD n [])) && !decide (th ≤ prO (xs.getD n [])))
def tM (xs : List (List AV)) (th : Int) : Nat → Int
  | 0 => 0
  | n + 1 => tM xs th n + b01 (!decide (th ≤ prF (xs.getD n [])) && decide (th ≤ prO (xs.getD n [])))
def tO (xs : List (List AV)) (th : Int) : Nat → Int
  | 0 => 0
  | n + 1 => tO xs th n + b01 (!decide (th ≤ prF (xs.getD n [])) && !decide (th ≤ prO (xs.getD n [])))
structure TbB (a b c d : Int) (n : Nat) : Prop where
  p1 : 0 ≤ a
  p2 : 0 ≤ b
  p3 : 0 ≤ c
  p4 : 0 ≤ d
  ps : a + b + c + d = n
theorem tb_bd (xs : List (List AV)) (th : Int) : ∀ n : Nat, TbB (tH xs th n) (tA xs th n) (tM xs th n) (tO xs th n) n
  | 0 => ⟨by simp [tH], by simp [tA], by simp [tM], by simp [tO], by simp [tH, tA, tM, tO]⟩
  | n + 1 => by
    obtain ⟨h1, h2, h3, h4, h5⟩ := tb_bd xs th n
    simp only [tH, tA, tM, tO]
    generalize decide (th ≤ prF (xs.getD n [])) = p
    generalize decide (th ≤ prO (xs.getD n [])) = q
    cases p <;> cases q <;> simp only [b01, Bool.and_true, Bool.and_false, Bool.not_true, Bool.not_false, if_true, Bool.false_eq_true, if_false] <;> exact ⟨by omega, by omega, by omega, by omega, by omega⟩
theorem b01_t {b : Bool} (h : b = true) : b01 b = 1 := by rw [h]; rfl
theorem b01_f {b : Bool} (h : b = false) : b01 b = 0 := by rw [h]; rfl
structure TbS (h a m o h' a' m' o' u v th : Int) : Prop where
  p1 : th ≤ u → th ≤ v → h' = h + 1 ∧ a' = a ∧ m' = m ∧ o' = o
  p2 : th ≤ u → ¬ th ≤ v → h' = h ∧ a' = a + 1 ∧ m' = m ∧ o' = o
  p3 : ¬ th ≤ u → th ≤ v → h' = h ∧ a' = a ∧ m' = m + 1 ∧ o' = o
  p4 : ¬ th ≤ u → ¬ th ≤ v → h' = h ∧ a' = a ∧ m' = m ∧ o' = o + 1
theorem tb_step {xs : List (List AV)} {th u v : Int} {n : Nat} (he : xs.getD n [] = [.int .i64 u, .int .i64 v]) : TbS (tH xs th n) (tA xs th n) (tM xs th n) (tO xs th n) (tH xs th (n + 1)) (tA xs th (n + 1)) (tM xs th (n + 1)) (tO xs th (n + 1)) u v th := by
  have e1 : prF (xs.getD n []) = u := by rw [he]; rfl
  have e2 : prO (xs.getD n []) = v := by rw [he]; rfl
  simp only [tH, tA, tM, tO, e1, e2]
  refine ⟨fun h k => ?_, fun h k => ?_, fun h k => ?_, fun h k => ?_⟩
  all_goals
    simp [h, k, b01]
def tbI (f : Bool) (xs : List (List AV)) (th : Int) : LInv := ⟨Int, fun i => ⟨[(1, .int .i64 th), (4, .ptr 4 0), (7, .ptr 7 0), (18, .sl 2 f xs), (19, .int .i64 xs.length), (20, .int .i64 i)], [(4, .cells [.int .i64 0, .int .i64 0, .int .i64 0, .int .i64 0]), (7, .cells [.int .i64 (tH xs th i.toNat), .int .i64 (tA xs th i.toNat), .int .i64 (tM xs th i.toNat), .int .i64 (tO xs th i.toNat)])]⟩, CkI xs, fun i => (xs.length - i).toNat, none⟩
def cH (xs : List (List AV)) (th : Int) : Int := if ckE xs = 0 then tH xs th xs.length else 0
def cA (xs : List (List AV)) (th : Int) : Int := if ckE xs = 0 then tA xs th xs.length else 0
def cM (xs : List (List AV)) (th : Int) : Int := if ckE xs = 0 then tM xs th xs.length else 0
def cO (xs : List (List AV)) (th : Int) : Int := if ckE xs = 0 then tO xs th xs.length else 0
def stable_s (ckE : List (List AV) → Int) (cH : List (List AV) → Int → Int) (cA : List (List AV) → Int → Int) (cM : List (List AV) → Int → Int) (cO : List (List AV) → Int → Int) : Sp
  | [.sl 2 f xs, .int .i64 th] => some (PrsP xs, .tup [.agg [.int .i64 (cH xs th), .int .i64 (cA xs th), .int .i64 (cM xs th), .int .i64 (cO xs th)], .int .i64 (ckE xs)])
  | _ => none
set_option maxRecDepth 100000 in
def stable_T (ckE : List (List AV) → Int) (cH : List (List AV) → Int → Int) (cA : List (List AV) → Int → Int) (cM : List (List AV) → Int → Int) (cO : List (List AV) → Int → Int) : Prop :=
  ∀ (gl : Glob) (f : Bool) (xs : List (List AV)) (th : Int), PrsP xs → True → (-9223372036854775808 : Int) ≤ th ∧ th ≤ (9223372036854775807 : Int) → PrsP xs ∧ bif decide ¬ckE xs = (0
  : Int) then ((0 : Int) = cH xs th ∧ (0 : Int) = cA xs th ∧ (0 : Int) = cM xs th ∧ (0 : Int) = cO xs th ∧ True) ∧ ckE xs = ckE xs ∧ True else (∃ x, CkI xs x ∧ (th = th ∧ (0 : Nat) =
  (0 : Nat) ∧ (0 : Nat) = (0 : Nat) ∧ ((bif f then f = true else True) ∧ xs = xs) ∧ (↑xs.length : Int) = (↑xs.length : Int) ∧ (0 : Int) = x ∧ True) ∧ ((0 : Int) = (0 : Int) ∧ (0 :
  Int) = (0 : Int) ∧ (0 : Int) = (0 : Int) ∧ (0 : Int) = (0 : Int) ∧ True) ∧ ((0 : Int) = tH xs th (Int.toNat x) ∧ (0 : Int) = tA xs th (Int.toNat x) ∧ (0 : Int) = tM xs th
  (Int.toNat x) ∧ (0 : Int) = tO xs th (Int.toNat x) ∧ True) ∧ True) ∧ ∀ (x : Int), CkI xs x → bif decide (x < (↑xs.length : Int)) then bif decide ((0 : Int) ≤ x ∧ x < (↑xs.length :
  Int)) then ∃ n n_1, List.take [AV.int IntKind.i64 n, AV.int IntKind.i64 n_1].length (xs.getD x.toNat []) = [AV.int IntKind.i64 n, AV.int IntKind.i64 n_1] ∧ bif decide (th ≤ n) then
  bif decide (th ≤ n_1) then bif decide (rng IntKind.i64 (tH xs th x.toNat + (1 : Int))) then bif decide (rng IntKind.i64 (x + (1 : Int))) then ∃ y, CkI xs y ∧ (tbI f xs th).m y <
  (tbI f xs th).m x ∧ (th = th ∧ (0 : Nat) = (0 : Nat) ∧ (0 : Nat) = (0 : Nat) ∧ ((bif f then f = true else True) ∧ xs = xs) ∧ (↑xs.length : Int) = (↑xs.length : Int) ∧ x + (1 : Int)
  = y ∧ True) ∧ ((0 : Int) = (0 : Int) ∧ (0 : Int) = (0 : Int) ∧ (0 : Int) = (0 : Int) ∧ (0 : Int) = (0 : Int) ∧ True) ∧ (tH xs th x.toNat + (1 : Int) = tH xs th (Int.toNat y) ∧ tA
  xs th x.toNat = tA xs th (Int.toNat y) ∧ tM xs th x.toNat = tM xs th (Int.toNat y) ∧ tO xs th x.toNat = tO xs th (Int.toNat y) ∧ True) ∧ True else False else False else bif decide
  (th ≤ n) then bif decide (rng IntKind.i64 (tA xs th x.toNat + (1 : Int))) then bif decide (rng IntKind.i64 (x + (1 : Int))) then ∃ y, CkI xs y ∧ (tbI f xs th).m y < (tbI f xs th).m
  x ∧ (th = th ∧ (0 : Nat) = (0 : Nat) ∧ (0 : Nat) = (0 : Nat) ∧ ((bif f then f = true else True) ∧ xs = xs) ∧ (↑xs.length : Int) = (↑xs.length : Int) ∧ x + (1 : Int) = y ∧ True) ∧
  ((0 : Int) = (0 : Int) ∧ (0 : Int) = (0 : Int) ∧ (0 : Int) = (0 : Int) ∧ (0 : Int) = (0 : Int) ∧ True) ∧ (tH xs th x.toNat = tH xs th (Int.toNat y) ∧ tA xs th x.toNat + (1 : Int) =
  tA xs th (Int.toNat y) ∧ tM xs th x.toNat = tM xs th (Int.toNat y) ∧ tO xs th x.toNat = tO xs th (Int.toNat y) ∧ True) ∧ True else False else False else bif decide (th ≤ n_1) then
  bif decide (rng IntKind.i64 (tM xs th x.toNat + (1 : Int))) then bif decide (rng IntKind.i64 (x + (1 : Int))) then ∃ y, CkI xs y ∧ (tbI f xs th).m y < (tbI f xs th).m x ∧ (th = th
  ∧ (0 : Nat) = (0 : Nat) ∧ (0 : Nat) = (0 : Nat) ∧ ((bif f then f = true else True) ∧ xs = xs) ∧ (↑xs.length : Int) = (↑xs.length : Int) ∧ x + (1 : Int) = y ∧ True) ∧ ((0 : Int) =
  (0 : Int) ∧ (0 : Int) = (0 : Int) ∧ (0 : Int) = (0 : Int) ∧ (0 : Int) = (0 : Int) ∧ True) ∧ (tH xs th x.toNat = tH xs th (Int.toNat y) ∧ tA xs th x.toNat = tA xs th (Int.toNat y) ∧
  tM xs th x.toNat + (1 : Int) = tM xs th (Int.toNat y) ∧ tO xs th x.toNat = tO xs th (Int.toNat y) ∧ True) ∧ True else False else False else bif decide (rng IntKind.i64 (tO xs th
  x.toNat + (1 : Int))) then bif decide (rng IntKind.i64 (x + (1 : Int))) then ∃ y, CkI xs y ∧ (tbI f xs th).m y < (tbI f xs th).m x ∧ (th = th ∧ (0 : Nat) = (0 : Nat) ∧ (0 : Nat) =
  (0 : Nat) ∧ ((bif f then f = true else True) ∧ xs = xs) ∧ (↑xs.length : Int) = (↑xs.length : Int) ∧ x + (1 : Int) = y ∧ True) ∧ ((0 : Int) = (0 : Int) ∧ (0 : Int) = (0 : Int) ∧ (0
  : Int) = (0 : Int) ∧ (0 : Int) = (0 : Int) ∧ True) ∧ (tH xs th x.toNat = tH xs th (Int.toNat y) ∧ tA xs th x.toNat = tA xs th (Int.toNat y) ∧ tM xs th x.toNat = tM xs th (Int.toNat
  y) ∧ tO xs th x.toNat + (1 : Int) = tO xs th (Int.toNat y) ∧ True) ∧ True else False else False else bif decide (th ≤ n) then bif decide (rng IntKind.i64 (tA xs th x.toNat + (1 :
  Int))) then bif decide (rng IntKind.i64 (x + (1 : Int))) then ∃ y, CkI xs y ∧ (tbI f xs th).m y < (tbI f xs th).m x ∧ (th = th ∧ (0 : Nat) = (0 : Nat) ∧ (0 : Nat) = (0 : Nat) ∧
  ((bif f then f = true else True) ∧ xs = xs) ∧ (↑xs.length : Int) = (↑xs.length : Int) ∧ x + (1 : Int) = y ∧ True) ∧ ((0 : Int) = (0 : Int) ∧ (0 : Int) = (0 : Int) ∧ (0 : Int) = (0
  : Int) ∧ (0 : Int) = (0 : Int) ∧ True) ∧ (tH xs th x.toNat = tH xs th (Int.toNat y) ∧ tA xs th x.toNat + (1 : Int) = tA xs th (Int.toNat y) ∧ tM xs th x.toNat = tM xs th (Int.toNat
  y) ∧ tO xs th x.toNat = tO xs th (Int.toNat y) ∧ True) ∧ True else False else False else bif decide (th ≤ n_1) then bif decide (rng IntKind.i64 (tM xs th x.toNat + (1 : Int))) then
  bif decide (rng IntKind.i64 (x + (1 : Int))) then ∃ y, CkI xs y ∧ (tbI f xs th).m y < (tbI f xs th).m x ∧ (th = th ∧ (0 : Nat) = (0 : Nat) ∧ (0 : Nat) = (0 : Nat) ∧ ((bif f then f
  = true else True) ∧ xs = xs) ∧ (↑xs.length : Int) = (↑xs.length : Int) ∧ x + (1 : Int) = y ∧ True) ∧ ((0 : Int) = (0 : Int) ∧ (0 : Int) = (0 : Int) ∧ (0 : Int) = (0 : Int) ∧ (0 :
  Int) = (0 : Int) ∧ True) ∧ (tH xs th x.toNat = tH xs th (Int.toNat y) ∧ tA xs th x.toNat = tA xs th (Int.toNat y) ∧ tM xs th x.toNat + (1 : Int) = tM xs th (Int.toNat y) ∧ tO xs th
  x.toNat = tO xs th (Int.toNat y) ∧ True) ∧ True else False else False else bif decide (rng IntKind.i64 (tO xs th x.toNat + (1 : Int))) then bif decide (rng IntKind.i64 (x + (1 :
  Int))) then ∃ y, CkI xs y ∧ (tbI f xs th).m y < (tbI f xs th).m x ∧ (th = th ∧ (0 : Nat) = (0 : Nat) ∧ (0 : Nat) = (0 : Nat) ∧ ((bif f then f = true else True) ∧ xs = xs) ∧
  (↑xs.length : Int) = (↑xs.length : Int) ∧ x + (1 : Int) = y ∧ True) ∧ ((0 : Int) = (0 : Int) ∧ (0 : Int) = (0 : Int) ∧ (0 : Int) = (0 : Int) ∧ (0 : Int) = (0 : Int) ∧ True) ∧ (tH
  xs th x.toNat = tH xs th (Int.toNat y) ∧ tA xs th x.toNat = tA xs th (Int.toNat y) ∧ tM xs th x.toNat = tM xs th (Int.toNat y) ∧ tO xs th x.toNat + (1 : Int) = tO xs th (Int.toNat
  y) ∧ True) ∧ True else False else False else False else (tH xs th x.toNat = cH xs th ∧ tA xs th x.toNat = cA xs th ∧ tM xs th x.toNat = cM xs th ∧ tO xs th x.toNat = cO xs th ∧
  True) ∧ (0 : Int) = ckE xs ∧ True
set_option maxRecDepth 100000 in
theorem stable_P : stable_T ckE cH cA cM cO := by
  unfold stable_T
  intro gl f xs th ⟨hr, hs⟩ _ _
  have bf : cond f (f = true) True := by cases f <;> trivial
  refine ⟨⟨hr, hs⟩, cs (fun q => ?_) (fun q => ?_)⟩
  · unfold cH cA cM cO; rw [if_neg q, if_neg q, if_neg q, if_neg q]; exact ⟨⟨rfl, rfl, rfl, rfl, trivial⟩, rfl, trivial⟩
  have q := Decidable.not_not.1 q
  obtain ⟨hle, hok⟩ := ck0 q
  refine ⟨⟨0, ⟨by decide, by omega, fun j h => by omega⟩, by repeat' (first | apply And.intro | exact trivial | exact rfl | exact bf)⟩, ?_⟩
  rintro i ⟨h0, h1, hk⟩
  have ei : (i + 1).toNat = i.toNat + 1 := by omega
  refine cs (fun hl => ?_) (fun hl => ?_)
  · obtain ⟨u, v, he, _, _⟩ := hr i.toNat (by omega)
    obtain ⟨s1, s2, s3, s4⟩ := tb_step (th := th) he
    obtain ⟨g1, g2, g3, g4, g5⟩ := tb_bd xs th i.toNat
    rw [← ei] at s1 s2 s3 s4
    refine cd1 ⟨h0, hl⟩ ⟨u, v, by rw [he]; rfl, ?_⟩
    all_goals (try trivial)
    repeat' (first | refine cdI (by omega) ?_ | refine cs (fun _ => ?_) (fun _ => ?_))
    all_goals
      first
        | (exfalso; omega)
        | exact ⟨i + 1, ⟨by omega, by omega, fun j hj => hok j (by omega)⟩, by simp only [tbI]; omega, by repeat' (first | apply And.intro | exact trivial | exact bf | omega | exact rfl)⟩
  · have hz : i.toNat = xs.length := by omega
    unfold cH cA cM cO
    rw [if_pos q, if_pos q, if_pos q, if_pos q, hz, q]
    exact ⟨⟨rfl, rfl, rfl, rfl, trivial⟩, rfl, trivial⟩
def stable_S (ckE : List (List AV) → Int) (cH : List (List AV) → Int → Int) (cA : List (List AV) → Int → Int) (cM : List (List AV) → Int → Int) (cO : List (List AV) → Int → Int) : Prop := ∀ (gl : Glob) (f : Bool) (xs : List (List AV)) (th : Int), PrsP xs → fnK Try.prog { glob := gl, spec := lk [(44, (scheck_s ckE))], specH := lk [], shape := [23], nowf := true } { nt := 59, drop := drp [(1, 12288), (2, 16384), (3, 196608), (7, 12582912), (8, 4278190080), (9, 64424509440), (10, 2061584302080), (11, 32985348833280), (12, 70368744177664), (13, 2111062325329920), (14, 4503599627370496), (15, 135107988821114880), (16, 144115188075855872), (17, 288230376151711744)] } (invs [(6, tbI f xs th)]) 6 Try.f22 [.sl 2 f xs, .int .i64 th] (.tup [.agg [.int .i64 (cH xs th), .int .i64 (cA xs th), .int .i64 (cM xs th), .int .i64 (cO xs th)], .int .i64 (ckE xs)])
set_option maxRecDepth 100000 in
theorem stable_e (ckE : List (List AV) → Int) (cH : List (List AV) → Int → Int) (cA : List (List AV) → Int → Int) (cM : List (List AV) → Int → Int) (cO : List (List AV) → Int → Int) : stable_T ckE cH cA cM cO = stable_S ckE cH cA cM cO := by kernel_rfl
theorem stable_v : stable_S ckE cH cA cM cO := @Eq.mp (stable_T ckE cH cA cM cO) (stable_S ckE cH cA cM cO) (stable_e ckE cH cA cM cO) stable_P
theorem stable_ok (gl : Glob) : SOK Try.prog gl 22 (stable_s ckE cH cA cM cO) := by
  refine ⟨fok Try.func22 (by kernel_rfl) (by kernel_rfl), ?_⟩
  intro xs pre r h hp
  unfold stable_s at h
  split at h
  · simp only [Option.some.injEq, Prod.mk.injEq] at h
    obtain ⟨h1, h2⟩ := h
    subst h1 h2
    exact fnK_sound tyNil (by exact specOK rfl rfl ⟨scheck_ok gl, trivial⟩ trivial) (by kernel_rfl) Try.func22 rfl (stable_v gl _ _ _ hp)
  · cases h
def rtbI (f : Bool) (xs : List (List AV)) (th : Int) : LInv := ⟨Int, fun i => ⟨[(0, .sl 2 f xs), (1, .int .i64 th), (4, .ptr 4 0), (7, .ptr 7 0), (8, .int .i64 i)], [(4, .cells [.int .i64 0, .int .i64 0, .int .i64 0, .int .i64 0]), (7, .cells [.int .i64 (tH xs th i.toNat), .int .i64 (tA xs th i.toNat), .int .i64 (tM xs th i.toNat), .int .i64 (tO xs th i.toNat)])]⟩, CkI xs, fun i => (xs.length - i).toNat, none⟩
def rtable_s (ckE : List (List AV) → Int) (cH : List (List AV) → Int → Int) (cA : List (List AV) → Int → Int) (cM : List (List AV) → Int → Int) (cO : List (List AV) → Int → Int) : Sp
  | [.sl 2 f xs, .int .i64 th] => some (PrsP xs, .tup [.agg [.int .i64 (cH xs th), .int .i64 (cA xs th), .int .i64 (cM xs th), .int .i64 (cO xs th)], .int .i64 (ckE xs)])
  | _ => none
set_option maxRecDepth 100000 in
def rtable_T (ckE : List (List AV) → Int) (cH : List (List AV) → Int → Int) (cA : List (List AV) → Int → Int) (cM : List (List AV) → Int → Int) (cO : List (List AV) → Int → Int) : Prop :=
  ∀ (gl : Glob) (f : Bool) (xs : List (List AV)) (th : Int), PrsP xs → True → (-9223372036854775808 : Int) ≤ th ∧ th ≤ (9223372036854775807 : Int) → PrsP xs ∧ bif decide ¬ckE xs = (0
  : Int) then ((0 : Int) = cH xs th ∧ (0 : Int) = cA xs th ∧ (0 : Int) = cM xs th ∧ (0 : Int) = cO xs th ∧ True) ∧ ckE xs = ckE xs ∧ True else (∃ x, CkI xs x ∧ (((bif f then f = true
  else True) ∧ xs = xs) ∧ th = th ∧ (0 : Nat) = (0 : Nat) ∧ (0 : Nat) = (0 : Nat) ∧ (0 : Int) = x ∧ True) ∧ ((0 : Int) = (0 : Int) ∧ (0 : Int) = (0 : Int) ∧ (0 : Int) = (0 : Int) ∧
  (0 : Int) = (0 : Int) ∧ True) ∧ ((0 : Int) = tH xs th (Int.toNat x) ∧ (0 : Int) = tA xs th (Int.toNat x) ∧ (0 : Int) = tM xs th (Int.toNat x) ∧ (0 : Int) = tO xs th (Int.toNat x) ∧
  True) ∧ True) ∧ ∀ (x : Int), CkI xs x → bif decide (x < (↑xs.length : Int)) then bif decide ((0 : Int) ≤ x ∧ x < (↑xs.length : Int)) then ∃ n, List.take [AV.int IntKind.i64
  n].length (List.drop (0 : Nat) (xs.getD x.toNat [])) = [AV.int IntKind.i64 n] ∧ bif decide ((0 : Int) ≤ x ∧ x < (↑xs.length : Int)) then ∃ n_1, List.take [AV.int IntKind.i64
  n_1].length (List.drop (1 : Nat) (xs.getD x.toNat [])) = [AV.int IntKind.i64 n_1] ∧ bif decide (th ≤ n) then bif decide (th ≤ n_1) then bif decide (rng IntKind.i64 (tH xs th
  x.toNat + (1 : Int))) then bif decide (rng IntKind.i64 (x + (1 : Int))) then ∃ y, CkI xs y ∧ (rtbI f xs th).m y < (rtbI f xs th).m x ∧ (((bif f then f = true else True) ∧ xs = xs)
  ∧ th = th ∧ (0 : Nat) = (0 : Nat) ∧ (0 : Nat) = (0 : Nat) ∧ x + (1 : Int) = y ∧ True) ∧ ((0 : Int) = (0 : Int) ∧ (0 : Int) = (0 : Int) ∧ (0 : Int) = (0 : Int) ∧ (0 : Int) = (0 :
  Int) ∧ True) ∧ (tH xs th x.toNat + (1 : Int) = tH xs th (Int.toNat y) ∧ tA xs th x.toNat = tA xs th (Int.toNat y) ∧ tM xs th x.toNat = tM xs th (Int.toNat y) ∧ tO xs th x.toNat =
  tO xs th (Int.toNat y) ∧ True) ∧ True else False else False else bif decide (th ≤ n) then bif decide (rng IntKind.i64 (tA xs th x.toNat + (1 : Int))) then bif decide (rng
  IntKind.i64 (x + (1 : Int))) then ∃ y, CkI xs y ∧ (rtbI f xs th).m y < (rtbI f xs th).m x ∧ (((bif f then f = true else True) ∧ xs = xs) ∧ th = th ∧ (0 : Nat) = (0 : Nat) ∧ (0 :
  Nat) = (0 : Nat) ∧ x + (1 : Int) = y ∧ True) ∧ ((0 : Int) = (0 : Int) ∧ (0 : Int) = (0 : Int) ∧ (0 : Int) = (0 : Int) ∧ (0 : Int) = (0 : Int) ∧ True) ∧ (tH xs th x.toNat = tH xs th
  (Int.toNat y) ∧ tA xs th x.toNat + (1 : Int) = tA xs th (Int.toNat y) ∧ tM xs th x.toNat = tM xs th (Int.toNat y) ∧ tO xs th x.toNat = tO xs th (Int.toNat y) ∧ True) ∧ True else
  False else False else bif decide (th ≤ n_1) then bif decide (rng IntKind.i64 (tM xs th x.toNat + (1 : Int))) then bif decide (rng IntKind.i64 (x + (1 : Int))) then ∃ y, CkI xs y ∧
  (rtbI f xs th).m y < (rtbI f xs th).m x ∧ (((bif f then f = true else True) ∧ xs = xs) ∧ th = th ∧ (0 : Nat) = (0 : Nat) ∧ (0 : Nat) = (0 : Nat) ∧ x + (1 : Int) = y ∧ True) ∧ ((0 :
  Int) = (0 : Int) ∧ (0 : Int) = (0 : Int) ∧ (0 : Int) = (0 : Int) ∧ (0 : Int) = (0 : Int) ∧ True) ∧ (tH xs th x.toNat = tH xs th (Int.toNat y) ∧ tA xs th x.toNat = tA xs th
  (Int.toNat y) ∧ tM xs th x.toNat + (1 : Int) = tM xs th (Int.toNat y) ∧ tO xs th x.toNat = tO xs th (Int.toNat y) ∧ True) ∧ True else False else False else bif decide (rng
  IntKind.i64 (tO xs th x.toNat + (1 : Int))) then bif decide (rng IntKind.i64 (x + (1 : Int))) then ∃ y, CkI xs y ∧ (rtbI f xs th).m y < (rtbI f xs th).m x ∧ (((bif f then f = true
  else True) ∧ xs = xs) ∧ th = th ∧ (0 : Nat) = (0 : Nat) ∧ (0 : Nat) = (0 : Nat) ∧ x + (1 : Int) = y ∧ True) ∧ ((0 : Int) = (0 : Int) ∧ (0 : Int) = (0 : Int) ∧ (0 : Int) = (0 : Int)
  ∧ (0 : Int) = (0 : Int) ∧ True) ∧ (tH xs th x.toNat = tH xs th (Int.toNat y) ∧ tA xs th x.toNat = tA xs th (Int.toNat y) ∧ tM xs th x.toNat = tM xs th (Int.toNat y) ∧ tO xs th
  x.toNat + (1 : Int) = tO xs th (Int.toNat y) ∧ True) ∧ True else False else False else bif decide (th ≤ n) then bif decide (rng IntKind.i64 (tA xs th x.toNat + (1 : Int))) then bif
  decide (rng IntKind.i64 (x + (1 : Int))) then ∃ y, CkI xs y ∧ (rtbI f xs th).m y < (rtbI f xs th).m x ∧ (((bif f then f = true else True) ∧ xs = xs) ∧ th = th ∧ (0 : Nat) = (0 :
  Nat) ∧ (0 : Nat) = (0 : Nat) ∧ x + (1 : Int) = y ∧ True) ∧ ((0 : Int) = (0 : Int) ∧ (0 : Int) = (0 : Int) ∧ (0 : Int) = (0 : Int) ∧ (0 : Int) = (0 : Int) ∧ True) ∧ (tH xs th
  x.toNat = tH xs th (Int.toNat y) ∧ tA xs th x.toNat + (1 : Int) = tA xs th (Int.toNat y) ∧ tM xs th x.toNat = tM xs th (Int.toNat y) ∧ tO xs th x.toNat = tO xs th (Int.toNat y) ∧
  True) ∧ True else False else False else bif decide (th ≤ n_1) then bif decide (rng IntKind.i64 (tM xs th x.toNat + (1 : Int))) then bif decide (rng IntKind.i64 (x + (1 : Int)))
  then ∃ y, CkI xs y ∧ (rtbI f xs th).m y < (rtbI f xs th).m x ∧ (((bif f then f = true else True) ∧ xs = xs) ∧ th = th ∧ (0 : Nat) = (0 : Nat) ∧ (0 : Nat) = (0 : Nat) ∧ x + (1 :
  Int) = y ∧ True) ∧ ((0 : Int) = (0 : Int) ∧ (0 : Int) = (0 : Int) ∧ (0 : Int) = (0 : Int) ∧ (0 : Int) = (0 : Int) ∧ True) ∧ (tH xs th x.toNat = tH xs th (Int.toNat y) ∧ tA xs th
  x.toNat = tA xs th (Int.toNat y) ∧ tM xs th x.toNat + (1 : Int) = tM xs th (Int.toNat y) ∧ tO xs th x.toNat = tO xs th (Int.toNat y) ∧ True) ∧ True else False else False else bif
  decide (rng IntKind.i64 (tO xs th x.toNat + (1 : Int))) then bif decide (rng IntKind.i64 (x + (1 : Int))) then ∃ y, CkI xs y ∧ (rtbI f xs th).m y < (rtbI f xs th).m x ∧ (((bif f
  then f = true else True) ∧ xs = xs) ∧ th = th ∧ (0 : Nat) = (0 : Nat) ∧ (0 : Nat) = (0 : Nat) ∧ x + (1 : Int) = y ∧ True) ∧ ((0 : Int) = (0 : Int) ∧ (0 : Int) = (0 : Int) ∧ (0 :
  Int) = (0 : Int) ∧ (0 : Int) = (0 : Int) ∧ True) ∧ (tH xs th x.toNat = tH xs th (Int.toNat y) ∧ tA xs th x.toNat = tA xs th (Int.toNat y) ∧ tM xs th x.toNat = tM xs th (Int.toNat
  y) ∧ tO xs th x.toNat + (1 : Int) = tO xs th (Int.toNat y) ∧ True) ∧ True else False else False else False else False else (tH xs th x.toNat = cH xs th ∧ tA xs th x.toNat = cA xs
  th ∧ tM xs th x.toNat = cM xs th ∧ tO xs th x.toNat = cO xs th ∧ True) ∧ (0 : Int) = ckE xs ∧ True
set_option maxRecDepth 100000 in
theorem rtable_P : rtable_T ckE cH cA cM cO := by
  unfold rtable_T
  intro gl f xs th ⟨hr, hs⟩ _ _
  have bf : cond f (f = true) True := by cases f <;> trivial
  refine ⟨⟨hr, hs⟩, cs (fun q => ?_) (fun q => ?_)⟩
  · unfold cH cA cM cO; rw [if_neg q, if_neg q, if_neg q, if_neg q]; exact ⟨⟨rfl, rfl, rfl, rfl, trivial⟩, rfl, trivial⟩
  have q := Decidable.not_not.1 q
  obtain ⟨hle, hok⟩ := ck0 q
  refine ⟨⟨0, ⟨by decide, by omega, fun j h => by omega⟩, by repeat' (first | apply And.intro | exact trivial | exact rfl | exact bf)⟩, ?_⟩
  rintro i ⟨h0, h1, hk⟩
  have ei : (i + 1).toNat = i.toNat + 1 := by omega
  refine cs (fun hl => ?_) (fun hl => ?_)
  · obtain ⟨u, v, he, _, _⟩ := hr i.toNat (by omega)
    obtain ⟨s1, s2, s3, s4⟩ := tb_step (th := th) he
    obtain ⟨g1, g2, g3, g4, g5⟩ := tb_bd xs th i.toNat
    rw [← ei] at s1 s2 s3 s4
    refine cd1 ⟨h0, hl⟩ ⟨u, by rw [he]; rfl, cd1 ⟨h0, hl⟩ ⟨v, by rw [he]; rfl, ?_⟩⟩
    all_goals (try trivial)
    repeat' (first | refine cdI (by omega) ?_ | refine cs (fun _ => ?_) (fun _ => ?_))
    all_goals
      first
        | (exfalso; omega)
        | exact ⟨i + 1, ⟨by omega, by omega, fun j hj => hok j (by omega)⟩, by simp only [rtbI]; omega, by repeat' (first | apply And.intro | exact trivial | exact bf | omega | exact rfl)⟩
  · have hz : i.toNat = xs.length := by omega
    unfold cH cA cM cO
    rw [if_pos q, if_pos q, if_pos q, if_pos q, hz, q]
    exact ⟨⟨rfl, rfl, rfl, rfl, trivial⟩, rfl, trivial⟩
def rtable_S (ckE : List (List AV) → Int) (cH : List (List AV) → Int → Int) (cA : List (List AV) → Int → Int) (cM : List (List AV) → Int → Int) (cO : List (List AV) → Int → Int) : Prop := ∀ (gl : Glob) (f : Bool) (xs : List (List AV)) (th : Int), PrsP xs → fnK Try.prog { glob := gl, spec := lk [(47, (rcheck_s ckE))], specH := lk [], shape := [27, 34], nowf := true } { nt := 63, drop := drp [(1, 6144), (2, 8192), (3, 98304), (6, 917504), (7, 6291456), (8, 137430564864), (9, 2061584302080), (10, 65970697666560), (11, 1055531162664960), (12, 2251799813685248), (13, 67553994410557440), (14, 144115188075855872), (15, 4323455642275676160), (16, 4611686018427387904)] } (invs [(6, rtbI f xs th)]) 6 Try.f27 [.sl 2 f xs, .int .i64 th] (.tup [.agg [.int .i64 (cH xs th), .int .i64 (cA xs th), .int .i64 (cM xs th), .int .i64 (cO xs th)], .int .i64 (ckE xs)])
set_option maxRecDepth 100000 in
theorem rtable_e (ckE : List (List AV) → Int) (cH : List (List AV) → Int → Int) (cA : List (List AV) → Int → Int) (cM : List (List AV) → Int → Int) (cO : List (List AV) → Int → Int) : rtable_T ckE cH cA cM cO = rtable_S ckE cH cA cM cO := by kernel_rfl
theorem rtable_v : rtable_S ckE cH cA cM cO := @Eq.mp (rtable_T ckE cH cA cM cO) (rtable_S ckE cH cA cM cO) (rtable_e ckE cH cA cM cO) rtable_P
theorem rtable_ok (gl : Glob) : SOK Try.prog gl 27 (rtable_s ckE cH cA cM cO) := by
  refine ⟨fok Try.func27 (by kernel_rfl) (by kernel_rfl), ?_⟩
  intro xs pre r h hp
  unfold rtable_s at h
  split at h
  · simp only [Option.some.injEq, Prod.mk.injEq] at h
    obtain ⟨h1, h2⟩ := h
    subst h1 h2
    exact fnK_sound tyNil (by exact specOK rfl rfl ⟨rcheck_ok gl, trivial⟩ trivial) (by kernel_rfl) Try.func27 rfl (rtable_v gl _ _ _ hp)
  · cases h
def adB (n s a q : Int) : Bool := decide ((0 ≤ n ∧ n ≤ 1000000) ∧ (-576460752303423488 ≤ s ∧ s ≤ 576460752303423488) ∧ (0 ≤ a ∧ a ≤ 576460752303423488) ∧ 0 ≤ q ∧ q ≤ 576460752303423488)
theorem adB_iff {n s a q : Int} : adB n s a q = true ↔ (0 ≤ n ∧ n ≤ 1000000) ∧ (-576460752303423488 ≤ s ∧ s ≤ 576460752303423488) ∧ (0 ≤ a ∧ a ≤ 576460752303423488) ∧ 0 ≤ q ∧ q ≤ 576460752303423488 := by unfold adB; rw [decide_eq_true_eq]
theorem adB_no {n s a q : Int} (h : ¬ ((0 ≤ n ∧ n ≤ 1000000) ∧ (-576460752303423488 ≤ s ∧ s ≤ 576460752303423488) ∧ (0 ≤ a ∧ a ≤ 576460752303423488) ∧ 0 ≤ q ∧ q ≤ 576460752303423488)) : false = adB n s a q := (decide_eq_false h).symm
def sadded_s (adB : Int → Int → Int → Int → Bool) : Sp
  | [.agg [.int .i64 n, .int .i64 s, .int .i64 a, .int .i64 q]] => some (True, .bool (adB n s a q))
  | _ => none
set_option maxRecDepth 100000 in
def sadded_T (adB : Int → Int → Int → Int → Bool) : Prop :=
  ∀ (gl : Glob) (n s a q : Int), ((-9223372036854775808 : Int) ≤ n ∧ n ≤ (9223372036854775807 : Int)) ∧ ((-9223372036854775808 : Int) ≤ s ∧ s ≤ (9223372036854775807 : Int)) ∧
  ((-9223372036854775808 : Int) ≤ a ∧ a ≤ (9223372036854775807 : Int)) ∧ ((-9223372036854775808 : Int) ≤ q ∧ q ≤ (9223372036854775807 : Int)) ∧ True → True ∧ bif decide ((0 : Int) ≤
  n ∧ n ≤ (1000000 : Int)) then True ∧ bif decide ((-576460752303423488 : Int) ≤ s ∧ s ≤ (576460752303423488 : Int)) then True ∧ bif decide ((0 : Int) ≤ a ∧ a ≤ (576460752303423488 :
  Int)) then True ∧ decide ((0 : Int) ≤ q ∧ q ≤ (576460752303423488 : Int)) = adB n s a q else false = adB n s a q else false = adB n s a q else false = adB n s a q
set_option maxRecDepth 100000 in
theorem sadded_P : sadded_T adB := by
  unfold sadded_T
  intro gl n s a q _
  refine ⟨trivial, cs (fun h1 => ⟨trivial, cs (fun h2 => ⟨trivial, cs (fun h3 => ⟨trivial, ?_⟩) (fun h => adB_no (by omega))⟩) (fun h => adB_no (by omega))⟩) (fun h => adB_no (by omega))⟩
  exact decide_eq_decide.2 ⟨fun k => ⟨h1, h2, h3, k⟩, fun k => k.2.2.2⟩
def sadded_S (adB : Int → Int → Int → Int → Bool) : Prop := ∀ (gl : Glob) (n s a q : Int), fnK Try.prog { glob := gl, spec := lk [(46, swithin_s)], specH := lk [], nowf := true } { nt := 21, drop := drp [(1, 2097144)] } (fun _ _ => none) 6 Try.f48 [.agg [.int .i64 n, .int .i64 s, .int .i64 a, .int .i64 q]] (.bool (adB n s a q))
set_option maxRecDepth 100000 in
theorem sadded_e (adB : Int → Int → Int → Int → Bool) : sadded_T adB = sadded_S adB := by kernel_rfl
theorem sadded_v : sadded_S adB := @Eq.mp (sadded_T adB) (sadded_S adB) (sadded_e adB) sadded_P
theorem sadded_ok (gl : Glob) : SOK Try.prog gl 48 (sadded_s adB) := by
  refine ⟨fok Try.func48 (by kernel_rfl) (by kernel_rfl), ?_⟩
  intro xs pre r h hp
  unfold sadded_s at h
  split at h
  · simp only [Option.some.injEq, Prod.mk.injEq] at h
    obtain ⟨h1, h2⟩ := h
    subst h1 h2
    exact fnK_sound tyNil (by exact specOK rfl rfl ⟨swithin_ok gl, trivial⟩ trivial) (by kernel_rfl) Try.func48 rfl (sadded_v gl _ _ _ _)
  · cases h
def rfine_s (adB : Int → Int → Int → Int → Bool) : Sp
  | [.agg [.int .i64 n, .int .i64 s, .int .i64 a, .int .i64 q]] => some (True, .bool (adB n s a q))
  | _ => none
set_option maxRecDepth 100000 in
def rfine_T (adB : Int → Int → Int → Int → Bool) : Prop :=
  ∀ (gl : Glob) (n s a q : Int), ((-9223372036854775808 : Int) ≤ n ∧ n ≤ (9223372036854775807 : Int)) ∧ ((-9223372036854775808 : Int) ≤ s ∧ s ≤ (9223372036854775807 : Int)) ∧
  ((-9223372036854775808 : Int) ≤ a ∧ a ≤ (9223372036854775807 : Int)) ∧ ((-9223372036854775808 : Int) ≤ q ∧ q ≤ (9223372036854775807 : Int)) ∧ True → bif decide ((0 : Int) ≤ n) then
  bif decide (n ≤ (1000000 : Int)) then SmP [[AV.int IntKind.i64 s], [AV.int IntKind.i64 a], [AV.int IntKind.i64 q]] (3 : Nat) (576460752303423488 : Int) ∧ bif smB [[AV.int
  IntKind.i64 s], [AV.int IntKind.i64 a], [AV.int IntKind.i64 q]] (576460752303423488 : Int) then bif decide ((0 : Int) ≤ a) then decide ((0 : Int) ≤ q) = adB n s a q else false =
  adB n s a q else false = adB n s a q else false = adB n s a q else false = adB n s a q
set_option maxRecDepth 100000 in
theorem rfine_P : rfine_T adB := by
  unfold rfine_T
  intro gl n s a q ⟨rn, rs, ra, rq, _⟩
  have hsm : smB [[.int .i64 s], [.int .i64 a], [.int .i64 q]] 576460752303423488 = true ↔ (-576460752303423488 ≤ s ∧ s ≤ 576460752303423488) ∧ (-576460752303423488 ≤ a ∧ a ≤ 576460752303423488) ∧ -576460752303423488 ≤ q ∧ q ≤ 576460752303423488 := by
    show (decide (-576460752303423488 ≤ s ∧ s ≤ 576460752303423488) && (decide (-576460752303423488 ≤ a ∧ a ≤ 576460752303423488) && (decide (-576460752303423488 ≤ q ∧ q ≤ 576460752303423488) && true))) = true ↔ _
    simp only [Bool.and_eq_true, decide_eq_true_eq, and_true]
  refine cs (fun h1 => cs (fun h2 => ⟨⟨?_, rfl, by decide, by decide⟩, csplit (fun h3 => cs (fun h4 => ?_) (fun h => adB_no (by omega))) (fun h => adB_no (fun k => ?_))⟩) (fun h => adB_no (by omega))) (fun h => adB_no (by omega))
  · intro x hx
    simp only [List.mem_cons, List.not_mem_nil, or_false] at hx
    rcases hx with rfl | rfl | rfl
    · exact ⟨s, rfl, rs⟩
    · exact ⟨a, rfl, ra⟩
    · exact ⟨q, rfl, rq⟩
  · have h3 := hsm.1 h3
    exact decide_eq_decide.2 ⟨fun k => by omega, fun k => k.2.2.2.1⟩
  · rw [hsm.2 (by omega)] at h; cases h
def rfine_S (adB : Int → Int → Int → Int → Bool) : Prop := ∀ (gl : Glob) (n s a q : Int), fnK Try.prog { glob := gl, spec := lk [], specH := lk [(60, (rsmall_s Go.Proofs.Ytjllgdpnbllnjaa.smB))], nowf := true } { nt := 31, drop := drp [(1, 2147483640)] } (fun _ _ => none) 6 Try.f49 [.agg [.int .i64 n, .int .i64 s, .int .i64 a, .int .i64 q]] (.bool (adB n s a q))
set_option maxRecDepth 100000 in
theorem rfine_e (adB : Int → Int → Int → Int → Bool) : rfine_T adB = rfine_S adB := by kernel_rfl
theorem rfine_v : rfine_S adB := @Eq.mp (rfine_T adB) (rfine_S adB) (rfine_e adB) rfine_P
theorem rfine_ok (gl : Glob) : SOK Try.prog gl 49 (rfine_s adB) := by
  refine ⟨fok Try.func49 (by kernel_rfl) (by kernel_rfl), ?_⟩
  intro xs pre r h hp
  unfold rfine_s at h
  split at h
  · simp only [Option.some.injEq, Prod.mk.injEq] at h
    obtain ⟨h1, h2⟩ := h
    subst h1 h2
    exact fnK_sound tyNil (by exact specOK rfl rfl trivial ⟨rsmall_ok gl, trivial⟩) (by kernel_rfl) Try.func49 rfl (rfine_v gl _ _ _ _)
  · cases h
def mgB (n s a q n' s' a' q' : Int) : Bool := adB n s a q && (adB n' s' a' q' && decide (n + n' ≤ 1000000))
def mgE (n s a q n' s' a' q' : Int) : Int := if mgB n s a q n' s' a' q' then 0 else 1
def mg (n s a q n' s' a' q' x : Int) : Int := if mgB n s a q n' s' a' q' then x else 0
def smerge_s (adB : Int → Int → Int → Int → Bool) : Sp
  | [.agg [.int .i64 n, .int .i64 s, .int .i64 a, .int .i64 q], .agg [.int .i64 n', .int .i64 s', .int .i64 a', .int .i64 q']] => some (True, .tup [.agg [.int .i64 (mg n s a q n' s' a' q' (n + n')), .int .i64 (mg n s a q n' s' a' q' (s + s')), .int .i64 (mg n s a q n' s' a' q' (a + a')), .int .i64 (mg n s a q n' s' a' q' (q + q'))], .int .i64 (mgE n s a q n' s' a' q')])
  | _ => none
set_option maxRecDepth 100000 in
def smerge_T (adB : Int → Int → Int → Int → Bool) : Prop :=
  ∀ (gl : Glob) (n s a q n' s' a' q' : Int), ((-9223372036854775808 : Int) ≤ n ∧ n ≤ (9223372036854775807 : Int)) ∧ ((-9223372036854775808 : Int) ≤ s ∧ s ≤ (9223372036854775807 :
  Int)) ∧ ((-9223372036854775808 : Int) ≤ a ∧ a ≤ (9223372036854775807 : Int)) ∧ ((-9223372036854775808 : Int) ≤ q ∧ q ≤ (9223372036854775807 : Int)) ∧ True → ((-9223372036854775808
  : Int) ≤ n' ∧ n' ≤ (9223372036854775807 : Int)) ∧ ((-9223372036854775808 : Int) ≤ s' ∧ s' ≤ (9223372036854775807 : Int)) ∧ ((-9223372036854775808 : Int) ≤ a' ∧ a' ≤
  (9223372036854775807 : Int)) ∧ ((-9223372036854775808 : Int) ≤ q' ∧ q' ≤ (9223372036854775807 : Int)) ∧ True → True ∧ bif !adB n s a q then ((0 : Int) = mg n s a q n' s' a' q' (n +
  n') ∧ (0 : Int) = mg n s a q n' s' a' q' (s + s') ∧ (0 : Int) = mg n s a q n' s' a' q' (a + a') ∧ (0 : Int) = mg n s a q n' s' a' q' (q + q') ∧ True) ∧ (1 : Int) = mgE n s a q n'
  s' a' q' ∧ True else True ∧ bif !adB n' s' a' q' then ((0 : Int) = mg n s a q n' s' a' q' (n + n') ∧ (0 : Int) = mg n s a q n' s' a' q' (s + s') ∧ (0 : Int) = mg n s a q n' s' a'
  q' (a + a') ∧ (0 : Int) = mg n s a q n' s' a' q' (q + q') ∧ True) ∧ (1 : Int) = mgE n s a q n' s' a' q' ∧ True else bif decide (rng IntKind.i64 (n + n')) then bif decide ((1000000
  : Int) < n + n') then ((0 : Int) = mg n s a q n' s' a' q' (n + n') ∧ (0 : Int) = mg n s a q n' s' a' q' (s + s') ∧ (0 : Int) = mg n s a q n' s' a' q' (a + a') ∧ (0 : Int) = mg n s
  a q n' s' a' q' (q + q') ∧ True) ∧ (1 : Int) = mgE n s a q n' s' a' q' ∧ True else bif decide (rng IntKind.i64 (n + n')) then bif decide (rng IntKind.i64 (s + s')) then bif decide
  (rng IntKind.i64 (a + a')) then bif decide (rng IntKind.i64 (q + q')) then (n + n' = mg n s a q n' s' a' q' (n + n') ∧ s + s' = mg n s a q n' s' a' q' (s + s') ∧ a + a' = mg n s a
  q n' s' a' q' (a + a') ∧ q + q' = mg n s a q n' s' a' q' (q + q') ∧ True) ∧ (0 : Int) = mgE n s a q n' s' a' q' ∧ True else False else False else False else False else False
set_option maxRecDepth 100000 in
theorem smerge_P : smerge_T adB := by
  unfold smerge_T
  intro gl n s a q n' s' a' q' _ _
  have no : mgB n s a q n' s' a' q' = false → (0 = mg n s a q n' s' a' q' (n + n') ∧ 0 = mg n s a q n' s' a' q' (s + s') ∧ 0 = mg n s a q n' s' a' q' (a + a') ∧ 0 = mg n s a q n' s' a' q' (q + q') ∧ True) ∧ 1 = mgE n s a q n' s' a' q' ∧ True := fun h => by
    unfold mg mgE; rw [h]; exact ⟨⟨rfl, rfl, rfl, rfl, trivial⟩, rfl, trivial⟩
  refine ⟨trivial, csplit (fun h => no (by unfold mgB; rw [show adB n s a q = false by simpa using h]; rfl)) (fun h1 => ⟨trivial, csplit (fun h => no (by unfold mgB; rw [show adB n' s' a' q' = false by simpa using h, Bool.false_and, Bool.and_false])) (fun h2 => ?_)⟩)⟩
  have h1 : adB n s a q = true := by simpa using h1
  have h2 : adB n' s' a' q' = true := by simpa using h2
  have k1 := adB_iff.1 h1
  have k2 := adB_iff.1 h2
  refine cdI (by omega) (cs (fun h => no (by unfold mgB; rw [decide_eq_false (show ¬ n + n' ≤ 1000000 by omega), Bool.and_false, Bool.and_false])) (fun h => ?_))
  have hb : mgB n s a q n' s' a' q' = true := by unfold mgB; rw [h1, h2, decide_eq_true (show n + n' ≤ 1000000 by omega)]; rfl
  unfold mg mgE
  rw [hb]
  exact cdI (by omega) (cdI (by omega) (cdI (by omega) (cdI (by omega) ⟨⟨rfl, rfl, rfl, rfl, trivial⟩, rfl, trivial⟩)))
def smerge_S (adB : Int → Int → Int → Int → Bool) : Prop := ∀ (gl : Glob) (n s a q n' s' a' q' : Int), fnK Try.prog { glob := gl, spec := lk [(48, (sadded_s adB))], specH := lk [], nowf := true } { nt := 44, drop := drp [(1, 2097088), (2, 4194304), (3, 17592177655808)] } (fun _ _ => none) 6 Try.f29 [.agg [.int .i64 n, .int .i64 s, .int .i64 a, .int .i64 q], .agg [.int .i64 n', .int .i64 s', .int .i64 a', .int .i64 q']] (.tup [.agg [.int .i64 (mg n s a q n' s' a' q' (n + n')), .int .i64 (mg n s a q n' s' a' q' (s + s')), .int .i64 (mg n s a q n' s' a' q' (a + a')), .int .i64 (mg n s a q n' s' a' q' (q + q'))], .int .i64 (mgE n s a q n' s' a' q')])
set_option maxRecDepth 100000 in
theorem smerge_e (adB : Int → Int → Int → Int → Bool) : smerge_T adB = smerge_S adB := by kernel_rfl
theorem smerge_v : smerge_S adB := @Eq.mp (smerge_T adB) (smerge_S adB) (smerge_e adB) smerge_P
theorem smerge_ok (gl : Glob) : SOK Try.prog gl 29 (smerge_s adB) := by
  refine ⟨fok Try.func29 (by kernel_rfl) (by kernel_rfl), ?_⟩
  intro xs pre r h hp
  unfold smerge_s at h
  split at h
  · simp only [Option.some.injEq, Prod.mk.injEq] at h
    obtain ⟨h1, h2⟩ := h
    subst h1 h2
    exact fnK_sound tyNil (by exact specOK rfl rfl ⟨sadded_ok gl, trivial⟩ trivial) (by kernel_rfl) Try.func29 rfl (smerge_v gl _ _ _ _ _ _ _ _)
  · cases h
def rmerge_s (adB : Int → Int → Int → Int → Bool) : Sp
  | [.agg [.int .i64 n, .int .i64 s, .int .i64 a, .int .i64 q], .agg [.int .i64 n', .int .i64 s', .int .i64 a', .int .i64 q']] => some (True, .tup [.agg [.int .i64 (mg n s a q n' s' a' q' (n + n')), .int .i64 (mg n s a q n' s' a' q' (s + s')), .int .i64 (mg n s a q n' s' a' q' (a + a')), .int .i64 (mg n s a q n' s' a' q' (q + q'))], .int .i64 (mgE n s a q n' s' a' q')])
  | _ => none
set_option maxRecDepth 100000 in
def rmerge_T (adB : Int → Int → Int → Int → Bool) : Prop :=
  ∀ (gl : Glob) (n s a q n' s' a' q' : Int), ((-9223372036854775808 : Int) ≤ n ∧ n ≤ (9223372036854775807 : Int)) ∧ ((-9223372036854775808 : Int) ≤ s ∧ s ≤ (9223372036854775807 :
  Int)) ∧ ((-9223372036854775808 : Int) ≤ a ∧ a ≤ (9223372036854775807 : Int)) ∧ ((-9223372036854775808 : Int) ≤ q ∧ q ≤ (9223372036854775807 : Int)) ∧ True → ((-9223372036854775808
  : Int) ≤ n' ∧ n' ≤ (9223372036854775807 : Int)) ∧ ((-9223372036854775808 : Int) ≤ s' ∧ s' ≤ (9223372036854775807 : Int)) ∧ ((-9223372036854775808 : Int) ≤ a' ∧ a' ≤
  (9223372036854775807 : Int)) ∧ ((-9223372036854775808 : Int) ≤ q' ∧ q' ≤ (9223372036854775807 : Int)) ∧ True → True ∧ bif !adB n s a q then ((0 : Int) = mg n s a q n' s' a' q' (n +
  n') ∧ (0 : Int) = mg n s a q n' s' a' q' (s + s') ∧ (0 : Int) = mg n s a q n' s' a' q' (a + a') ∧ (0 : Int) = mg n s a q n' s' a' q' (q + q') ∧ True) ∧ (1 : Int) = mgE n s a q n'
  s' a' q' ∧ True else True ∧ bif !adB n' s' a' q' then ((0 : Int) = mg n s a q n' s' a' q' (n + n') ∧ (0 : Int) = mg n s a q n' s' a' q' (s + s') ∧ (0 : Int) = mg n s a q n' s' a'
  q' (a + a') ∧ (0 : Int) = mg n s a q n' s' a' q' (q + q') ∧ True) ∧ (1 : Int) = mgE n s a q n' s' a' q' ∧ True else bif decide (rng IntKind.i64 (n + n')) then bif decide ((1000000
  : Int) < n + n') then ((0 : Int) = mg n s a q n' s' a' q' (n + n') ∧ (0 : Int) = mg n s a q n' s' a' q' (s + s') ∧ (0 : Int) = mg n s a q n' s' a' q' (a + a') ∧ (0 : Int) = mg n s
  a q n' s' a' q' (q + q') ∧ True) ∧ (1 : Int) = mgE n s a q n' s' a' q' ∧ True else bif decide (rng IntKind.i64 (n + n')) then bif decide (rng IntKind.i64 (s + s')) then bif decide
  (rng IntKind.i64 (a + a')) then bif decide (rng IntKind.i64 (q + q')) then (n + n' = mg n s a q n' s' a' q' (n + n') ∧ s + s' = mg n s a q n' s' a' q' (s + s') ∧ a + a' = mg n s a
  q n' s' a' q' (a + a') ∧ q + q' = mg n s a q n' s' a' q' (q + q') ∧ True) ∧ (0 : Int) = mgE n s a q n' s' a' q' ∧ True else False else False else False else False else False
set_option maxRecDepth 100000 in
theorem rmerge_P : rmerge_T adB := by
  unfold rmerge_T
  intro gl n s a q n' s' a' q' _ _
  have no : mgB n s a q n' s' a' q' = false → (0 = mg n s a q n' s' a' q' (n + n') ∧ 0 = mg n s a q n' s' a' q' (s + s') ∧ 0 = mg n s a q n' s' a' q' (a + a') ∧ 0 = mg n s a q n' s' a' q' (q + q') ∧ True) ∧ 1 = mgE n s a q n' s' a' q' ∧ True := fun h => by
    unfold mg mgE; rw [h]; exact ⟨⟨rfl, rfl, rfl, rfl, trivial⟩, rfl, trivial⟩
  refine ⟨trivial, csplit (fun h => no (by unfold mgB; rw [show adB n s a q = false by simpa using h]; rfl)) (fun h1 => ⟨trivial, csplit (fun h => no (by unfold mgB; rw [show adB n' s' a' q' = false by simpa using h, Bool.false_and, Bool.and_false])) (fun h2 => ?_)⟩)⟩
  have h1 : adB n s a q = true := by simpa using h1
  have h2 : adB n' s' a' q' = true := by simpa using h2
  have k1 := adB_iff.1 h1
  have k2 := adB_iff.1 h2
  refine cdI (by omega) (cs (fun h => no (by unfold mgB; rw [decide_eq_false (show ¬ n + n' ≤ 1000000 by omega), Bool.and_false, Bool.and_false])) (fun h => ?_))
  have hb : mgB n s a q n' s' a' q' = true := by unfold mgB; rw [h1, h2, decide_eq_true (show n + n' ≤ 1000000 by omega)]; rfl
  unfold mg mgE
  rw [hb]
  exact cdI (by omega) (cdI (by omega) (cdI (by omega) (cdI (by omega) ⟨⟨rfl, rfl, rfl, rfl, trivial⟩, rfl, trivial⟩)))
def rmerge_S (adB : Int → Int → Int → Int → Bool) : Prop := ∀ (gl : Glob) (n s a q n' s' a' q' : Int), fnK Try.prog { glob := gl, spec := lk [(49, (rfine_s adB))], specH := lk [], nowf := true } { nt := 44, drop := drp [(1, 2097088), (2, 4194304), (3, 17592177655808)] } (fun _ _ => none) 6 Try.f30 [.agg [.int .i64 n, .int .i64 s, .int .i64 a, .int .i64 q], .agg [.int .i64 n', .int .i64 s', .int .i64 a', .int .i64 q']] (.tup [.agg [.int .i64 (mg n s a q n' s' a' q' (n + n')), .int .i64 (mg n s a q n' s' a' q' (s + s')), .int .i64 (mg n s a q n' s' a' q' (a + a')), .int .i64 (mg n s a q n' s' a' q' (q + q'))], .int .i64 (mgE n s a q n' s' a' q')])
set_option maxRecDepth 100000 in
theorem rmerge_e (adB : Int → Int → Int → Int → Bool) : rmerge_T adB = rmerge_S adB := by kernel_rfl
theorem rmerge_v : rmerge_S adB := @Eq.mp (rmerge_T adB) (rmerge_S adB) (rmerge_e adB) rmerge_P
theorem rmerge_ok (gl : Glob) : SOK Try.prog gl 30 (rmerge_s adB) := by
  refine ⟨fok Try.func30 (by kernel_rfl) (by kernel_rfl), ?_⟩
  intro xs pre r h hp
  unfold rmerge_s at h
  split at h
  · simp only [Option.some.injEq, Prod.mk.injEq] at h
    obtain ⟨h1, h2⟩ := h
    subst h1 h2
    exact fnK_sound tyNil (by exact specOK rfl rfl ⟨rfine_ok gl, trivial⟩ trivial) (by kernel_rfl) Try.func30 rfl (rmerge_v gl _ _ _ _ _ _ _ _)
  · cases h
end Go.Proofs.Ytjllgdpnbllnjaa
