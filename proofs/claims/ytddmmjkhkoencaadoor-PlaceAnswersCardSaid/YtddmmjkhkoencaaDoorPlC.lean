/- Places: Addresses. -/
import Derived.Test.YtddmmjkhkoencaaDoorPlB
namespace Go.Proofs.YtddmmjkhkoencaaDoor
open Go
set_option linter.unusedVariables false
set_option linter.unusedSimpArgs false
--KIND of S synoptic/place.of glob
--KIND on S synoptic/place.on glob

def onRow (f a b c n : Int) : List AV := [.int .i64 n, .int .i64 (onW f a b c n 0), .int .i64 (onW f a b c n 1), .int .i64 (onW f a b c n 2)]
/-- The addresses on the first n faces. -/
def adrR (f a b c : Int) : Nat → List (List AV)
  | 0 => []
  | n + 1 => if onV f a b c n then adrR f a b c n ++ [onRow f a b c n] else adrR f a b c n
def adr (f a b c : Int) : List (List AV) := if vld f a b c then adrR f a b c 20 else []
structure AdrP (f a b c : Int) (x : Int × List (List AV)) : Prop where
  lo : 0 ≤ x.1
  hi : x.1 ≤ 20
  row : x.2 = adrR f a b c x.1.toNat
def adrI (f a b c : Int) : LInv := ⟨Int × List (List AV), fun x => ⟨[(4, .ptr 4 0), (5, .rw 500 4 x.2.length), (14, .int .i64 x.1)], [(4, .cells [.int .i64 (wt f a b c 0), .int .i64 (wt f a b c 1), .int .i64 (wt f a b c 2), .int .i64 (wt f a b c 3), .int .i64 (wt f a b c 4), .int .i64 (wt f a b c 5), .int .i64 (wt f a b c 6), .int .i64 (wt f a b c 7), .int .i64 (wt f a b c 8), .int .i64 (wt f a b c 9), .int .i64 (wt f a b c 10), .int .i64 (wt f a b c 11)]), (500, .row 26 4 x.2)]⟩,
  AdrP f a b c, fun x => (20 - x.1).toNat, none⟩
theorem adr_len (f a b c : Int) : ∀ n, (adrR f a b c n).length ≤ n
  | 0 => by simp [adrR]
  | n + 1 => by
    have := adr_len f a b c n
    simp only [adrR]
    split
    · simp; omega
    · omega

theorem adr_step {f a b c n : Int} (h : 0 ≤ n) : adrR f a b c (n + 1).toNat = if onV f a b c n then adrR f a b c n.toNat ++ [onRow f a b c n] else adrR f a b c n.toNat := by
  rw [show (n + 1).toNat = n.toNat + 1 by omega]
  simp only [adrR]
  rw [show ((n.toNat : Nat) : Int) = n by omega]

def addresses_s (vld : Int → Int → Int → Int → Bool) (adr : Int → Int → Int → Int → List (List AV)) : Sp
  | [.agg [.int .i64 f, .int .i64 a, .int .i64 b, .int .i64 c]] => some (True, .tup [.sl 4 false (adr f a b c), .int .i64 (err (vld f a b c))])
  | _ => none
set_option maxRecDepth 100000 in
def addresses_T (vld : Int → Int → Int → Int → Bool) (adr : Int → Int → Int → Int → List (List AV)) : Prop :=
  ∀ (f a b c : Int), ((-9223372036854775808 : Int) ≤ f ∧ f ≤ (9223372036854775807 : Int)) ∧ ((-9223372036854775808 : Int) ≤ a ∧ a ≤ (9223372036854775807 : Int)) ∧
  ((-9223372036854775808 : Int) ≤ b ∧ b ≤ (9223372036854775807 : Int)) ∧ ((-9223372036854775808 : Int) ≤ c ∧ c ≤ (9223372036854775807 : Int)) ∧ True → True ∧ bif
  !YtddmmjkhkoencaaDoor.vld f a b c then adr f a b c = [] ∧ (1 : Int) = err (vld f a b c) ∧ True else ((0 : Int) ≤ f ∧ f < (20 : Int)) ∧ (∃ x, AdrP f a b c x ∧ ((0 : Nat) = (0 : Nat)
  ∧ (0 : Nat) = x.snd.length ∧ (0 : Int) = x.fst ∧ True) ∧ (wt f a b c (0 : Int) = wt f a b c (0 : Int) ∧ wt f a b c (1 : Int) = wt f a b c (1 : Int) ∧ wt f a b c (2 : Int) = wt f a
  b c (2 : Int) ∧ wt f a b c (3 : Int) = wt f a b c (3 : Int) ∧ wt f a b c (4 : Int) = wt f a b c (4 : Int) ∧ wt f a b c (5 : Int) = wt f a b c (5 : Int) ∧ wt f a b c (6 : Int) = wt
  f a b c (6 : Int) ∧ wt f a b c (7 : Int) = wt f a b c (7 : Int) ∧ wt f a b c (8 : Int) = wt f a b c (8 : Int) ∧ wt f a b c (9 : Int) = wt f a b c (9 : Int) ∧ wt f a b c (10 : Int)
  = wt f a b c (10 : Int) ∧ wt f a b c (11 : Int) = wt f a b c (11 : Int) ∧ True) ∧ [] = x.snd ∧ True) ∧ ∀ (x : Int × List (List AV)), AdrP f a b c x → bif decide (x.fst < (20 :
  Int)) then ((0 : Int) ≤ x.fst ∧ x.fst < (20 : Int)) ∧ bif YtddmmjkhkoencaaDoor.vld x.fst (sel [wt f a b c (0 : Int), wt f a b c (1 : Int), wt f a b c (2 : Int), wt f a b c (3 :
  Int), wt f a b c (4 : Int), wt f a b c (5 : Int), wt f a b c (6 : Int), wt f a b c (7 : Int), wt f a b c (8 : Int), wt f a b c (9 : Int), wt f a b c (10 : Int), wt f a b c (11 :
  Int)] (crn x.fst (0 : Nat))) (sel [wt f a b c (0 : Int), wt f a b c (1 : Int), wt f a b c (2 : Int), wt f a b c (3 : Int), wt f a b c (4 : Int), wt f a b c (5 : Int), wt f a b c (6
  : Int), wt f a b c (7 : Int), wt f a b c (8 : Int), wt f a b c (9 : Int), wt f a b c (10 : Int), wt f a b c (11 : Int)] (crn x.fst (1 : Nat))) (sel [wt f a b c (0 : Int), wt f a b
  c (1 : Int), wt f a b c (2 : Int), wt f a b c (3 : Int), wt f a b c (4 : Int), wt f a b c (5 : Int), wt f a b c (6 : Int), wt f a b c (7 : Int), wt f a b c (8 : Int), wt f a b c (9
  : Int), wt f a b c (10 : Int), wt f a b c (11 : Int)] (crn x.fst (2 : Nat))) then bif decide (x.snd.length = x.snd.length ∧ x.snd.length + [[AV.int IntKind.i64 x.fst, AV.int
  IntKind.i64 (sel [wt f a b c (0 : Int), wt f a b c (1 : Int), wt f a b c (2 : Int), wt f a b c (3 : Int), wt f a b c (4 : Int), wt f a b c (5 : Int), wt f a b c (6 : Int), wt f a b
  c (7 : Int), wt f a b c (8 : Int), wt f a b c (9 : Int), wt f a b c (10 : Int), wt f a b c (11 : Int)] (crn x.fst (0 : Nat))), AV.int IntKind.i64 (sel [wt f a b c (0 : Int), wt f a
  b c (1 : Int), wt f a b c (2 : Int), wt f a b c (3 : Int), wt f a b c (4 : Int), wt f a b c (5 : Int), wt f a b c (6 : Int), wt f a b c (7 : Int), wt f a b c (8 : Int), wt f a b c
  (9 : Int), wt f a b c (10 : Int), wt f a b c (11 : Int)] (crn x.fst (1 : Nat))), AV.int IntKind.i64 (sel [wt f a b c (0 : Int), wt f a b c (1 : Int), wt f a b c (2 : Int), wt f a b
  c (3 : Int), wt f a b c (4 : Int), wt f a b c (5 : Int), wt f a b c (6 : Int), wt f a b c (7 : Int), wt f a b c (8 : Int), wt f a b c (9 : Int), wt f a b c (10 : Int), wt f a b c
  (11 : Int)] (crn x.fst (2 : Nat)))]].length ≤ (9223372036854775807 : Nat) ∧ (x.snd.length + [[AV.int IntKind.i64 x.fst, AV.int IntKind.i64 (sel [wt f a b c (0 : Int), wt f a b c (1
  : Int), wt f a b c (2 : Int), wt f a b c (3 : Int), wt f a b c (4 : Int), wt f a b c (5 : Int), wt f a b c (6 : Int), wt f a b c (7 : Int), wt f a b c (8 : Int), wt f a b c (9 :
  Int), wt f a b c (10 : Int), wt f a b c (11 : Int)] (crn x.fst (0 : Nat))), AV.int IntKind.i64 (sel [wt f a b c (0 : Int), wt f a b c (1 : Int), wt f a b c (2 : Int), wt f a b c (3
  : Int), wt f a b c (4 : Int), wt f a b c (5 : Int), wt f a b c (6 : Int), wt f a b c (7 : Int), wt f a b c (8 : Int), wt f a b c (9 : Int), wt f a b c (10 : Int), wt f a b c (11 :
  Int)] (crn x.fst (1 : Nat))), AV.int IntKind.i64 (sel [wt f a b c (0 : Int), wt f a b c (1 : Int), wt f a b c (2 : Int), wt f a b c (3 : Int), wt f a b c (4 : Int), wt f a b c (5 :
  Int), wt f a b c (6 : Int), wt f a b c (7 : Int), wt f a b c (8 : Int), wt f a b c (9 : Int), wt f a b c (10 : Int), wt f a b c (11 : Int)] (crn x.fst (2 : Nat)))]].length) * (32 :
  Nat) ≤ (140737488355328 : Nat)) then bif decide (rng IntKind.i64 (x.fst + (1 : Int))) then ∃ y, AdrP f a b c y ∧ (adrI f a b c).m y < (adrI f a b c).m x ∧ ((0 : Nat) = (0 : Nat) ∧
  (x.snd ++ [[AV.int IntKind.i64 x.fst, AV.int IntKind.i64 (sel [wt f a b c (0 : Int), wt f a b c (1 : Int), wt f a b c (2 : Int), wt f a b c (3 : Int), wt f a b c (4 : Int), wt f a
  b c (5 : Int), wt f a b c (6 : Int), wt f a b c (7 : Int), wt f a b c (8 : Int), wt f a b c (9 : Int), wt f a b c (10 : Int), wt f a b c (11 : Int)] (crn x.fst (0 : Nat))), AV.int
  IntKind.i64 (sel [wt f a b c (0 : Int), wt f a b c (1 : Int), wt f a b c (2 : Int), wt f a b c (3 : Int), wt f a b c (4 : Int), wt f a b c (5 : Int), wt f a b c (6 : Int), wt f a b
  c (7 : Int), wt f a b c (8 : Int), wt f a b c (9 : Int), wt f a b c (10 : Int), wt f a b c (11 : Int)] (crn x.fst (1 : Nat))), AV.int IntKind.i64 (sel [wt f a b c (0 : Int), wt f a
  b c (1 : Int), wt f a b c (2 : Int), wt f a b c (3 : Int), wt f a b c (4 : Int), wt f a b c (5 : Int), wt f a b c (6 : Int), wt f a b c (7 : Int), wt f a b c (8 : Int), wt f a b c
  (9 : Int), wt f a b c (10 : Int), wt f a b c (11 : Int)] (crn x.fst (2 : Nat)))]]).length = y.snd.length ∧ x.fst + (1 : Int) = y.fst ∧ True) ∧ (wt f a b c (0 : Int) = wt f a b c (0
  : Int) ∧ wt f a b c (1 : Int) = wt f a b c (1 : Int) ∧ wt f a b c (2 : Int) = wt f a b c (2 : Int) ∧ wt f a b c (3 : Int) = wt f a b c (3 : Int) ∧ wt f a b c (4 : Int) = wt f a b c
  (4 : Int) ∧ wt f a b c (5 : Int) = wt f a b c (5 : Int) ∧ wt f a b c (6 : Int) = wt f a b c (6 : Int) ∧ wt f a b c (7 : Int) = wt f a b c (7 : Int) ∧ wt f a b c (8 : Int) = wt f a
  b c (8 : Int) ∧ wt f a b c (9 : Int) = wt f a b c (9 : Int) ∧ wt f a b c (10 : Int) = wt f a b c (10 : Int) ∧ wt f a b c (11 : Int) = wt f a b c (11 : Int) ∧ True) ∧ x.snd ++
  [[AV.int IntKind.i64 x.fst, AV.int IntKind.i64 (sel [wt f a b c (0 : Int), wt f a b c (1 : Int), wt f a b c (2 : Int), wt f a b c (3 : Int), wt f a b c (4 : Int), wt f a b c (5 :
  Int), wt f a b c (6 : Int), wt f a b c (7 : Int), wt f a b c (8 : Int), wt f a b c (9 : Int), wt f a b c (10 : Int), wt f a b c (11 : Int)] (crn x.fst (0 : Nat))), AV.int
  IntKind.i64 (sel [wt f a b c (0 : Int), wt f a b c (1 : Int), wt f a b c (2 : Int), wt f a b c (3 : Int), wt f a b c (4 : Int), wt f a b c (5 : Int), wt f a b c (6 : Int), wt f a b
  c (7 : Int), wt f a b c (8 : Int), wt f a b c (9 : Int), wt f a b c (10 : Int), wt f a b c (11 : Int)] (crn x.fst (1 : Nat))), AV.int IntKind.i64 (sel [wt f a b c (0 : Int), wt f a
  b c (1 : Int), wt f a b c (2 : Int), wt f a b c (3 : Int), wt f a b c (4 : Int), wt f a b c (5 : Int), wt f a b c (6 : Int), wt f a b c (7 : Int), wt f a b c (8 : Int), wt f a b c
  (9 : Int), wt f a b c (10 : Int), wt f a b c (11 : Int)] (crn x.fst (2 : Nat)))]] = y.snd ∧ True else False else False else bif decide (rng IntKind.i64 (x.fst + (1 : Int))) then ∃
  y, AdrP f a b c y ∧ (adrI f a b c).m y < (adrI f a b c).m x ∧ ((0 : Nat) = (0 : Nat) ∧ x.snd.length = y.snd.length ∧ x.fst + (1 : Int) = y.fst ∧ True) ∧ (wt f a b c (0 : Int) = wt
  f a b c (0 : Int) ∧ wt f a b c (1 : Int) = wt f a b c (1 : Int) ∧ wt f a b c (2 : Int) = wt f a b c (2 : Int) ∧ wt f a b c (3 : Int) = wt f a b c (3 : Int) ∧ wt f a b c (4 : Int) =
  wt f a b c (4 : Int) ∧ wt f a b c (5 : Int) = wt f a b c (5 : Int) ∧ wt f a b c (6 : Int) = wt f a b c (6 : Int) ∧ wt f a b c (7 : Int) = wt f a b c (7 : Int) ∧ wt f a b c (8 :
  Int) = wt f a b c (8 : Int) ∧ wt f a b c (9 : Int) = wt f a b c (9 : Int) ∧ wt f a b c (10 : Int) = wt f a b c (10 : Int) ∧ wt f a b c (11 : Int) = wt f a b c (11 : Int) ∧ True) ∧
  x.snd = y.snd ∧ True else False else bif decide (x.snd.length = x.snd.length) then (True ∧ x.snd = adr f a b c) ∧ (0 : Int) = err (vld f a b c) ∧ True else False
set_option maxRecDepth 100000 in
theorem addresses_P : addresses_T vld adr := by
  unfold addresses_T
  intro f a b c h
  refine ⟨trivial, ?_⟩
  unfold adr err
  cases hv : vld f a b c with
  | false => exact ⟨rfl, rfl, trivial⟩
  | true =>
    have v : Vld f a b c := of_decide_eq_true hv
    refine ⟨v.face, ⟨(0, []), ⟨by decide, by decide, rfl⟩, ⟨rfl, rfl, rfl, trivial⟩, ⟨rfl, rfl, rfl, rfl, rfl, rfl, rfl, rfl, rfl, rfl, rfl, rfl, trivial⟩, rfl, trivial⟩, ?_⟩
    rintro ⟨n, xs⟩ ⟨h0, h1, hx⟩
    simp only at h0 h1 hx
    have hlen := adr_len f a b c n.toNat
    rw [← hx] at hlen
    refine csplit (fun hn => ?_) (fun hn => ?_)
    · have hn : n < 20 := of_decide_eq_true hn
      obtain ⟨e0, e1, e2⟩ := sel_wts f a b c ⟨h0, hn⟩
      unfold wts at e0 e1 e2
      simp only [e0, e1, e2]
      refine ⟨⟨h0, hn⟩, csplit (fun hv => ?_) (fun hv => ?_)⟩
      · have hv : onV f a b c n = true := hv
        simp only [↓cdecF, rng, List.length_singleton]
        refine ⟨⟨by trivial, by omega, by omega⟩, by omega, (n + 1, xs ++ [onRow f a b c n]), ⟨by simp only; omega, by simp only; omega, ?_⟩, by simp only [adrI]; omega, ⟨by trivial, rfl, rfl, trivial⟩, ?_, rfl, trivial⟩
        · simp only; rw [adr_step h0, if_pos hv, hx]
        · repeat' (first | exact trivial | rfl | apply And.intro)
      · have hv : onV f a b c n = false := hv
        simp only [↓cdecF, rng]
        refine ⟨by omega, (n + 1, xs), ⟨by simp only; omega, by simp only; omega, ?_⟩, by simp only [adrI]; omega, ⟨by trivial, by trivial, rfl, trivial⟩, ?_, rfl, trivial⟩
        · simp only; rw [adr_step h0, if_neg (by rw [hv]; simp), hx]
        · repeat' (first | exact trivial | rfl | apply And.intro)
    · have hn : ¬ n < 20 := of_decide_eq_false hn
      have : n = 20 := by omega
      subst this
      simp only [↓cdecF]
      exact ⟨by trivial, ⟨trivial, by rw [hx]; rfl⟩, rfl, trivial⟩
def addresses_S (vld : Int → Int → Int → Int → Bool) (adr : Int → Int → Int → Int → List (List AV)) : Prop := ∀ (f a b c : Int), fnK Tryd.prog { glob := glb, spec := lk [(27, (valid_s Go.Proofs.YtddmmjkhkoencaaDoor.vld)), (32, of_s), (33, on_s)], specH := lk [], nowf := true } { nt := 30, drop := drp [(1, 1536), (3, 12288), (7, 65536), (8, 8257536), (10, 251658240), (11, 268435456), (12, 536870912)], emp := fun id => cond (Nat.beq id 5) [(5, 500, 26, 4)] [] } (fun id _ => cond (Nat.beq id 6) (some (adrI f a b c)) none) 6 Tryd.f11 [.agg [.int .i64 f, .int .i64 a, .int .i64 b, .int .i64 c]] (.tup [.sl 4 false (adr f a b c), .int .i64 (err (vld f a b c))])
set_option maxRecDepth 100000 in
theorem addresses_e (vld : Int → Int → Int → Int → Bool) (adr : Int → Int → Int → Int → List (List AV)) : addresses_T vld adr = addresses_S vld adr := by kernel_rfl
theorem addresses_v : addresses_S vld adr := @Eq.mp (addresses_T vld adr) (addresses_S vld adr) (addresses_e vld adr) addresses_P
theorem addresses_ok : SOK Tryd.prog glb 11 (addresses_s vld adr) := by
  refine ⟨fok Tryd.func11 (by kernel_rfl) (by kernel_rfl), ?_⟩
  intro xs pre r h hp
  unfold addresses_s at h
  split at h
  · simp only [Option.some.injEq, Prod.mk.injEq] at h
    obtain ⟨h1, h2⟩ := h
    subst h1 h2
    exact fnK_sound tyNil (by exact specOK rfl rfl ⟨valid_ok glb, of_ok, on_ok, trivial⟩ trivial) (by kernel_rfl) Tryd.func11 rfl (addresses_v  _ _ _ _)
  · cases h
end Go.Proofs.YtddmmjkhkoencaaDoor
