/- Tables: the codes that are drawn. -/
import Derived.Test.YthdfkiopppkfcaaDoorElR
import Derived.Test.YthdfkiopppkfcaaDoorKq
namespace Go.Proofs.YthdfkiopppkfcaaDoor
open Go
set_option linter.unusedVariables false
set_option linter.unusedSimpArgs false

/-- What Code draws. -/
structure CodV (v : Int) : Prop where
  f : (10000 ≤ v ∧ v ≤ 10003) ∨ (∃ a b : Int, v = 20000 + 100 * a + b ∧ 1 ≤ a ∧ a ≤ 3 ∧ 1 ≤ b ∧ b ≤ 3) ∨ v ∈ [0, -1, 7, 20000, 20100, 20021, 22121, 30000, 100, 200] ∨ (∃ k : Int, v = 100 * k ∧ 1 ≤ k ∧ k ≤ 11)
structure CodQ (v j : Int) : Prop where
  fv : CodV v
  fj : 0 ≤ j
def qcode_s : SpQ
  | [.ptr 0 0], [.cells [.sl 1 false xs, .int .i64 i]] => some (fun K => (SrcQ xs i) ∧ (∀ (v j : Int), (CodQ v j) → K (.int .i64 v) [.cells [.sl 1 false xs, .int .i64 j]]))
  | _, _ => none
set_option maxRecDepth 100000 in
def qcode_T : Prop :=
  ∀ (gl : Glob) (xs : List (List AV)) (i : Int), SrcQ xs i → SrcQ xs i ∧ ∀ (v j : Int), NumQ (7 : Int) v j → bif decide (v = (0 : Int)) then SrcQ xs j ∧ ∀ (v j : Int), NumQ (4 : Int)
  v j → bif decide (rng IntKind.i64 ((10000 : Int) + v)) then ∃ v_1 j_1, CodQ v_1 j_1 ∧ (10000 : Int) + v = v_1 ∧ ((True ∧ xs = xs) ∧ j = j_1 ∧ True) ∧ True else False else bif
  decide (v = (1 : Int)) then (SrcQ xs j ∧ (1 : Int) ≤ (3 : Int) ∧ (-1000000000 : Int) ≤ (1 : Int) ∧ (3 : Int) ≤ (1000000000 : Int)) ∧ ∀ (v j : Int), ((1 : Int) ≤ v ∧ v ≤ (3 : Int))
  ∧ (0 : Int) ≤ j → bif decide (rng IntKind.i64 ((100 : Int) * v)) then bif decide (rng IntKind.i64 ((20000 : Int) + (100 : Int) * v)) then (SrcQ xs j ∧ (1 : Int) ≤ (3 : Int) ∧
  (-1000000000 : Int) ≤ (1 : Int) ∧ (3 : Int) ≤ (1000000000 : Int)) ∧ ∀ (v_1 j : Int), ((1 : Int) ≤ v_1 ∧ v_1 ≤ (3 : Int)) ∧ (0 : Int) ≤ j → bif decide (rng IntKind.i64 ((20000 :
  Int) + (100 : Int) * v + v_1)) then ∃ v_2 j_1, CodQ v_2 j_1 ∧ (20000 : Int) + (100 : Int) * v + v_1 = v_2 ∧ ((True ∧ xs = xs) ∧ j = j_1 ∧ True) ∧ True else False else False else
  False else bif decide (v = (2 : Int)) then (SrcQ xs j ∧ ((11 : Nat) = (11 : Nat) ∧ (1 : Nat) ≤ (11 : Nat) ∧ (11 : Nat) ≤ (1000 : Nat)) ∧ IntsB [[AV.int IntKind.i64 (0 : Int)],
  [AV.int IntKind.i64 (-1 : Int)], [AV.int IntKind.i64 (7 : Int)], [AV.int IntKind.i64 (20000 : Int)], [AV.int IntKind.i64 (20100 : Int)], [AV.int IntKind.i64 (20021 : Int)], [AV.int
  IntKind.i64 (22121 : Int)], [AV.int IntKind.i64 (30000 : Int)], [AV.int IntKind.i64 (100 : Int)], [AV.int IntKind.i64 (100 : Int)], [AV.int IntKind.i64 (200 : Int)]]) ∧ ∀ (v j :
  Int), PickQ [[AV.int IntKind.i64 (0 : Int)], [AV.int IntKind.i64 (-1 : Int)], [AV.int IntKind.i64 (7 : Int)], [AV.int IntKind.i64 (20000 : Int)], [AV.int IntKind.i64 (20100 :
  Int)], [AV.int IntKind.i64 (20021 : Int)], [AV.int IntKind.i64 (22121 : Int)], [AV.int IntKind.i64 (30000 : Int)], [AV.int IntKind.i64 (100 : Int)], [AV.int IntKind.i64 (100 :
  Int)], [AV.int IntKind.i64 (200 : Int)]] (AV.int IntKind.i64 v) j → ∃ v_1 j_1, CodQ v_1 j_1 ∧ v = v_1 ∧ ((True ∧ xs = xs) ∧ j = j_1 ∧ True) ∧ True else (SrcQ xs j ∧ (1 : Int) ≤ (11
  : Int) ∧ (-1000000000 : Int) ≤ (1 : Int) ∧ (11 : Int) ≤ (1000000000 : Int)) ∧ ∀ (v j : Int), ((1 : Int) ≤ v ∧ v ≤ (11 : Int)) ∧ (0 : Int) ≤ j → bif decide (rng IntKind.i64 ((100 :
  Int) * v)) then ∃ v_1 j_1, CodQ v_1 j_1 ∧ (100 : Int) * v = v_1 ∧ ((True ∧ xs = xs) ∧ j = j_1 ∧ True) ∧ True else False
set_option maxRecDepth 100000 in
theorem qcode_P : qcode_T := by
  unfold qcode_T
  intro gl xs i hs
  have s := hs.s
  have fin : ∀ {v w j : Int}, v = w → CodV w → 0 ≤ j → ∃ v' j', CodQ v' j' ∧ v = v' ∧ ((True ∧ xs = xs) ∧ j = j' ∧ True) ∧ True := fun {v w j} e h hj => ⟨v, j, ⟨e ▸ h, hj⟩, rfl, ⟨⟨trivial, rfl⟩, rfl, trivial⟩, trivial⟩
  refine ⟨hs, fun v j q => ?_⟩
  have hv := q.fv (by omega)
  refine cs (fun h0 => ⟨⟨s, q.fj⟩, fun u j q2 => ?_⟩) (fun h0 => cs (fun h1 => ⟨⟨⟨s, q.fj⟩, by decide, by decide, by decide⟩, fun u j q2 => ?_⟩) (fun h1 => cs (fun h2 => ?_) (fun h2 => ⟨⟨⟨s, q.fj⟩, by decide, by decide, by decide⟩, fun u j q2 => ?_⟩)))
  · have hu := q2.fv (by omega)
    exact cdI (by omega) (fin rfl ⟨.inl (by omega)⟩ q2.fj)
  · obtain ⟨hu, hj⟩ := q2
    refine cdI (by omega) (cdI (by omega) ⟨⟨⟨s, hj⟩, by decide, by decide, by decide⟩, fun u2 j q3 => ?_⟩)
    obtain ⟨hu2, hj⟩ := q3
    exact cdI (by omega) (fin rfl ⟨.inr (.inl ⟨u, u2, rfl, by omega, by omega, by omega, by omega⟩)⟩ hj)
  · refine ⟨⟨⟨s, q.fj⟩, ⟨rfl, by decide, by decide⟩, ints_of [0, -1, 7, 20000, 20100, 20021, 22121, 30000, 100, 100, 200] (by decide)⟩, fun u j q2 => fin rfl ⟨.inr (.inr (.inl ?_))⟩ q2.fj⟩
    have := pick_of [0, -1, 7, 20000, 20100, 20021, 22121, 30000, 100, 100, 200] q2
    simp only [List.mem_cons, List.not_mem_nil, or_false] at this ⊢
    omega
  · obtain ⟨hu, hj⟩ := q2
    exact cdI (by omega) (fin rfl ⟨.inr (.inr (.inr ⟨u, rfl, by omega, by omega⟩))⟩ hj)
def qcode_S : Prop := ∀ (gl : Glob) (xs : List (List AV)) (i : Int), SrcQ xs i → fnQ Tryd.prog { glob := gl, spec := lk [], specH := lk [], specQ := lk [(10, qn_s), (20, qrange_s), (30, qpick_s)], nowf := true } { nt := 27, drop := drp [(1, 8), (2, 64), (3, 896), (4, 2048), (5, 520192), (6, 1048576), (7, 14680064), (8, 117440512)], fr := 1000, kp := [0] } (fun _ _ => none) 6 Tryd.f31 [.ptr 0 0] [.cells [.sl 1 false xs, .int .i64 i]] (fun r2 bs2 => ∃ (v j : Int), (CodQ v j) ∧ le r2 (.int .i64 v) ∧ leBs bs2 [.cells [.sl 1 false xs, .int .i64 j]])
set_option maxRecDepth 100000 in
theorem qcode_e : qcode_T = qcode_S := by kernel_rfl
theorem qcode_v : qcode_S := @Eq.mp (qcode_T) (qcode_S) (qcode_e) qcode_P
theorem qcode_ok (gl : Glob) : QOK Tryd.prog gl 31 qcode_s := by
  refine ⟨fok Tryd.func31 (by kernel_rfl) (by kernel_rfl), ?_⟩
  intro xs bs T h K hT
  unfold qcode_s at h
  split at h
  · simp only [Option.some.injEq] at h
    subst h
    obtain ⟨hp, hK⟩ := hT
    obtain ⟨r, bs2, ⟨o0, o1, hq, hl, hb⟩, hC⟩ := fnQ_sound tyNil (by exact specOK rfl rfl trivial trivial (d := qsOf rfl ⟨(qn_ok gl), (qrange_ok gl), (qpick_ok gl), trivial⟩)) (by kernel_rfl) Tryd.func31 (qcode_v gl _ _ hp)
    exact ⟨_, _, hK o0 o1 hq, hC.le hl hb⟩
  · cases h
end Go.Proofs.YthdfkiopppkfcaaDoor
