/- Data for the statements, III: reports at places. -/
import Derived.Test.YtceknalhogbbnaaDoorDu
namespace Go.Proofs.YtceknalhogbbnaaDoor
open Go
set_option linter.unusedVariables false
set_option linter.unusedSimpArgs false

structure RpF (k : Int) (nm : ByteArray) (t f a b c : Int) (rd : List (List AV)) : Prop where
  fk : 1 ≤ k ∧ k ≤ 3
  fn : nm ∈ nam6
  ft : 0 ≤ t ∧ t ≤ 52595999
  fv : Vld f a b c
  fi : isN f a b c = true
  fr : RdV 12 rd
/-- A report at a place, as its cells. -/
def rpA (k : Int) (nm : ByteArray) (t f a b c : Int) (rd : List (List AV)) : List AV := [.int .i64 k, .str nm, .int .i64 t, .int .i64 f, .int .i64 a, .int .i64 b, .int .i64 c, .sl 2 false rd]
structure RpsV (ys : List (List AV)) : Prop where
  frow : ∀ i, i < ys.length → ∃ k nm t f a b c rd, ys.getD i [] = rpA k nm t f a b c rd ∧ RpF k nm t f a b c rd
structure PlcP (n f a b c : Int) (x : Int × Int × List (List AV)) : Prop where
  fi : 0 ≤ x.1
  fj : 0 ≤ x.2.1
  fl : x.1 + x.2.2.length ≤ n
  fr : RpsV x.2.2
  fp : Vld f a b c ∧ isN f a b c = true
def plcI (xs : List (List AV)) (n near : Int) (p : Int × Int × Int × Int) : LInv := ⟨Int × Int × List (List AV), fun x => ⟨[(0, .ptr 0 0), (2, .int .i64 near), (7, .rw 1500 8 x.2.2.length), (8, .ptr 1008 0), (9, .int .i64 x.1)], [(0, .cells [.sl 1 false xs, .int .i64 x.2.1]), (1008, .cells [.int .i64 p.1, .int .i64 p.2.1, .int .i64 p.2.2.1, .int .i64 p.2.2.2]), (1500, .row 29 8 x.2.2)]⟩, PlcP n p.1 p.2.1 p.2.2.1 p.2.2.2, fun x => x.1.toNat, none⟩
structure PlcQ (n : Int) (ys : List (List AV)) (j : Int) : Prop where
  fr : RpsV ys
  fl : (ys.length : Int) ≤ n
  fj : 0 ≤ j
/-- The place in a block of cells: the invariant takes it from there. -/
def plcJ (xs : List (List AV)) (n near : Int) (id : Nat) (st : St) : Option LInv := cond (Nat.beq id 4) (match lk st.heap 1008 with
  | some (.cells [.int _ f, .int _ a, .int _ b, .int _ c]) => some (plcI xs n near (f, a, b, c))
  | _ => none) none
theorem rpsV_nil : RpsV [] := ⟨fun i h => by simp at h⟩
theorem rpsV_add {ys : List (List AV)} {k : Int} {nm : ByteArray} {t f a b c : Int} {rd : List (List AV)} (h : RpsV ys) (hr : RpF k nm t f a b c rd) : RpsV (ys ++ [rpA k nm t f a b c rd]) := by
  refine ⟨fun i hi => ?_⟩
  rw [List.length_append, List.length_singleton] at hi
  rw [gD_app]
  by_cases hl : i < ys.length
  · rw [if_pos hl]; exact h.frow i hl
  · rw [if_neg hl, show i - ys.length = 0 by omega]
    exact ⟨_, _, _, _, _, _, _, _, rfl, hr⟩
def qplaced_s : SpQ
  | [.ptr 0 0, .int .i64 n, .int .i64 near], [.cells [.sl 1 false xs, .int .i64 i]] => some (fun K => (SrcQ xs i ∧ (0 ≤ near ∧ near ≤ 52595999) ∧ 0 ≤ n ∧ n ≤ 1000) ∧ (∀ (ys : List (List AV)) (j : Int), (PlcQ n ys j) → K (.sl 8 false ys) [.cells [.sl 1 false xs, .int .i64 j]]))
  | _, _ => none
set_option maxRecDepth 100000 in
def qplaced_T : Prop :=
  ∀ (gl : Glob) (xs : List (List AV)) (i n near : Int), SrcQ xs i ∧ ((0 : Int) ≤ near ∧ near ≤ (52595999 : Int)) ∧ (0 : Int) ≤ n ∧ n ≤ (1000 : Int) → SrcQ xs i ∧ ∀ (f a b c j : Int),
  PlaQ f a b c j → bif decide (rng IntKind.i64 (n + (1 : Int))) then SrcQ xs j ∧ ∀ (v j : Int), NumQ (n + (1 : Int)) v j → (∃ x, PlcP n (f, a, b, c).fst (f, a, b, c).snd.fst (f, a,
  b, c).snd.snd.fst (f, a, b, c).snd.snd.snd x ∧ ((0 : Nat) = (0 : Nat) ∧ near = near ∧ (0 : Nat) = x.snd.snd.length ∧ (0 : Nat) = (0 : Nat) ∧ v = x.fst ∧ True) ∧ ((True ∧ xs = xs) ∧
  j = x.snd.fst ∧ True) ∧ (f = (f, a, b, c).fst ∧ a = (f, a, b, c).snd.fst ∧ b = (f, a, b, c).snd.snd.fst ∧ c = (f, a, b, c).snd.snd.snd ∧ True) ∧ [] = x.snd.snd ∧ True) ∧ ∀ (x : Int
  × Int × List (List AV)), PlcP n (f, a, b, c).fst (f, a, b, c).snd.fst (f, a, b, c).snd.snd.fst (f, a, b, c).snd.snd.snd x → bif decide ((0 : Int) < x.fst) then (SrcQ xs x.snd.fst ∧
  (0 : Int) ≤ near ∧ near ≤ (52595999 : Int)) ∧ ∀ (k : Int) (nm : ByteArray) (t f_1 a_4 b_1 c_1 : Int) (ys : List (List AV)) (j : Int), RepQ k nm t f_1 a_4 b_1 c_1 ys j → SrcQ xs j ∧
  ∀ (f_2 a_6 b_2 c_2 j : Int), PlaQ f_2 a_6 b_2 c_2 j → SrcQ xs j ∧ ∀ (v j : Int), NumQ (2 : Int) v j → bif decide (v = (0 : Int)) then bif decide (x.snd.snd.length =
  x.snd.snd.length ∧ x.snd.snd.length + [[AV.int IntKind.i64 k, AV.str nm, AV.int IntKind.i64 t, AV.int IntKind.i64 (f, a, b, c).fst, AV.int IntKind.i64 (f, a, b, c).snd.fst, AV.int
  IntKind.i64 (f, a, b, c).snd.snd.fst, AV.int IntKind.i64 (f, a, b, c).snd.snd.snd, AV.sl (2 : Nat) false ys]].length ≤ (9223372036854775807 : Nat) ∧ (x.snd.snd.length + [[AV.int
  IntKind.i64 k, AV.str nm, AV.int IntKind.i64 t, AV.int IntKind.i64 (f, a, b, c).fst, AV.int IntKind.i64 (f, a, b, c).snd.fst, AV.int IntKind.i64 (f, a, b, c).snd.snd.fst, AV.int
  IntKind.i64 (f, a, b, c).snd.snd.snd, AV.sl (2 : Nat) false ys]].length) * (88 : Nat) ≤ (140737488355328 : Nat)) then bif decide (rng IntKind.i64 (x.fst - (1 : Int))) then ∃ y,
  PlcP n (f, a, b, c).fst (f, a, b, c).snd.fst (f, a, b, c).snd.snd.fst (f, a, b, c).snd.snd.snd y ∧ (plcI xs n near (f, a, b, c)).m y < (plcI xs n near (f, a, b, c)).m x ∧ ((0 :
  Nat) = (0 : Nat) ∧ near = near ∧ (x.snd.snd ++ [[AV.int IntKind.i64 k, AV.str nm, AV.int IntKind.i64 t, AV.int IntKind.i64 (f, a, b, c).fst, AV.int IntKind.i64 (f, a, b,
  c).snd.fst, AV.int IntKind.i64 (f, a, b, c).snd.snd.fst, AV.int IntKind.i64 (f, a, b, c).snd.snd.snd, AV.sl (2 : Nat) false ys]]).length = y.snd.snd.length ∧ (0 : Nat) = (0 : Nat)
  ∧ x.fst - (1 : Int) = y.fst ∧ True) ∧ ((True ∧ xs = xs) ∧ j = y.snd.fst ∧ True) ∧ ((f, a, b, c).fst = (f, a, b, c).fst ∧ (f, a, b, c).snd.fst = (f, a, b, c).snd.fst ∧ (f, a, b,
  c).snd.snd.fst = (f, a, b, c).snd.snd.fst ∧ (f, a, b, c).snd.snd.snd = (f, a, b, c).snd.snd.snd ∧ True) ∧ x.snd.snd ++ [[AV.int IntKind.i64 k, AV.str nm, AV.int IntKind.i64 t,
  AV.int IntKind.i64 (f, a, b, c).fst, AV.int IntKind.i64 (f, a, b, c).snd.fst, AV.int IntKind.i64 (f, a, b, c).snd.snd.fst, AV.int IntKind.i64 (f, a, b, c).snd.snd.snd, AV.sl (2 :
  Nat) false ys]] = y.snd.snd ∧ True else False else False else bif decide (x.snd.snd.length = x.snd.snd.length ∧ x.snd.snd.length + [[AV.int IntKind.i64 k, AV.str nm, AV.int
  IntKind.i64 t, AV.int IntKind.i64 f_2, AV.int IntKind.i64 a_6, AV.int IntKind.i64 b_2, AV.int IntKind.i64 c_2, AV.sl (2 : Nat) false ys]].length ≤ (9223372036854775807 : Nat) ∧
  (x.snd.snd.length + [[AV.int IntKind.i64 k, AV.str nm, AV.int IntKind.i64 t, AV.int IntKind.i64 f_2, AV.int IntKind.i64 a_6, AV.int IntKind.i64 b_2, AV.int IntKind.i64 c_2, AV.sl
  (2 : Nat) false ys]].length) * (88 : Nat) ≤ (140737488355328 : Nat)) then bif decide (rng IntKind.i64 (x.fst - (1 : Int))) then ∃ y, PlcP n (f, a, b, c).fst (f, a, b, c).snd.fst
  (f, a, b, c).snd.snd.fst (f, a, b, c).snd.snd.snd y ∧ (plcI xs n near (f, a, b, c)).m y < (plcI xs n near (f, a, b, c)).m x ∧ ((0 : Nat) = (0 : Nat) ∧ near = near ∧ (x.snd.snd ++
  [[AV.int IntKind.i64 k, AV.str nm, AV.int IntKind.i64 t, AV.int IntKind.i64 f_2, AV.int IntKind.i64 a_6, AV.int IntKind.i64 b_2, AV.int IntKind.i64 c_2, AV.sl (2 : Nat) false
  ys]]).length = y.snd.snd.length ∧ (0 : Nat) = (0 : Nat) ∧ x.fst - (1 : Int) = y.fst ∧ True) ∧ ((True ∧ xs = xs) ∧ j = y.snd.fst ∧ True) ∧ ((f, a, b, c).fst = (f, a, b, c).fst ∧ (f,
  a, b, c).snd.fst = (f, a, b, c).snd.fst ∧ (f, a, b, c).snd.snd.fst = (f, a, b, c).snd.snd.fst ∧ (f, a, b, c).snd.snd.snd = (f, a, b, c).snd.snd.snd ∧ True) ∧ x.snd.snd ++ [[AV.int
  IntKind.i64 k, AV.str nm, AV.int IntKind.i64 t, AV.int IntKind.i64 f_2, AV.int IntKind.i64 a_6, AV.int IntKind.i64 b_2, AV.int IntKind.i64 c_2, AV.sl (2 : Nat) false ys]] =
  y.snd.snd ∧ True else False else False else bif decide (x.snd.snd.length = x.snd.snd.length) then ∃ ys j, PlcQ n ys j ∧ (True ∧ x.snd.snd = ys) ∧ ((True ∧ xs = xs) ∧ x.snd.fst = j
  ∧ True) ∧ True else False else False
set_option maxRecDepth 100000 in
theorem qplaced_P : qplaced_T := by
  unfold qplaced_T
  intro gl xs i n near ⟨hs, h1, h2, h3⟩
  have s := hs.s
  refine ⟨hs, fun f a b c j q1 => cdI (by omega) ⟨⟨s, q1.fj⟩, fun v j q2 => ⟨⟨(v, j, []), ⟨?_, q2.fj, ?_, rpsV_nil, q1.fv, q1.fn⟩, ⟨rfl, rfl, rfl, rfl, rfl, trivial⟩, ⟨⟨trivial, rfl⟩, rfl, trivial⟩, ⟨rfl, rfl, rfl, rfl, trivial⟩, rfl, trivial⟩, ?_⟩⟩⟩
  · have := q2.fv (by omega); simp only; omega
  · have := q2.fv (by omega); simp only [List.length_nil]; omega
  rintro ⟨m, j, ys⟩ ⟨hi, hj, hl, hr, hp⟩
  simp only at hi hj hl hr hp
  dsimp only
  refine cs (fun hm => ⟨⟨⟨s, hj⟩, h1⟩, fun k nm t f1 a1 b1 c1 rd j q3 => ⟨⟨s, q3.fj⟩, fun f2 a2 b2 c2 j q4 => ⟨⟨s, q4.fj⟩, fun v j q5 => cs (fun _ => ?_) (fun _ => ?_)⟩⟩⟩) (fun hm => ?_)
  · refine cd1 ⟨rfl, by simp; omega, by simp; omega⟩ (cdI (by omega) ⟨(m - 1, j, ys ++ [rpA k nm t f a b c rd]), ⟨by simp only; omega, q5.fj, by simp; omega, rpsV_add hr ⟨q3.fk, q3.fn, q3.ft, hp.1, hp.2, q3.fr⟩, hp⟩, by simp only [plcI]; omega, ⟨rfl, rfl, rfl, rfl, rfl, trivial⟩, ⟨⟨trivial, rfl⟩, rfl, trivial⟩, ⟨rfl, rfl, rfl, rfl, trivial⟩, rfl, trivial⟩)
  · refine cd1 ⟨rfl, by simp; omega, by simp; omega⟩ (cdI (by omega) ⟨(m - 1, j, ys ++ [rpA k nm t f2 a2 b2 c2 rd]), ⟨by simp only; omega, q5.fj, by simp; omega, rpsV_add hr ⟨q3.fk, q3.fn, q3.ft, q4.fv, q4.fn, q3.fr⟩, hp⟩, by simp only [plcI]; omega, ⟨rfl, rfl, rfl, rfl, rfl, trivial⟩, ⟨⟨trivial, rfl⟩, rfl, trivial⟩, ⟨rfl, rfl, rfl, rfl, trivial⟩, rfl, trivial⟩)
  · exact cd1 rfl ⟨_, _, ⟨hr, by omega, hj⟩, ⟨trivial, rfl⟩, sT⟩
def qplaced_S : Prop := ∀ (gl : Glob) (xs : List (List AV)) (i n near : Int), SrcQ xs i ∧ (0 ≤ near ∧ near ≤ 52595999) ∧ 0 ≤ n ∧ n ≤ 1000 → fnQ Tryd.prog { glob := gl, spec := lk [], specH := lk [], specQ := lk [(24, qplace_s), (13, qn_s), (15, qreport_s)], nowf := true } { nt := 37, drop := drp [(2, 6144), (3, 122880), (4, 131072), (5, 1572864), (6, 14680064), (7, 117440512), (8, 402653184), (9, 3221225472), (10, 64424509440), (11, 68719476736)], fr := 1000, kp := [0], emp := fun id => cond (Nat.beq id 2) [(7, 1500, 29, 8)] [] } (plcJ xs n near) 6 Tryd.f11 [.ptr 0 0, .int .i64 n, .int .i64 near] [.cells [.sl 1 false xs, .int .i64 i]] (fun r2 bs2 => ∃ (ys : List (List AV)) (j : Int), (PlcQ n ys j) ∧ le r2 (.sl 8 false ys) ∧ leBs bs2 [.cells [.sl 1 false xs, .int .i64 j]])
set_option maxRecDepth 100000 in
theorem qplaced_e : qplaced_T = qplaced_S := by kernel_rfl
theorem qplaced_v : qplaced_S := @Eq.mp (qplaced_T) (qplaced_S) (qplaced_e) qplaced_P
theorem qplaced_ok (gl : Glob) : QOK Tryd.prog gl 11 qplaced_s := by
  refine ⟨fok Tryd.func11 (by kernel_rfl) (by kernel_rfl), ?_⟩
  intro xs bs T h K hT
  unfold qplaced_s at h
  split at h
  · simp only [Option.some.injEq] at h
    subst h
    obtain ⟨hp, hK⟩ := hT
    obtain ⟨r, bs2, ⟨o0, o1, hq, hl, hb⟩, hC⟩ := fnQ_sound tyNil (by exact specOK rfl rfl trivial trivial (d := qsOf rfl ⟨qplace_ok gl, qn_ok gl, qreport_ok gl, trivial⟩)) (by kernel_rfl) Tryd.func11 (qplaced_v gl _ _ _ _ hp)
    exact ⟨_, _, hK o0 o1 hq, hC.le hl hb⟩
  · cases h
end Go.Proofs.YtceknalhogbbnaaDoor
