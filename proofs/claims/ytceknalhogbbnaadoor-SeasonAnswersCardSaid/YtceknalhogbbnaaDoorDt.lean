/- Data for the statements: minutes, places, names, readings, reports: what they promise. -/
import Derived.Test.YtceknalhogbbnaaDoorKq
import Derived.Test.YtceknalhogbbnaaDoorElR
import Derived.Test.YtceknalhogbbnaaDoorPlT
import Derived.Test.YtceknalhogbbnaaDoorClH
namespace Go.Proofs.YtceknalhogbbnaaDoor
open Go
set_option linter.unusedVariables false
set_option linter.unusedSimpArgs false

structure StrsA (ys : List (List AV)) : Prop where
  fs : ∀ x ∈ ys, ∃ s : ByteArray, x = [.str s]
def qtext_s : SpQ
  | [.ptr 0 0, .rw 1 1 n], [.cells [.sl 1 false xs, .int .i64 i], .row 9 1 ys] => some (fun K => (SrcQ xs i ∧ (n = ys.length ∧ 1 ≤ n ∧ n ≤ 1000) ∧ StrsA ys) ∧ (∀ (v : ByteArray) (j : Int), (PickQ ys (.str v) j) → K (.str v) [.cells [.sl 1 false xs, .int .i64 j], .row 9 1 ys]))
  | _, _ => none
set_option maxRecDepth 100000 in
def qtext_T : Prop :=
  ∀ (gl : Glob) (xs ys : List (List AV)) (i : Int) (n : Nat), SrcQ xs i ∧ (n = ys.length ∧ (1 : Nat) ≤ n ∧ n ≤ (1000 : Nat)) ∧ StrsA ys → SrcQ xs i ∧ ∀ (v j : Int), NumQ (↑n : Int) v
  j → bif decide ((0 : Int) ≤ v ∧ v < (↑n : Int)) then bif decide (n = ys.length ∧ v.toNat < ys.length) then ∃ s, List.take [AV.str s].length (List.drop (0 : Nat) (ys.getD v.toNat
  [])) = [AV.str s] ∧ ∃ v j_1, PickQ ys (AV.str v) j_1 ∧ s = v ∧ ((True ∧ xs = xs) ∧ j = j_1 ∧ True) ∧ ys = ys ∧ True else False else False
set_option maxRecDepth 100000 in
theorem qtext_P : qtext_T := by
  unfold qtext_T
  intro gl xs ys i n ⟨hs, ⟨h1, h2, h3⟩, hi⟩
  refine ⟨hs, fun v j hq => ?_⟩
  have hv := hq.fv (by omega)
  have hj := hq.fj
  have hl : v.toNat < ys.length := by omega
  have hm : ys.getD v.toNat [] ∈ ys := by
    rw [List.getD_eq_getElem?_getD, List.getElem?_eq_getElem hl]; exact List.getElem_mem hl
  obtain ⟨z, hz⟩ := hi.fs _ hm
  refine cd1 (by omega) (cd1 ⟨h1, hl⟩ ⟨z, by rw [hz]; rfl, z, j, ⟨by rw [← hz]; exact hm, hj⟩, rfl, ⟨⟨trivial, rfl⟩, rfl, trivial⟩, rfl, trivial⟩)
def qtext_S : Prop := ∀ (gl : Glob) (xs ys : List (List AV)) (i : Int) (n : Nat), SrcQ xs i ∧ (n = ys.length ∧ 1 ≤ n ∧ n ≤ 1000) ∧ StrsA ys → fnQ Tryd.prog { glob := gl, spec := lk [], specH := lk [], specQ := lk [(13, qn_s)], shape := [11], nowf := true } { nt := 12, drop := drp [(1, 4064)], fr := 1000, kp := [0, 1] } (fun _ _ => none) 6 Tryd.f38 [.ptr 0 0, .rw 1 1 n] [.cells [.sl 1 false xs, .int .i64 i], .row 9 1 ys] (fun r2 bs2 => ∃ (v : ByteArray) (j : Int), (PickQ ys (.str v) j) ∧ le r2 (.str v) ∧ leBs bs2 [.cells [.sl 1 false xs, .int .i64 j], .row 9 1 ys])
set_option maxRecDepth 100000 in
theorem qtext_e : qtext_T = qtext_S := by kernel_rfl
theorem qtext_v : qtext_S := @Eq.mp (qtext_T) (qtext_S) (qtext_e) qtext_P
theorem qtext_ok (gl : Glob) : QOK Tryd.prog gl 38 qtext_s := by
  refine ⟨fok Tryd.func38 (by kernel_rfl) (by kernel_rfl), ?_⟩
  intro xs bs T h K hT
  unfold qtext_s at h
  split at h
  · simp only [Option.some.injEq] at h
    subst h
    obtain ⟨hp, hK⟩ := hT
    obtain ⟨r, bs2, ⟨o0, o1, hq, hl, hb⟩, hC⟩ := fnQ_sound tyNil (by exact specOK rfl rfl trivial trivial (d := qsOf rfl ⟨qn_ok gl, trivial⟩)) (by kernel_rfl) Tryd.func38 (qtext_v gl _ _ _ _ hp)
    exact ⟨_, _, hK o0 o1 hq, hC.le hl hb⟩
  · cases h
structure MinQ (m j : Int) : Prop where
  fm : 0 ≤ m ∧ m ≤ 52595999
  fj : 0 ≤ j
def qminute_s : SpQ
  | [.ptr 0 0], [.cells [.sl 1 false xs, .int .i64 i]] => some (fun K => (SrcQ xs i) ∧ (∀ (m j : Int), (MinQ m j) → K (.int .i64 m) [.cells [.sl 1 false xs, .int .i64 j]]))
  | _, _ => none
set_option maxRecDepth 100000 in
def qminute_T : Prop :=
  ∀ (gl : Glob) (xs : List (List AV)) (i : Int), SrcQ xs i → SrcQ xs i ∧ ∀ (v j : Int), NumQ (6 : Int) v j → bif decide (v = (0 : Int)) then SrcQ xs j ∧ ∀ (v j : Int), RawQ v j →
  SrcQ xs j ∧ ∀ (v_1 j : Int), RawQ v_1 j → True ∧ ∃ m j_1, MinQ m j_1 ∧ modZ (IntKind.i64.wrap (IntKind.i64.wrap (v * (7919 : Int)) + v_1)) (52596000 : Int) = m ∧ ((True ∧ xs = xs)
  ∧ j = j_1 ∧ True) ∧ True else bif decide (v = (1 : Int)) then (SrcQ xs j ∧ ((4 : Nat) = (4 : Nat) ∧ (1 : Nat) ≤ (4 : Nat) ∧ (4 : Nat) ≤ (1000 : Nat)) ∧ IntsB [[AV.int IntKind.i64
  (0 : Int)], [AV.int IntKind.i64 (52595999 : Int)], [AV.int IntKind.i64 (20160 : Int)], [AV.int IntKind.i64 (52575839 : Int)]]) ∧ ∀ (v j : Int), PickQ [[AV.int IntKind.i64 (0 :
  Int)], [AV.int IntKind.i64 (52595999 : Int)], [AV.int IntKind.i64 (20160 : Int)], [AV.int IntKind.i64 (52575839 : Int)]] (AV.int IntKind.i64 v) j → ∃ m j_1, MinQ m j_1 ∧ v = m ∧
  ((True ∧ xs = xs) ∧ j = j_1 ∧ True) ∧ True else SrcQ xs j ∧ ∀ (v j : Int), NumQ (2000 : Int) v j → ∃ m j_1, MinQ m j_1 ∧ IntKind.i64.wrap ((14000000 : Int) + IntKind.i64.wrap (v *
  (60 : Int))) = m ∧ ((True ∧ xs = xs) ∧ j = j_1 ∧ True) ∧ True
set_option maxRecDepth 100000 in
theorem qminute_P : qminute_T := by
  unfold qminute_T
  intro gl xs i hs
  have s := hs.s
  refine ⟨hs, fun v j hq => cs (fun h => ⟨⟨s, hq.fj⟩, fun v j q1 => ⟨⟨s, q1.fj⟩, fun v2 j q2 => ⟨trivial, _, _, ⟨?_, q2.fj⟩, rfl, ⟨⟨trivial, rfl⟩, rfl, trivial⟩, trivial⟩⟩⟩) (fun h => cs (fun h => ⟨⟨⟨s, hq.fj⟩, ⟨rfl, by decide, by decide⟩, ints_of [0, 52595999, 20160, 52575839] (by decide)⟩, fun v j q1 => ⟨_, _, ⟨?_, q1.fj⟩, rfl, ⟨⟨trivial, rfl⟩, rfl, trivial⟩, trivial⟩⟩) (fun h => ⟨⟨s, hq.fj⟩, fun v j q1 => ⟨_, _, ⟨?_, q1.fj⟩, rfl, ⟨⟨trivial, rfl⟩, rfl, trivial⟩, trivial⟩⟩))⟩
  · have : ∀ z : Int, 0 ≤ modZ z 52596000 ∧ modZ z 52596000 ≤ 52595999 := by
      intro z
      unfold modZ
      rw [if_neg (by decide)]
      omega
    exact this _
  · have := pick_of [0, 52595999, 20160, 52575839] q1
    simp only [List.mem_cons, List.not_mem_nil, or_false] at this
    omega
  · have hv := q1.fv (by decide)
    rw [wrap_eq (k := .i64) (n := v * 60) (by show _ ∧ _; omega), wrap_eq (k := .i64) (by show _ ∧ _; omega)]
    omega
def qminute_S : Prop := ∀ (gl : Glob) (xs : List (List AV)) (i : Int), SrcQ xs i → fnQ Tryd.prog { glob := gl, spec := lk [(26, mod_s)], specH := lk [], specQ := lk [(13, qn_s), (27, qraw_s), (28, qpick_s)], nowf := true, wrap := true } { nt := 23, drop := drp [(1, 8), (2, 64), (3, 16256), (4, 32768), (5, 458752), (6, 7864320)], fr := 1000, kp := [0] } (fun _ _ => none) 6 Tryd.f10 [.ptr 0 0] [.cells [.sl 1 false xs, .int .i64 i]] (fun r2 bs2 => ∃ (m j : Int), (MinQ m j) ∧ le r2 (.int .i64 m) ∧ leBs bs2 [.cells [.sl 1 false xs, .int .i64 j]])
set_option maxRecDepth 100000 in
theorem qminute_e : qminute_T = qminute_S := by kernel_rfl
theorem qminute_v : qminute_S := @Eq.mp (qminute_T) (qminute_S) (qminute_e) qminute_P
theorem qminute_ok (gl : Glob) : QOK Tryd.prog gl 10 qminute_s := by
  refine ⟨fok Tryd.func10 (by kernel_rfl) (by kernel_rfl), ?_⟩
  intro xs bs T h K hT
  unfold qminute_s at h
  split at h
  · simp only [Option.some.injEq] at h
    subst h
    obtain ⟨hp, hK⟩ := hT
    obtain ⟨r, bs2, ⟨o0, o1, hq, hl, hb⟩, hC⟩ := fnQ_sound tyNil (by exact specOK rfl rfl ⟨mod_ok gl, trivial⟩ trivial (d := qsOf rfl ⟨qn_ok gl, qraw_ok gl, qpick_ok gl, trivial⟩)) (by kernel_rfl) Tryd.func10 (qminute_v gl _ _ hp)
    exact ⟨_, _, hK o0 o1 hq, hC.le hl hb⟩
  · cases h
def qnear_s : SpQ
  | [.ptr 0 0, .int .i64 near], [.cells [.sl 1 false xs, .int .i64 i]] => some (fun K => (SrcQ xs i ∧ 0 ≤ near ∧ near ≤ 52595999) ∧ (∀ (m j : Int), (MinQ m j) → K (.int .i64 m) [.cells [.sl 1 false xs, .int .i64 j]]))
  | _, _ => none
set_option maxRecDepth 100000 in
def qnear_T : Prop :=
  ∀ (gl : Glob) (xs : List (List AV)) (i near : Int), SrcQ xs i ∧ (0 : Int) ≤ near ∧ near ≤ (52595999 : Int) → (SrcQ xs i ∧ (-600 : Int) ≤ (600 : Int) ∧ (-1000000000 : Int) ≤ (-600 :
  Int) ∧ (600 : Int) ≤ (1000000000 : Int)) ∧ ∀ (v j : Int), ((-600 : Int) ≤ v ∧ v ≤ (600 : Int)) ∧ (0 : Int) ≤ j → (SrcQ xs j ∧ (-20159 : Int) ≤ (20159 : Int) ∧ (-1000000000 : Int) ≤
  (-20159 : Int) ∧ (20159 : Int) ≤ (1000000000 : Int)) ∧ ∀ (v_1 j : Int), ((-20159 : Int) ≤ v_1 ∧ v_1 ≤ (20159 : Int)) ∧ (0 : Int) ≤ j → (SrcQ xs j ∧ ((3 : Nat) = [[AV.int
  IntKind.i64 (0 : Int)], [AV.int IntKind.i64 v], [AV.int IntKind.i64 v_1]].length ∧ (1 : Nat) ≤ (3 : Nat) ∧ (3 : Nat) ≤ (1000 : Nat)) ∧ IntsB [[AV.int IntKind.i64 (0 : Int)],
  [AV.int IntKind.i64 v], [AV.int IntKind.i64 v_1]]) ∧ ∀ (v_2 j : Int), PickQ [[AV.int IntKind.i64 (0 : Int)], [AV.int IntKind.i64 v], [AV.int IntKind.i64 v_1]] (AV.int IntKind.i64
  v_2) j → bif decide (rng IntKind.i64 (near + v_2)) then ∃ m j_1, MinQ m j_1 ∧ max (0 : Int) (min (52595999 : Int) (near + v_2)) = m ∧ ((True ∧ xs = xs) ∧ j = j_1 ∧ True) ∧ True
  else False
set_option maxRecDepth 100000 in
theorem qnear_P : qnear_T := by
  unfold qnear_T
  intro gl xs i near ⟨hs, h1, h2⟩
  have s := hs.s
  refine ⟨⟨hs, by decide, by decide, by decide⟩, fun v j q1 => ⟨⟨⟨s, q1.2⟩, by decide, by decide, by decide⟩, fun v2 j q2 => ⟨⟨⟨s, q2.2⟩, ⟨rfl, by decide, by decide⟩, ints_of [0, v, v2] ?_⟩, fun v3 j q3 => ?_⟩⟩⟩
  · intro n hn
    simp only [List.mem_cons, List.not_mem_nil, or_false] at hn
    show _ ∧ _
    omega
  · have := pick_of [0, v, v2] q3
    simp only [List.mem_cons, List.not_mem_nil, or_false] at this
    exact cdI (by omega) ⟨_, _, ⟨by omega, q3.fj⟩, rfl, ⟨⟨trivial, rfl⟩, rfl, trivial⟩, trivial⟩
def qnear_S : Prop := ∀ (gl : Glob) (xs : List (List AV)) (i near : Int), SrcQ xs i ∧ 0 ≤ near ∧ near ≤ 52595999 → fnQ Tryd.prog { glob := gl, spec := lk [], specH := lk [], specQ := lk [(14, qrange_s), (28, qpick_s)], nowf := true } { nt := 16, drop := drp [(1, 65504)], fr := 1000, kp := [0] } (fun _ _ => none) 6 Tryd.f36 [.ptr 0 0, .int .i64 near] [.cells [.sl 1 false xs, .int .i64 i]] (fun r2 bs2 => ∃ (m j : Int), (MinQ m j) ∧ le r2 (.int .i64 m) ∧ leBs bs2 [.cells [.sl 1 false xs, .int .i64 j]])
set_option maxRecDepth 100000 in
theorem qnear_e : qnear_T = qnear_S := by kernel_rfl
theorem qnear_v : qnear_S := @Eq.mp (qnear_T) (qnear_S) (qnear_e) qnear_P
theorem qnear_ok (gl : Glob) : QOK Tryd.prog gl 36 qnear_s := by
  refine ⟨fok Tryd.func36 (by kernel_rfl) (by kernel_rfl), ?_⟩
  intro xs bs T h K hT
  unfold qnear_s at h
  split at h
  · simp only [Option.some.injEq] at h
    subst h
    obtain ⟨hp, hK⟩ := hT
    obtain ⟨r, bs2, ⟨o0, o1, hq, hl, hb⟩, hC⟩ := fnQ_sound tyNil (by exact specOK rfl rfl trivial trivial (d := qsOf rfl ⟨qrange_ok gl, qpick_ok gl, trivial⟩)) (by kernel_rfl) Tryd.func36 (qnear_v gl _ _ _ hp)
    exact ⟨_, _, hK o0 o1 hq, hC.le hl hb⟩
  · cases h
theorem nrm_ok {f a b c : Int} (hv : Vld f a b c) : Vld (nrm f a b c).1 (nrm f a b c).2.1 (nrm f a b c).2.2.1 (nrm f a b c).2.2.2 ∧ isN (nrm f a b c).1 (nrm f a b c).2.1 (nrm f a b c).2.2.1 (nrm f a b c).2.2.2 = true := by
  obtain ⟨n, hn, ho, e⟩ := nrm_row hv
  have r := row_of hv hn ho
  rw [e]
  refine ⟨r.vld, ?_⟩
  unfold isN
  rw [r.nrm, e, vld_t r.vld]
  simp
structure PlaQ (f a b c j : Int) : Prop where
  fv : Vld f a b c
  fn : isN f a b c = true
  fj : 0 ≤ j
structure PlaC (x : Int × Int × Int) : Prop where
  ff : 0 ≤ x.1 ∧ x.1 < 20
  fa : 0 ≤ x.2.1 ∧ x.2.1 ≤ 840
  fj : 0 ≤ x.2.2
def plaC (xs : List (List AV)) : LInv := ⟨Int × Int × Int, fun x => ⟨[(0, .ptr 0 0), (2, .ptr 1002 0), (3, .ptr 1003 0)], [(0, .cells [.sl 1 false xs, .int .i64 x.2.2]), (1002, .cells [.int .i64 0, .int .i64 0, .int .i64 0, .int .i64 0]), (1003, .cells [.int .i64 x.1, .int .i64 x.2.1, .int .i64 0, .int .i64 0])]⟩, PlaC, fun _ => 0, none⟩
def qplace_s : SpQ
  | [.ptr 0 0], [.cells [.sl 1 false xs, .int .i64 i]] => some (fun K => (SrcQ xs i) ∧ (∀ (f a b c j : Int), (PlaQ f a b c j) → K (.agg [.int .i64 f, .int .i64 a, .int .i64 b, .int .i64 c]) [.cells [.sl 1 false xs, .int .i64 j]]))
  | _, _ => none
set_option maxRecDepth 100000 in
def qplace_T (vld : Int → Int → Int → Int → Bool) (adr : Int → Int → Int → Int → List (List AV)) (nrm : Int → Int → Int → Int → Int × Int × Int × Int) : Prop :=
  ∀ (gl : Glob) (xs : List (List AV)) (i : Int), SrcQ xs i → SrcQ xs i ∧ ∀ (v j : Int), NumQ (20 : Int) v j → SrcQ xs j ∧ ∀ (v_1 j : Int), NumQ (841 : Int) v_1 j → (SrcQ xs j ∧ ∀
  (v_2 j : Int), NumQ (4 : Int) v_2 j → bif decide (v_2 = (0 : Int)) then SrcQ xs j ∧ ∀ (v_3 j : Int), NumQ (9 : Int) v_3 j → bif decide (rng IntKind.i64 ((105 : Int) * v_3)) then ∃
  x, PlaC x ∧ ((0 : Nat) = (0 : Nat) ∧ (0 : Nat) = (0 : Nat) ∧ (0 : Nat) = (0 : Nat) ∧ True) ∧ ((True ∧ xs = xs) ∧ j = x.snd.snd ∧ True) ∧ ((0 : Int) = (0 : Int) ∧ (0 : Int) = (0 :
  Int) ∧ (0 : Int) = (0 : Int) ∧ (0 : Int) = (0 : Int) ∧ True) ∧ (v = x.fst ∧ (105 : Int) * v_3 = x.snd.fst ∧ (0 : Int) = (0 : Int) ∧ (0 : Int) = (0 : Int) ∧ True) ∧ True else False
  else bif decide (v_2 = (1 : Int)) then SrcQ xs j ∧ ∀ (v_3 j : Int), NumQ (5 : Int) v_3 j → bif decide (rng IntKind.i64 ((210 : Int) * v_3)) then ∃ x, PlaC x ∧ ((0 : Nat) = (0 :
  Nat) ∧ (0 : Nat) = (0 : Nat) ∧ (0 : Nat) = (0 : Nat) ∧ True) ∧ ((True ∧ xs = xs) ∧ j = x.snd.snd ∧ True) ∧ ((0 : Int) = (0 : Int) ∧ (0 : Int) = (0 : Int) ∧ (0 : Int) = (0 : Int) ∧
  (0 : Int) = (0 : Int) ∧ True) ∧ (v = x.fst ∧ (210 : Int) * v_3 = x.snd.fst ∧ (0 : Int) = (0 : Int) ∧ (0 : Int) = (0 : Int) ∧ True) ∧ True else False else ∃ x, PlaC x ∧ ((0 : Nat) =
  (0 : Nat) ∧ (0 : Nat) = (0 : Nat) ∧ (0 : Nat) = (0 : Nat) ∧ True) ∧ ((True ∧ xs = xs) ∧ j = x.snd.snd ∧ True) ∧ ((0 : Int) = (0 : Int) ∧ (0 : Int) = (0 : Int) ∧ (0 : Int) = (0 :
  Int) ∧ (0 : Int) = (0 : Int) ∧ True) ∧ (v = x.fst ∧ v_1 = x.snd.fst ∧ (0 : Int) = (0 : Int) ∧ (0 : Int) = (0 : Int) ∧ True) ∧ True) ∧ ∀ (x : Int × Int × Int), PlaC x → bif decide
  (rng IntKind.i64 ((840 : Int) - x.snd.fst)) then bif decide (rng IntKind.i64 ((840 : Int) - x.snd.fst + (1 : Int))) then SrcQ xs x.snd.snd ∧ ∀ (v j : Int), NumQ ((840 : Int) -
  x.snd.fst + (1 : Int)) v j → SrcQ xs j ∧ ∀ (v_2 j : Int), NumQ (3 : Int) v_2 j → bif decide (v_2 = (0 : Int)) then bif decide (rng IntKind.i64 (v - v.tmod (105 : Int))) then bif
  decide (rng IntKind.i64 ((840 : Int) - x.snd.fst)) then bif decide (rng IntKind.i64 ((840 : Int) - x.snd.fst - (v - v.tmod (105 : Int)))) then True ∧ ∃ f a b c j_1, PlaQ f a b c
  j_1 ∧ ((nrm x.fst x.snd.fst (v - v.tmod (105 : Int)) ((840 : Int) - x.snd.fst - (v - v.tmod (105 : Int)))).fst = f ∧ (nrm x.fst x.snd.fst (v - v.tmod (105 : Int)) ((840 : Int) -
  x.snd.fst - (v - v.tmod (105 : Int)))).snd.fst = a ∧ (nrm x.fst x.snd.fst (v - v.tmod (105 : Int)) ((840 : Int) - x.snd.fst - (v - v.tmod (105 : Int)))).snd.snd.fst = b ∧ (nrm
  x.fst x.snd.fst (v - v.tmod (105 : Int)) ((840 : Int) - x.snd.fst - (v - v.tmod (105 : Int)))).snd.snd.snd = c ∧ True) ∧ ((True ∧ xs = xs) ∧ j = j_1 ∧ True) ∧ True else False else
  False else False else bif decide (rng IntKind.i64 ((840 : Int) - x.snd.fst)) then bif decide (rng IntKind.i64 ((840 : Int) - x.snd.fst - v)) then True ∧ ∃ f a b c j_1, PlaQ f a b c
  j_1 ∧ ((nrm x.fst x.snd.fst v ((840 : Int) - x.snd.fst - v)).fst = f ∧ (nrm x.fst x.snd.fst v ((840 : Int) - x.snd.fst - v)).snd.fst = a ∧ (nrm x.fst x.snd.fst v ((840 : Int) -
  x.snd.fst - v)).snd.snd.fst = b ∧ (nrm x.fst x.snd.fst v ((840 : Int) - x.snd.fst - v)).snd.snd.snd = c ∧ True) ∧ ((True ∧ xs = xs) ∧ j = j_1 ∧ True) ∧ True else False else False
  else False else False
set_option maxRecDepth 100000 in
theorem qplace_P : qplace_T vld adr nrm := by
  unfold qplace_T
  intro gl xs i hs
  have s := hs.s
  refine ⟨hs, fun v j q1 => ⟨⟨s, q1.fj⟩, fun v1 j q2 => ⟨⟨⟨s, q2.fj⟩, fun v2 j q3 => ?_⟩, ?_⟩⟩⟩
  · have h1 := q1.fv (by decide)
    have h2 := q2.fv (by decide)
    refine cs (fun _ => ⟨⟨s, q3.fj⟩, fun v3 j q4 => ?_⟩) (fun _ => cs (fun _ => ⟨⟨s, q3.fj⟩, fun v3 j q4 => ?_⟩) (fun _ => ?_))
    · have h3 := q4.fv (by decide)
      exact cdI (by omega) ⟨(v, 105 * v3, j), ⟨by simp only; omega, by simp only; omega, q4.fj⟩, ⟨rfl, rfl, rfl, trivial⟩, ⟨⟨trivial, rfl⟩, rfl, trivial⟩, ⟨rfl, rfl, rfl, rfl, trivial⟩, ⟨rfl, rfl, rfl, rfl, trivial⟩, trivial⟩
    · have h3 := q4.fv (by decide)
      exact cdI (by omega) ⟨(v, 210 * v3, j), ⟨by simp only; omega, by simp only; omega, q4.fj⟩, ⟨rfl, rfl, rfl, trivial⟩, ⟨⟨trivial, rfl⟩, rfl, trivial⟩, ⟨rfl, rfl, rfl, rfl, trivial⟩, ⟨rfl, rfl, rfl, rfl, trivial⟩, trivial⟩
    · exact ⟨(v, v1, j), ⟨by simp only; omega, by simp only; omega, q3.fj⟩, ⟨rfl, rfl, rfl, trivial⟩, ⟨⟨trivial, rfl⟩, rfl, trivial⟩, ⟨rfl, rfl, rfl, rfl, trivial⟩, ⟨rfl, rfl, rfl, rfl, trivial⟩, trivial⟩
  · rintro ⟨f, a, j⟩ ⟨hf, ha, hj⟩
    simp only at hf ha hj
    dsimp only
    refine cdI (by omega) (cdI (by omega) ⟨⟨s, hj⟩, fun b j q1 => ⟨⟨s, q1.fj⟩, fun v2 j q2 => ?_⟩⟩)
    have hb := q1.fv (by omega)
    refine cs (fun _ => ?_) (fun _ => ?_)
    · have e : b.tmod 105 = b % 105 := Int.tmod_eq_emod_of_nonneg hb.1
      rw [e]
      have hn := nrm_ok (f := f) (a := a) (b := b - b % 105) (c := 840 - a - (b - b % 105)) ⟨hf, by omega, by omega, by omega, by omega⟩
      exact cdI (by omega) (cdI (by omega) (cdI (by omega) ⟨trivial, _, _, _, _, _, ⟨hn.1, hn.2, q2.fj⟩, ⟨rfl, rfl, rfl, rfl, trivial⟩, ⟨⟨trivial, rfl⟩, rfl, trivial⟩, trivial⟩))
    · have hn := nrm_ok (f := f) (a := a) (b := b) (c := 840 - a - b) ⟨hf, by omega, by omega, by omega, by omega⟩
      exact cdI (by omega) (cdI (by omega) ⟨trivial, _, _, _, _, _, ⟨hn.1, hn.2, q2.fj⟩, ⟨rfl, rfl, rfl, rfl, trivial⟩, ⟨⟨trivial, rfl⟩, rfl, trivial⟩, trivial⟩)
def qplace_S (vld : Int → Int → Int → Int → Bool) (adr : Int → Int → Int → Int → List (List AV)) (nrm : Int → Int → Int → Int → Int × Int × Int × Int) : Prop := ∀ (gl : Glob) (xs : List (List AV)) (i : Int), SrcQ xs i → fnQ Tryd.prog { glob := gl, spec := lk [(44, (rNormal_s vld adr nrm))], specH := lk [], specQ := lk [(13, qn_s)], nowf := true } { nt := 55, drop := drp [(1, 1984), (2, 2048), (3, 16384), (4, 491520), (5, 1048576), (6, 31457280), (7, 4261412864), (8, 12884901888), (9, 4363686772736), (10, 558551906910208), (11, 17451448556060672), (12, 18014398509481984)], fr := 1000, kp := [0] } (invs [(100007, plaC xs)]) 6 Tryd.f24 [.ptr 0 0] [.cells [.sl 1 false xs, .int .i64 i]] (fun r2 bs2 => ∃ (f a b c j : Int), (PlaQ f a b c j) ∧ le r2 (.agg [.int .i64 f, .int .i64 a, .int .i64 b, .int .i64 c]) ∧ leBs bs2 [.cells [.sl 1 false xs, .int .i64 j]])
set_option maxRecDepth 100000 in
theorem qplace_e (vld : Int → Int → Int → Int → Bool) (adr : Int → Int → Int → Int → List (List AV)) (nrm : Int → Int → Int → Int → Int × Int × Int × Int) : qplace_T vld adr nrm = qplace_S vld adr nrm := by kernel_rfl
theorem qplace_v : qplace_S vld adr nrm := @Eq.mp (qplace_T vld adr nrm) (qplace_S vld adr nrm) (qplace_e vld adr nrm) qplace_P
theorem qplace_ok (gl : Glob) : QOK Tryd.prog gl 24 qplace_s := by
  refine ⟨fok Tryd.func24 (by kernel_rfl) (by kernel_rfl), ?_⟩
  intro xs bs T h K hT
  unfold qplace_s at h
  split at h
  · simp only [Option.some.injEq] at h
    subst h
    obtain ⟨hp, hK⟩ := hT
    obtain ⟨r, bs2, ⟨o0, o1, o2, o3, o4, hq, hl, hb⟩, hC⟩ := fnQ_sound tyNil (by exact specOK rfl rfl ⟨rNormal_ok gl, trivial⟩ trivial (d := qsOf rfl ⟨qn_ok gl, trivial⟩)) (by kernel_rfl) Tryd.func24 (qplace_v gl _ _ hp)
    exact ⟨_, _, hK o0 o1 o2 o3 o4 hq, hC.le hl hb⟩
  · cases h
end Go.Proofs.YtceknalhogbbnaaDoor
