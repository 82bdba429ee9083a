/- Data for the statements, II: names, readings, reports. -/
import Derived.Test.YtceknalhogbbnaaDoorDt
namespace Go.Proofs.YtceknalhogbbnaaDoor
open Go
set_option linter.unusedVariables false
set_option linter.unusedSimpArgs false

def nam6 : List ByteArray := [⟨#[65, 76, 80, 72, 65]⟩, ⟨#[66, 82, 65, 86, 79]⟩, ⟨#[48, 49, 50, 51, 52]⟩, ⟨#[68, 69, 76, 84, 65]⟩, ⟨#[69, 67, 72, 79, 55]⟩, ⟨#[55, 55, 55, 55, 55]⟩]
theorem sT {xs : List (List AV)} {j : Int} : ((True ∧ xs = xs) ∧ j = j ∧ True) ∧ True := ⟨⟨⟨trivial, rfl⟩, rfl, trivial⟩, trivial⟩
theorem in_bd {c : Int} (h : 1 ≤ c ∧ c ≤ 11) : -1000 ≤ inLo c ∧ inLo c + 1 ≤ inHi c ∧ inHi c ≤ 11000 ∧ inLo c + 40 ≤ (inLo c + inHi c).tdiv 2 ∧ (inLo c + inHi c).tdiv 2 + 40 ≤ inHi c := by
  have hc : c = 1 ∨ c = 2 ∨ c = 3 ∨ c = 4 ∨ c = 5 ∨ c = 6 ∨ c = 7 ∨ c = 8 ∨ c = 9 ∨ c = 10 ∨ c = 11 := by omega
  rcases hc with rfl | rfl | rfl | rfl | rfl | rfl | rfl | rfl | rfl | rfl | rfl <;> decide
structure NamQ (s : ByteArray) (j : Int) : Prop where
  fs : s ∈ nam6
  fj : 0 ≤ j
def qname_s : SpQ
  | [.ptr 0 0], [.cells [.sl 1 false xs, .int .i64 i]] => some (fun K => (SrcQ xs i) ∧ (∀ (s : ByteArray) (j : Int), (NamQ s j) → K (.str s) [.cells [.sl 1 false xs, .int .i64 j]]))
  | _, _ => none
set_option maxRecDepth 100000 in
def qname_T : Prop :=
  ∀ (gl : Glob) (xs : List (List AV)) (i : Int), SrcQ xs i → (SrcQ xs i ∧ ((6 : Nat) = (6 : Nat) ∧ (1 : Nat) ≤ (6 : Nat) ∧ (6 : Nat) ≤ (1000 : Nat)) ∧ StrsA [[AV.str { data := #[(65
  : UInt8), (76 : UInt8), (80 : UInt8), (72 : UInt8), (65 : UInt8)] }], [AV.str { data := #[(66 : UInt8), (82 : UInt8), (65 : UInt8), (86 : UInt8), (79 : UInt8)] }], [AV.str { data
  := #[(48 : UInt8), (49 : UInt8), (50 : UInt8), (51 : UInt8), (52 : UInt8)] }], [AV.str { data := #[(68 : UInt8), (69 : UInt8), (76 : UInt8), (84 : UInt8), (65 : UInt8)] }], [AV.str
  { data := #[(69 : UInt8), (67 : UInt8), (72 : UInt8), (79 : UInt8), (55 : UInt8)] }], [AV.str { data := #[(55 : UInt8), (55 : UInt8), (55 : UInt8), (55 : UInt8), (55 : UInt8)] }]])
  ∧ ∀ (v : ByteArray) (j : Int), PickQ [[AV.str { data := #[(65 : UInt8), (76 : UInt8), (80 : UInt8), (72 : UInt8), (65 : UInt8)] }], [AV.str { data := #[(66 : UInt8), (82 : UInt8),
  (65 : UInt8), (86 : UInt8), (79 : UInt8)] }], [AV.str { data := #[(48 : UInt8), (49 : UInt8), (50 : UInt8), (51 : UInt8), (52 : UInt8)] }], [AV.str { data := #[(68 : UInt8), (69 :
  UInt8), (76 : UInt8), (84 : UInt8), (65 : UInt8)] }], [AV.str { data := #[(69 : UInt8), (67 : UInt8), (72 : UInt8), (79 : UInt8), (55 : UInt8)] }], [AV.str { data := #[(55 :
  UInt8), (55 : UInt8), (55 : UInt8), (55 : UInt8), (55 : UInt8)] }]] (AV.str v) j → ∃ s j_1, NamQ s j_1 ∧ v = s ∧ ((True ∧ xs = xs) ∧ j = j_1 ∧ True) ∧ True
set_option maxRecDepth 100000 in
theorem qname_P : qname_T := by
  unfold qname_T
  intro gl xs i hs
  refine ⟨⟨hs, ⟨rfl, by decide, by decide⟩, ⟨fun x hx => ?_⟩⟩, fun v j q => ⟨_, _, ⟨?_, q.fj⟩, rfl, sT⟩⟩
  · simp only [List.mem_cons, List.not_mem_nil, or_false] at hx
    rcases hx with rfl | rfl | rfl | rfl | rfl | rfl <;> exact ⟨_, rfl⟩
  · have := q.fm
    simp only [List.mem_cons, List.cons.injEq, AV.str.injEq, and_true, List.not_mem_nil, or_false] at this
    unfold nam6
    simp only [List.mem_cons, List.not_mem_nil, or_false]
    exact this
def qname_S : Prop := ∀ (gl : Glob) (xs : List (List AV)) (i : Int), SrcQ xs i → fnQ Tryd.prog { glob := gl, spec := lk [], specH := lk [], specQ := lk [(38, qtext_s)], nowf := true } { nt := 6, drop := drp [(1, 56)], fr := 1000, kp := [0] } (fun _ _ => none) 6 Tryd.f35 [.ptr 0 0] [.cells [.sl 1 false xs, .int .i64 i]] (fun r2 bs2 => ∃ (s : ByteArray) (j : Int), (NamQ s j) ∧ le r2 (.str s) ∧ leBs bs2 [.cells [.sl 1 false xs, .int .i64 j]])
set_option maxRecDepth 100000 in
theorem qname_e : qname_T = qname_S := by kernel_rfl
theorem qname_v : qname_S := @Eq.mp (qname_T) (qname_S) (qname_e) qname_P
theorem qname_ok (gl : Glob) : QOK Tryd.prog gl 35 qname_s := by
  refine ⟨fok Tryd.func35 (by kernel_rfl) (by kernel_rfl), ?_⟩
  intro xs bs T h K hT
  unfold qname_s at h
  split at h
  · simp only [Option.some.injEq] at h
    subst h
    obtain ⟨hp, hK⟩ := hT
    obtain ⟨r, bs2, ⟨o0, o1, hq, hl, hb⟩, hC⟩ := fnQ_sound tyNil (by exact specOK rfl rfl trivial trivial (d := qsOf rfl ⟨qtext_ok gl, trivial⟩)) (by kernel_rfl) Tryd.func35 (qname_v gl _ _ hp)
    exact ⟨_, _, hK o0 o1 hq, hC.le hl hb⟩
  · cases h
structure SomQ (c v j : Int) : Prop where
  fv : inLo c ≤ v ∧ v ≤ inHi c
  fj : 0 ≤ j
def qsome_s (iL : Int → ByteArray) (inLo : Int → Int) (inHi : Int → Int) (inD : Int → Int) (inE : Int → Int) : SpQ
  | [.ptr 0 0, .int .i64 c], [.cells [.sl 1 false xs, .int .i64 i]] => some (fun K => (SrcQ xs i ∧ 1 ≤ c ∧ c ≤ 11) ∧ (∀ (v j : Int), (SomQ c v j) → K (.agg [.int .i64 c, .int .i64 v]) [.cells [.sl 1 false xs, .int .i64 j]]))
  | _, _ => none
set_option maxRecDepth 100000 in
def qsome_T (iL : Int → ByteArray) (inLo : Int → Int) (inHi : Int → Int) (inD : Int → Int) (inE : Int → Int) : Prop :=
  ∀ (gl : Glob) (xs : List (List AV)) (i c : Int), SrcQ xs i ∧ (1 : Int) ≤ c ∧ c ≤ (11 : Int) → True ∧ (SrcQ xs i ∧ inLo c ≤ inHi c ∧ (-1000000000 : Int) ≤ inLo c ∧ inHi c ≤
  (1000000000 : Int)) ∧ ∀ (v j : Int), (inLo c ≤ v ∧ v ≤ inHi c) ∧ (0 : Int) ≤ j → SrcQ xs j ∧ ∀ (v_1 j : Int), NumQ (5 : Int) v_1 j → bif decide (v_1 = (0 : Int)) then (SrcQ xs j ∧
  ((2 : Nat) = [[AV.int IntKind.i64 (inLo c)], [AV.int IntKind.i64 (inHi c)]].length ∧ (1 : Nat) ≤ (2 : Nat) ∧ (2 : Nat) ≤ (1000 : Nat)) ∧ IntsB [[AV.int IntKind.i64 (inLo c)],
  [AV.int IntKind.i64 (inHi c)]]) ∧ ∀ (v j : Int), PickQ [[AV.int IntKind.i64 (inLo c)], [AV.int IntKind.i64 (inHi c)]] (AV.int IntKind.i64 v) j → ∃ v_2 j_1, SomQ c v_2 j_1 ∧ (c = c
  ∧ v = v_2 ∧ True) ∧ ((True ∧ xs = xs) ∧ j = j_1 ∧ True) ∧ True else bif decide (v_1 = (1 : Int)) then bif decide (rng IntKind.i64 (inLo c + inHi c)) then bif decide (rng
  IntKind.i64 ((inLo c + inHi c).tdiv (2 : Int))) then (SrcQ xs j ∧ (-40 : Int) ≤ (40 : Int) ∧ (-1000000000 : Int) ≤ (-40 : Int) ∧ (40 : Int) ≤ (1000000000 : Int)) ∧ ∀ (v j : Int),
  ((-40 : Int) ≤ v ∧ v ≤ (40 : Int)) ∧ (0 : Int) ≤ j → bif decide (rng IntKind.i64 ((inLo c + inHi c).tdiv (2 : Int) + v)) then ∃ v_2 j_1, SomQ c v_2 j_1 ∧ (c = c ∧ (inLo c + inHi
  c).tdiv (2 : Int) + v = v_2 ∧ True) ∧ ((True ∧ xs = xs) ∧ j = j_1 ∧ True) ∧ True else False else False else False else bif decide (v_1 = (2 : Int)) then bif decide (rng IntKind.i64
  (inLo c + inHi c)) then bif decide (rng IntKind.i64 ((inLo c + inHi c).tdiv (2 : Int))) then (SrcQ xs j ∧ (-40 : Int) ≤ (40 : Int) ∧ (-1000000000 : Int) ≤ (-40 : Int) ∧ (40 : Int)
  ≤ (1000000000 : Int)) ∧ ∀ (v j : Int), ((-40 : Int) ≤ v ∧ v ≤ (40 : Int)) ∧ (0 : Int) ≤ j → bif decide (rng IntKind.i64 ((inLo c + inHi c).tdiv (2 : Int) + v)) then ∃ v_2 j_1, SomQ
  c v_2 j_1 ∧ (c = c ∧ (inLo c + inHi c).tdiv (2 : Int) + v = v_2 ∧ True) ∧ ((True ∧ xs = xs) ∧ j = j_1 ∧ True) ∧ True else False else False else False else ∃ v_2 j_1, SomQ c v_2 j_1
  ∧ (c = c ∧ v = v_2 ∧ True) ∧ ((True ∧ xs = xs) ∧ j = j_1 ∧ True) ∧ True
set_option maxRecDepth 100000 in
theorem qsome_P : qsome_T iL inLo inHi inD inE := by
  unfold qsome_T
  intro gl xs i c ⟨hs, h1, h2⟩
  have s := hs.s
  have b := in_bd ⟨h1, h2⟩
  refine ⟨trivial, ⟨hs, by omega, by omega, by omega⟩, fun v j q1 => ⟨⟨s, q1.2⟩, fun v1 j q2 => ?_⟩⟩
  have mid : ∀ j, 0 ≤ j → cond (decide (rng .i64 (inLo c + inHi c))) (cond (decide (rng .i64 ((inLo c + inHi c).tdiv 2))) ((SrcQ xs j ∧ (-40 : Int) ≤ 40 ∧ (-1000000000 : Int) ≤ -40 ∧ (40 : Int) ≤ 1000000000) ∧ ∀ (v j : Int), (-40 ≤ v ∧ v ≤ 40) ∧ 0 ≤ j → cond (decide (rng .i64 ((inLo c + inHi c).tdiv 2 + v))) (∃ v_2 j_1, SomQ c v_2 j_1 ∧ (c = c ∧ (inLo c + inHi c).tdiv 2 + v = v_2 ∧ True) ∧ ((True ∧ xs = xs) ∧ j = j_1 ∧ True) ∧ True) False) False) False := by
    intro j hj
    exact cdI (by omega) (cdI (by omega) ⟨⟨⟨s, hj⟩, by decide, by decide, by decide⟩, fun v j q => cdI (by omega) ⟨_, _, ⟨by omega, q.2⟩, ⟨rfl, rfl, trivial⟩, sT⟩⟩)
  refine cs (fun _ => ⟨⟨⟨s, q2.fj⟩, ⟨rfl, by decide, by decide⟩, ints_of [inLo c, inHi c] ?_⟩, fun v j q3 => ?_⟩) (fun _ => cs (fun _ => mid _ q2.fj) (fun _ => cs (fun _ => mid _ q2.fj) (fun _ => ⟨_, _, ⟨q1.1, q2.fj⟩, ⟨rfl, rfl, trivial⟩, sT⟩)))
  · intro n hn
    simp only [List.mem_cons, List.not_mem_nil, or_false] at hn
    show _ ∧ _
    omega
  · have := pick_of [inLo c, inHi c] q3
    simp only [List.mem_cons, List.not_mem_nil, or_false] at this
    exact ⟨_, _, ⟨by omega, q3.fj⟩, ⟨rfl, rfl, trivial⟩, sT⟩
def qsome_S (iL : Int → ByteArray) (inLo : Int → Int) (inHi : Int → Int) (inD : Int → Int) (inE : Int → Int) : Prop := ∀ (gl : Glob) (xs : List (List AV)) (i c : Int), SrcQ xs i ∧ 1 ≤ c ∧ c ≤ 11 → fnQ Tryd.prog { glob := gl, spec := lk [(45, (rdesc_s iL inLo inHi inD inE))], specH := lk [], specQ := lk [(13, qn_s), (14, qrange_s), (28, qpick_s)], nowf := true } { nt := 47, drop := drp [(1, 7936), (2, 2088960), (3, 2097152), (4, 16777216), (5, 8556380160), (6, 17179869184), (7, 34359738368), (8, 70300024700928), (9, 70368744177664)], fr := 1000, kp := [0] } (fun _ _ => none) 6 Tryd.f49 [.ptr 0 0, .int .i64 c] [.cells [.sl 1 false xs, .int .i64 i]] (fun r2 bs2 => ∃ (v j : Int), (SomQ c v j) ∧ le r2 (.agg [.int .i64 c, .int .i64 v]) ∧ leBs bs2 [.cells [.sl 1 false xs, .int .i64 j]])
set_option maxRecDepth 100000 in
theorem qsome_e (iL : Int → ByteArray) (inLo : Int → Int) (inHi : Int → Int) (inD : Int → Int) (inE : Int → Int) : qsome_T iL inLo inHi inD inE = qsome_S iL inLo inHi inD inE := by kernel_rfl
theorem qsome_v : qsome_S iL inLo inHi inD inE := @Eq.mp (qsome_T iL inLo inHi inD inE) (qsome_S iL inLo inHi inD inE) (qsome_e iL inLo inHi inD inE) qsome_P
theorem qsome_ok (gl : Glob) : QOK Tryd.prog gl 49 (qsome_s iL inLo inHi inD inE) := by
  refine ⟨fok Tryd.func49 (by kernel_rfl) (by kernel_rfl), ?_⟩
  intro xs bs T h K hT
  unfold qsome_s at h
  split at h
  · simp only [Option.some.injEq] at h
    subst h
    obtain ⟨hp, hK⟩ := hT
    obtain ⟨r, bs2, ⟨o0, o1, hq, hl, hb⟩, hC⟩ := fnQ_sound tyNil (by exact specOK rfl rfl ⟨rdesc_ok gl, trivial⟩ trivial (d := qsOf rfl ⟨qn_ok gl, qrange_ok gl, qpick_ok gl, trivial⟩)) (by kernel_rfl) Tryd.func49 (qsome_v gl _ _ _ hp)
    exact ⟨_, _, hK o0 o1 hq, hC.le hl hb⟩
  · cases h
/-- Valid readings of elements less than c. -/
structure RdV (c : Int) (ys : List (List AV)) : Prop where
  frow : ∀ i, i < ys.length → ∃ e v : Int, ys.getD i [] = [.int .i64 e, .int .i64 v] ∧ (1 ≤ e ∧ e < c) ∧ inLo e ≤ v ∧ v ≤ inHi e
  fasc : ∀ i j : Nat, i < j → j < ys.length → rE (ys.getD i []) < rE (ys.getD j [])
  flen : (ys.length : Int) ≤ c - 1
theorem rdV_nil (c : Int) (h : 1 ≤ c) : RdV c [] := ⟨fun i h => by simp at h, fun i j _ h => by simp at h, by simp; omega⟩
theorem rdV_up {c : Int} {ys : List (List AV)} (h : RdV c ys) : RdV (c + 1) ys := ⟨fun i hi => by obtain ⟨e, v, h1, h2, h3⟩ := h.frow i hi; exact ⟨e, v, h1, by omega, h3⟩, h.fasc, by have := h.flen; omega⟩
theorem gD_app {α : Type} {xs ys : List α} {d : α} {i : Nat} : (xs ++ ys).getD i d = if i < xs.length then xs.getD i d else ys.getD (i - xs.length) d := by
  rw [List.getD_eq_getElem?_getD, List.getD_eq_getElem?_getD, List.getD_eq_getElem?_getD]
  by_cases h : i < xs.length
  · rw [if_pos h, List.getElem?_append_left h]
  · rw [if_neg h, List.getElem?_append_right (by omega)]
theorem rdV_add {c v : Int} {ys : List (List AV)} (h : RdV c ys) (hc : 1 ≤ c) (hv : inLo c ≤ v ∧ v ≤ inHi c) : RdV (c + 1) (ys ++ [[.int .i64 c, .int .i64 v]]) := by
  refine ⟨fun i hi => ?_, fun i j hij hj => ?_, by have := h.flen; simp; omega⟩
  · rw [List.length_append, List.length_singleton] at hi
    rw [gD_app]
    by_cases hl : i < ys.length
    · rw [if_pos hl]
      obtain ⟨e, v, h1, h2, h3⟩ := h.frow i hl
      exact ⟨e, v, h1, by omega, h3⟩
    · rw [if_neg hl, show i - ys.length = 0 by omega]
      exact ⟨c, v, rfl, by omega, hv⟩
  · rw [List.length_append, List.length_singleton] at hj
    rw [gD_app, gD_app]
    by_cases hl : j < ys.length
    · rw [if_pos hl, if_pos (by omega)]
      exact h.fasc i j hij hl
    · rw [if_neg hl, if_pos (by omega), show j - ys.length = 0 by omega]
      obtain ⟨e, v, h1, h2, h3⟩ := h.frow i (by omega)
      rw [h1]
      show e < c
      omega
structure LstP (x : Int × Int × List (List AV)) : Prop where
  fc : 1 ≤ x.1 ∧ x.1 ≤ 12
  fj : 0 ≤ x.2.1
  fr : RdV x.1 x.2.2
def lstI (xs : List (List AV)) : LInv := ⟨Int × Int × List (List AV), fun x => ⟨[(0, .ptr 0 0), (3, .rw 1500 2 x.2.2.length), (4, .int .i64 x.1)], [(0, .cells [.sl 1 false xs, .int .i64 x.2.1]), (1500, .row 55 2 x.2.2)]⟩, LstP, fun x => (12 - x.1).toNat, none⟩
structure RdQ (ys : List (List AV)) (j : Int) : Prop where
  fr : RdV 12 ys
  fj : 0 ≤ j
def qlist_s : SpQ
  | [.ptr 0 0], [.cells [.sl 1 false xs, .int .i64 i]] => some (fun K => (SrcQ xs i) ∧ (∀ (ys : List (List AV)) (j : Int), (RdQ ys j) → K (.sl 2 false ys) [.cells [.sl 1 false xs, .int .i64 j]]))
  | _, _ => none
set_option maxRecDepth 100000 in
def qlist_T (iL : Int → ByteArray) (inLo : Int → Int) (inHi : Int → Int) (inD : Int → Int) (inE : Int → Int) : Prop :=
  ∀ (gl : Glob) (xs : List (List AV)) (i : Int), SrcQ xs i → (∃ x, LstP x ∧ ((0 : Nat) = (0 : Nat) ∧ (0 : Nat) = x.snd.snd.length ∧ (1 : Int) = x.fst ∧ True) ∧ ((True ∧ xs = xs) ∧ i
  = x.snd.fst ∧ True) ∧ [] = x.snd.snd ∧ True) ∧ ∀ (x : Int × Int × List (List AV)), LstP x → bif decide (x.fst ≤ (11 : Int)) then SrcQ xs x.snd.fst ∧ ∀ (v j : Int), NumQ (3 : Int) v
  j → bif decide (v = (0 : Int)) then (SrcQ xs j ∧ (1 : Int) ≤ x.fst ∧ x.fst ≤ (11 : Int)) ∧ ∀ (v j : Int), SomQ x.fst v j → bif decide (x.snd.snd.length = x.snd.snd.length ∧
  x.snd.snd.length + [[AV.int IntKind.i64 x.fst, AV.int IntKind.i64 v]].length ≤ (9223372036854775807 : Nat) ∧ (x.snd.snd.length + [[AV.int IntKind.i64 x.fst, AV.int IntKind.i64
  v]].length) * (16 : Nat) ≤ (140737488355328 : Nat)) then bif decide (rng IntKind.i64 (x.fst + (1 : Int))) then ∃ y, LstP y ∧ (lstI xs).m y < (lstI xs).m x ∧ ((0 : Nat) = (0 : Nat)
  ∧ (x.snd.snd ++ [[AV.int IntKind.i64 x.fst, AV.int IntKind.i64 v]]).length = y.snd.snd.length ∧ x.fst + (1 : Int) = y.fst ∧ True) ∧ ((True ∧ xs = xs) ∧ j = y.snd.fst ∧ True) ∧
  x.snd.snd ++ [[AV.int IntKind.i64 x.fst, AV.int IntKind.i64 v]] = y.snd.snd ∧ True else False else False else bif decide (rng IntKind.i64 (x.fst + (1 : Int))) then ∃ y, LstP y ∧
  (lstI xs).m y < (lstI xs).m x ∧ ((0 : Nat) = (0 : Nat) ∧ x.snd.snd.length = y.snd.snd.length ∧ x.fst + (1 : Int) = y.fst ∧ True) ∧ ((True ∧ xs = xs) ∧ j = y.snd.fst ∧ True) ∧
  x.snd.snd = y.snd.snd ∧ True else False else bif decide (x.snd.snd.length = x.snd.snd.length) then ∃ ys j, RdQ ys j ∧ (True ∧ x.snd.snd = ys) ∧ ((True ∧ xs = xs) ∧ x.snd.fst = j ∧
  True) ∧ True else False
set_option maxRecDepth 100000 in
theorem qlist_P : qlist_T iL inLo inHi inD inE := by
  unfold qlist_T
  intro gl xs i hs
  have s := hs.s
  refine ⟨⟨(1, i, []), ⟨⟨by simp, by simp⟩, hs.lo, rdV_nil _ (by simp)⟩, ⟨rfl, rfl, rfl, trivial⟩, ⟨⟨trivial, rfl⟩, rfl, trivial⟩, rfl, trivial⟩, ?_⟩
  rintro ⟨c, j, ys⟩ ⟨hc, hj, hr⟩
  simp only at hc hj hr
  have hl := hr.flen
  refine cs (fun h => ⟨⟨s, hj⟩, fun v j q1 => cs (fun _ => ⟨⟨⟨s, q1.fj⟩, hc.1, h⟩, fun v j q2 => ?_⟩) (fun _ => ?_)⟩) (fun h => ?_)
  · refine cd1 ⟨rfl, by simp; omega, by simp; omega⟩ (cdI (by simp only; omega) ⟨(c + 1, j, ys ++ [[.int .i64 c, .int .i64 v]]), ⟨by simp only at h ⊢; omega, q2.fj, rdV_add hr hc.1 q2.fv⟩, by simp only [lstI] at h ⊢; omega, ⟨rfl, rfl, rfl, trivial⟩, ⟨⟨trivial, rfl⟩, rfl, trivial⟩, rfl, trivial⟩)
  · exact cdI (by simp only; omega) ⟨(c + 1, j, ys), ⟨by simp only at h ⊢; omega, q1.fj, rdV_up hr⟩, by simp only [lstI] at h ⊢; omega, ⟨rfl, rfl, rfl, trivial⟩, ⟨⟨trivial, rfl⟩, rfl, trivial⟩, rfl, trivial⟩
  · have e : c = 12 := by simp only at h; omega
    subst e
    exact cd1 rfl ⟨_, _, ⟨hr, hj⟩, ⟨trivial, rfl⟩, sT⟩
def qlist_S (iL : Int → ByteArray) (inLo : Int → Int) (inHi : Int → Int) (inD : Int → Int) (inE : Int → Int) : Prop := ∀ (gl : Glob) (xs : List (List AV)) (i : Int), SrcQ xs i → fnQ Tryd.prog { glob := gl, spec := lk [], specH := lk [], specQ := lk [(13, qn_s), (49, (qsome_s iL inLo inHi inD inE))], nowf := true } { nt := 19, drop := drp [(3, 32), (4, 384), (5, 1536), (6, 258048), (7, 262144)], fr := 1000, kp := [0], emp := fun id => cond (Nat.beq id 2) [(3, 1500, 55, 2)] [] } (invs [(3, lstI xs)]) 6 Tryd.f37 [.ptr 0 0] [.cells [.sl 1 false xs, .int .i64 i]] (fun r2 bs2 => ∃ (ys : List (List AV)) (j : Int), (RdQ ys j) ∧ le r2 (.sl 2 false ys) ∧ leBs bs2 [.cells [.sl 1 false xs, .int .i64 j]])
set_option maxRecDepth 100000 in
theorem qlist_e (iL : Int → ByteArray) (inLo : Int → Int) (inHi : Int → Int) (inD : Int → Int) (inE : Int → Int) : qlist_T iL inLo inHi inD inE = qlist_S iL inLo inHi inD inE := by kernel_rfl
theorem qlist_v : qlist_S iL inLo inHi inD inE := @Eq.mp (qlist_T iL inLo inHi inD inE) (qlist_S iL inLo inHi inD inE) (qlist_e iL inLo inHi inD inE) qlist_P
theorem qlist_ok (gl : Glob) : QOK Tryd.prog gl 37 qlist_s := by
  refine ⟨fok Tryd.func37 (by kernel_rfl) (by kernel_rfl), ?_⟩
  intro xs bs T h K hT
  unfold qlist_s at h
  split at h
  · simp only [Option.some.injEq] at h
    subst h
    obtain ⟨hp, hK⟩ := hT
    obtain ⟨r, bs2, ⟨o0, o1, hq, hl, hb⟩, hC⟩ := fnQ_sound tyNil (by exact specOK rfl rfl trivial trivial (d := qsOf rfl ⟨qn_ok gl, qsome_ok gl, trivial⟩)) (by kernel_rfl) Tryd.func37 (qlist_v gl _ _ hp)
    exact ⟨_, _, hK o0 o1 hq, hC.le hl hb⟩
  · cases h
structure RepQ (k : Int) (nm : ByteArray) (t f a b c : Int) (ys : List (List AV)) (j : Int) : Prop where
  fk : 1 ≤ k ∧ k ≤ 3
  fn : nm ∈ nam6
  ft : 0 ≤ t ∧ t ≤ 52595999
  fl : k = 1 → f = 0 ∧ a = 0 ∧ b = 0 ∧ c = 0
  fp : ¬ k = 1 → Vld f a b c ∧ isN f a b c = true
  fr : RdV 12 ys
  fj : 0 ≤ j
def qreport_s : SpQ
  | [.ptr 0 0, .int .i64 near], [.cells [.sl 1 false xs, .int .i64 i]] => some (fun K => (SrcQ xs i ∧ 0 ≤ near ∧ near ≤ 52595999) ∧ (∀ (k : Int) (nm : ByteArray) (t f a b c : Int) (ys : List (List AV)) (j : Int), (RepQ k nm t f a b c ys j) → K (.agg [.int .i64 k, .str nm, .int .i64 t, .int .i64 f, .int .i64 a, .int .i64 b, .int .i64 c, .sl 2 false ys]) [.cells [.sl 1 false xs, .int .i64 j]]))
  | _, _ => none
set_option maxRecDepth 100000 in
def qreport_T : Prop :=
  ∀ (gl : Glob) (xs : List (List AV)) (i near : Int), SrcQ xs i ∧ (0 : Int) ≤ near ∧ near ≤ (52595999 : Int) → (SrcQ xs i ∧ (1 : Int) ≤ (3 : Int) ∧ (-1000000000 : Int) ≤ (1 : Int) ∧
  (3 : Int) ≤ (1000000000 : Int)) ∧ ∀ (v j : Int), ((1 : Int) ≤ v ∧ v ≤ (3 : Int)) ∧ (0 : Int) ≤ j → SrcQ xs j ∧ ∀ (s : ByteArray) (j : Int), NamQ s j → (SrcQ xs j ∧ (0 : Int) ≤ near
  ∧ near ≤ (52595999 : Int)) ∧ ∀ (m j : Int), MinQ m j → SrcQ xs j ∧ ∀ (ys : List (List AV)) (j : Int), RdQ ys j → bif decide ¬v = (1 : Int) then SrcQ xs j ∧ ∀ (f a b c j : Int),
  PlaQ f a b c j → ∃ k nm t f_1 a_2 b_1 c_1 ys_1 j_1, RepQ k nm t f_1 a_2 b_1 c_1 ys_1 j_1 ∧ (v = k ∧ s = nm ∧ m = t ∧ f = f_1 ∧ a = a_2 ∧ b = b_1 ∧ c = c_1 ∧ (True ∧ ys = ys_1) ∧
  True) ∧ ((True ∧ xs = xs) ∧ j = j_1 ∧ True) ∧ True else ∃ k nm t f a b c ys_1 j_1, RepQ k nm t f a b c ys_1 j_1 ∧ (v = k ∧ s = nm ∧ m = t ∧ (0 : Int) = f ∧ (0 : Int) = a ∧ (0 :
  Int) = b ∧ (0 : Int) = c ∧ (True ∧ ys = ys_1) ∧ True) ∧ ((True ∧ xs = xs) ∧ j = j_1 ∧ True) ∧ True
set_option maxRecDepth 100000 in
theorem qreport_P : qreport_T := by
  unfold qreport_T
  intro gl xs i near ⟨hs, h1, h2⟩
  have s := hs.s
  refine ⟨⟨hs, by decide, by decide, by decide⟩, fun v j q1 => ⟨⟨s, q1.2⟩, fun n j q2 => ⟨⟨⟨s, q2.fj⟩, h1, h2⟩, fun m j q3 => ⟨⟨s, q3.fj⟩, fun ys j q4 => cs (fun hk => ⟨⟨s, q4.fj⟩, fun f a b c j q5 => ?_⟩) (fun hk => ?_)⟩⟩⟩⟩
  · exact ⟨_, _, _, _, _, _, _, _, _, ⟨q1.1, q2.fs, q3.fm, fun e => absurd e hk, fun _ => ⟨q5.fv, q5.fn⟩, q4.fr, q5.fj⟩, ⟨rfl, rfl, rfl, rfl, rfl, rfl, rfl, ⟨trivial, rfl⟩, trivial⟩, sT⟩
  · exact ⟨_, _, _, _, _, _, _, _, _, ⟨q1.1, q2.fs, q3.fm, fun _ => ⟨rfl, rfl, rfl, rfl⟩, fun e => absurd e hk, q4.fr, q4.fj⟩, ⟨rfl, rfl, rfl, rfl, rfl, rfl, rfl, ⟨trivial, rfl⟩, trivial⟩, sT⟩
def qreport_S : Prop := ∀ (gl : Glob) (xs : List (List AV)) (i near : Int), SrcQ xs i ∧ 0 ≤ near ∧ near ≤ 52595999 → fnQ Tryd.prog { glob := gl, spec := lk [], specH := lk [], specQ := lk [(14, qrange_s), (35, qname_s), (36, qnear_s), (37, qlist_s), (24, qplace_s)], nowf := true } { nt := 23, drop := drp [(1, 65472), (2, 196608), (3, 3670016), (4, 4194304)], fr := 1000, kp := [0] } (fun _ _ => none) 6 Tryd.f15 [.ptr 0 0, .int .i64 near] [.cells [.sl 1 false xs, .int .i64 i]] (fun r2 bs2 => ∃ (k : Int) (nm : ByteArray) (t f a b c : Int) (ys : List (List AV)) (j : Int), (RepQ k nm t f a b c ys j) ∧ le r2 (.agg [.int .i64 k, .str nm, .int .i64 t, .int .i64 f, .int .i64 a, .int .i64 b, .int .i64 c, .sl 2 false ys]) ∧ leBs bs2 [.cells [.sl 1 false xs, .int .i64 j]])
set_option maxRecDepth 100000 in
theorem qreport_e : qreport_T = qreport_S := by kernel_rfl
theorem qreport_v : qreport_S := @Eq.mp (qreport_T) (qreport_S) (qreport_e) qreport_P
theorem qreport_ok (gl : Glob) : QOK Tryd.prog gl 15 qreport_s := by
  refine ⟨fok Tryd.func15 (by kernel_rfl) (by kernel_rfl), ?_⟩
  intro xs bs T h K hT
  unfold qreport_s at h
  split at h
  · simp only [Option.some.injEq] at h
    subst h
    obtain ⟨hp, hK⟩ := hT
    obtain ⟨r, bs2, ⟨o0, o1, o2, o3, o4, o5, o6, o7, o8, hq, hl, hb⟩, hC⟩ := fnQ_sound tyNil (by exact specOK rfl rfl trivial trivial (d := qsOf rfl ⟨qrange_ok gl, qname_ok gl, qnear_ok gl, qlist_ok gl, qplace_ok gl, trivial⟩)) (by kernel_rfl) Tryd.func15 (qreport_v gl _ _ _ hp)
    exact ⟨_, _, hK o0 o1 o2 o3 o4 o5 o6 o7 o8 hq, hC.le hl hb⟩
  · cases h
end Go.Proofs.YtceknalhogbbnaaDoor
