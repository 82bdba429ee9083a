/- The reader of numbers, by what it promises: some number in its range. -/
import Derived.Test.YthdfkiopppkfcaaDoorKv
namespace Go.Proofs.YthdfkiopppkfcaaDoor
open Go
set_option linter.unusedVariables false
set_option linter.unusedSimpArgs false

structure SrcQ (xs : List (List AV)) (i : Int) : Prop where
  s : SrcI xs
  lo : 0 ≤ i
structure RawQ (v j : Int) : Prop where
  fv : -9223372036854775808 ≤ v ∧ v ≤ 9223372036854775807
  fj : 0 ≤ j
structure NumQ (n v j : Int) : Prop where
  fv : 1 ≤ n → 0 ≤ v ∧ v < n
  fz : n < 1 → v = 0
  fj : 0 ≤ j
def qraw_s : SpQ
  | [.ptr 0 0], [.cells [.sl 1 false xs, .int .i64 i]] => some (fun K => SrcQ xs i ∧ ∀ v j : Int, RawQ v j → K (.int .i64 v) [.cells [.sl 1 false xs, .int .i64 j]])
  | _, _ => none
theorem rawV_rng {xs : List (List AV)} (h : IntsA xs) (i : Int) : rng .i64 (rawV xs i) := by
  unfold rawV
  split
  · show _ ∧ _; omega
  · rename_i hi
    rcases Nat.lt_or_ge i.toNat xs.length with hl | hl
    · rw [List.getD_eq_getElem?_getD, List.getElem?_eq_getElem hl]
      obtain ⟨n, e, hn⟩ := h _ (List.getElem_mem hl)
      simp only [Option.getD_some, e]
      exact hn
    · rw [List.getD_eq_getElem?_getD, List.getElem?_eq_none hl]
      show _ ∧ _
      simp only [Option.getD_none, cellI]
      omega
theorem qraw_ok (gl : Glob) : QOK Tryd.prog gl 33 qraw_s := by
  refine ⟨(raw_ok gl).1, fun xs bs T h K hT => ?_⟩
  unfold qraw_s at h
  split at h
  · simp only [Option.some.injEq] at h
    subst h
    obtain ⟨hp, hK⟩ := hT
    exact ⟨_, _, hK _ _ ⟨rawV_rng hp.s.ints _, rawA_le hp.lo⟩, (raw_ok gl).2 _ _ _ _ _ rfl ⟨hp.s, hp.lo⟩⟩
  · cases h
--KIND qraw Q (*synoptic/synoptickeep.Src).Raw
def qn_s : SpQ
  | [.ptr 0 0, .int .i64 n], [.cells [.sl 1 false xs, .int .i64 i]] => some (fun K => SrcQ xs i ∧ ∀ v j : Int, NumQ n v j → K (.int .i64 v) [.cells [.sl 1 false xs, .int .i64 j]])
  | _, _ => none
theorem qn_ok (gl : Glob) : QOK Tryd.prog gl 10 qn_s := by
  refine ⟨(srcn_ok gl).1, fun xs bs T h K hT => ?_⟩
  unfold qn_s at h
  split at h
  · simp only [Option.some.injEq] at h
    subst h
    obtain ⟨hp, hK⟩ := hT
    refine ⟨_, _, hK _ _ ⟨fun h => srcN_lt h, fun h => ?_, rawA_le hp.lo⟩, (srcn_ok gl).2 _ _ _ _ _ rfl ⟨hp.s, hp.lo⟩⟩
    unfold srcN modZ
    rw [if_pos h]
  · cases h
--KIND qn Q (*synoptic/synoptickeep.Src).N
def qrange_s : SpQ
  | [.ptr 0 0, .int .i64 lo, .int .i64 hi], [.cells [.sl 1 false xs, .int .i64 i]] => some (fun K => (SrcQ xs i ∧ lo ≤ hi ∧ -1000000000 ≤ lo ∧ hi ≤ 1000000000) ∧ (∀ (v j : Int), ((lo ≤ v ∧ v ≤ hi) ∧ 0 ≤ j) → K (.int .i64 v) [.cells [.sl 1 false xs, .int .i64 j]]))
  | _, _ => none
set_option maxRecDepth 100000 in
def qrange_T : Prop :=
  ∀ (gl : Glob) (xs : List (List AV)) (i lo hi : Int), SrcQ xs i ∧ lo ≤ hi ∧ (-1000000000 : Int) ≤ lo ∧ hi ≤ (1000000000 : Int) → bif decide (rng IntKind.i64 (hi - lo)) then bif
  decide (rng IntKind.i64 (hi - lo + (1 : Int))) then SrcQ xs i ∧ ∀ (v j : Int), NumQ (hi - lo + (1 : Int)) v j → bif decide (rng IntKind.i64 (lo + v)) then ∃ v_1 j_1, ((lo ≤ v_1 ∧
  v_1 ≤ hi) ∧ (0 : Int) ≤ j_1) ∧ lo + v = v_1 ∧ ((True ∧ xs = xs) ∧ j = j_1 ∧ True) ∧ True else False else False else False
set_option maxRecDepth 100000 in
theorem qrange_P : qrange_T := by
  unfold qrange_T
  intro gl xs i lo hi ⟨hs, h1, h2, h3⟩
  refine cdI (by omega) (cdI (by omega) ⟨hs, fun v j hq => ?_⟩)
  have hv := hq.fv (by omega)
  have hj := hq.fj
  exact cdI (by omega) ⟨_, _, ⟨by omega, hj⟩, rfl, ⟨⟨trivial, rfl⟩, rfl, trivial⟩, trivial⟩
def qrange_S : Prop := ∀ (gl : Glob) (xs : List (List AV)) (i lo hi : Int), SrcQ xs i ∧ lo ≤ hi ∧ -1000000000 ≤ lo ∧ hi ≤ 1000000000 → fnQ Tryd.prog { glob := gl, spec := lk [], specH := lk [], specQ := lk [(10, qn_s)], nowf := true } { nt := 15, drop := drp [(1, 32640)], fr := 1000, kp := [0] } (fun _ _ => none) 6 Tryd.f20 [.ptr 0 0, .int .i64 lo, .int .i64 hi] [.cells [.sl 1 false xs, .int .i64 i]] (fun r2 bs2 => ∃ (v j : Int), ((lo ≤ v ∧ v ≤ hi) ∧ 0 ≤ j) ∧ le r2 (.int .i64 v) ∧ leBs bs2 [.cells [.sl 1 false xs, .int .i64 j]])
set_option maxRecDepth 100000 in
theorem qrange_e : qrange_T = qrange_S := by kernel_rfl
theorem qrange_v : qrange_S := @Eq.mp (qrange_T) (qrange_S) (qrange_e) qrange_P
theorem qrange_ok (gl : Glob) : QOK Tryd.prog gl 20 qrange_s := by
  refine ⟨fok Tryd.func20 (by kernel_rfl) (by kernel_rfl), ?_⟩
  intro xs bs T h K hT
  unfold qrange_s at h
  split at h
  · simp only [Option.some.injEq] at h
    subst h
    obtain ⟨hp, hK⟩ := hT
    obtain ⟨r, bs2, ⟨o0, o1, hq, hl, hb⟩, hC⟩ := fnQ_sound tyNil (by exact specOK rfl rfl trivial trivial (d := qsOf rfl ⟨(qn_ok gl), trivial⟩)) (by kernel_rfl) Tryd.func20 (qrange_v gl _ _ _ _ hp)
    exact ⟨_, _, hK o0 o1 hq, hC.le hl hb⟩
  · cases h
structure IntsB (ys : List (List AV)) : Prop where
  fi : ∀ x ∈ ys, ∃ n : Int, x = [.int .i64 n] ∧ rng .i64 n
structure PickQ (ys : List (List AV)) (v : AV) (j : Int) : Prop where
  fm : [v] ∈ ys
  fj : 0 ≤ j
def qpick_s : SpQ
  | [.ptr 0 0, .rw 1 1 n], [.cells [.sl 1 false xs, .int .i64 i], .row 3 1 ys] => some (fun K => (SrcQ xs i ∧ (n = ys.length ∧ 1 ≤ n ∧ n ≤ 1000) ∧ IntsB ys) ∧ (∀ (v j : Int), (PickQ ys (.int .i64 v) j) → K (.int .i64 v) [.cells [.sl 1 false xs, .int .i64 j], .row 3 1 ys]))
  | _, _ => none
set_option maxRecDepth 100000 in
def qpick_T : Prop :=
  ∀ (gl : Glob) (xs ys : List (List AV)) (i : Int) (n : Nat), SrcQ xs i ∧ (n = ys.length ∧ (1 : Nat) ≤ n ∧ n ≤ (1000 : Nat)) ∧ IntsB ys → SrcQ xs i ∧ ∀ (v j : Int), NumQ (↑n : Int) v
  j → bif decide ((0 : Int) ≤ v ∧ v < (↑n : Int)) then bif decide (n = ys.length ∧ v.toNat < ys.length) then ∃ n, List.take [AV.int IntKind.i64 n].length (List.drop (0 : Nat)
  (ys.getD v.toNat [])) = [AV.int IntKind.i64 n] ∧ ∃ v j_1, PickQ ys (AV.int IntKind.i64 v) j_1 ∧ n = v ∧ ((True ∧ xs = xs) ∧ j = j_1 ∧ True) ∧ ys = ys ∧ True else False else False
set_option maxRecDepth 100000 in
theorem qpick_P : qpick_T := by
  unfold qpick_T
  intro gl xs ys i n ⟨hs, ⟨h1, h2, h3⟩, hi⟩
  refine ⟨hs, fun v j hq => ?_⟩
  have hv := hq.fv (by omega)
  have hj := hq.fj
  have hl : v.toNat < ys.length := by omega
  have hm : ys.getD v.toNat [] ∈ ys := by
    rw [List.getD_eq_getElem?_getD, List.getElem?_eq_getElem hl]; exact List.getElem_mem hl
  obtain ⟨z, hz, hr⟩ := hi.fi _ hm
  refine cd1 (by omega) (cd1 ⟨h1, hl⟩ ⟨z, by rw [hz]; rfl, z, j, ⟨by rw [← hz]; exact hm, hj⟩, rfl, ⟨⟨trivial, rfl⟩, rfl, trivial⟩, rfl, trivial⟩)
def qpick_S : Prop := ∀ (gl : Glob) (xs ys : List (List AV)) (i : Int) (n : Nat), SrcQ xs i ∧ (n = ys.length ∧ 1 ≤ n ∧ n ≤ 1000) ∧ IntsB ys → fnQ Tryd.prog { glob := gl, spec := lk [], specH := lk [], specQ := lk [(10, qn_s)], shape := [11], nowf := true } { nt := 12, drop := drp [(1, 4064)], fr := 1000, kp := [0, 1] } (fun _ _ => none) 6 Tryd.f30 [.ptr 0 0, .rw 1 1 n] [.cells [.sl 1 false xs, .int .i64 i], .row 3 1 ys] (fun r2 bs2 => ∃ (v j : Int), (PickQ ys (.int .i64 v) j) ∧ le r2 (.int .i64 v) ∧ leBs bs2 [.cells [.sl 1 false xs, .int .i64 j], .row 3 1 ys])
set_option maxRecDepth 100000 in
theorem qpick_e : qpick_T = qpick_S := by kernel_rfl
theorem qpick_v : qpick_S := @Eq.mp (qpick_T) (qpick_S) (qpick_e) qpick_P
theorem qpick_ok (gl : Glob) : QOK Tryd.prog gl 30 qpick_s := by
  refine ⟨fok Tryd.func30 (by kernel_rfl) (by kernel_rfl), ?_⟩
  intro xs bs T h K hT
  unfold qpick_s at h
  split at h
  · simp only [Option.some.injEq] at h
    subst h
    obtain ⟨hp, hK⟩ := hT
    obtain ⟨r, bs2, ⟨o0, o1, hq, hl, hb⟩, hC⟩ := fnQ_sound tyNil (by exact specOK rfl rfl trivial trivial (d := qsOf rfl ⟨(qn_ok gl), trivial⟩)) (by kernel_rfl) Tryd.func30 (qpick_v gl _ _ _ _ hp)
    exact ⟨_, _, hK o0 o1 hq, hC.le hl hb⟩
  · cases h
theorem pick_of (l : List Int) {v j : Int} (h : PickQ (irow l) (.int .i64 v) j) : v ∈ l := by
  have := h.fm
  unfold irow at this
  simp only [List.mem_map] at this
  obtain ⟨n, hn, e⟩ := this
  simp only [List.cons.injEq, AV.int.injEq, true_and, and_true] at e
  exact e ▸ hn
theorem ints_of (l : List Int) (h : ∀ n ∈ l, rng .i64 n) : IntsB (irow l) := by
  refine ⟨fun x hx => ?_⟩
  unfold irow at hx
  simp only [List.mem_map] at hx
  obtain ⟨n, hn, rfl⟩ := hx
  exact ⟨n, rfl, h n hn⟩
end Go.Proofs.YthdfkiopppkfcaaDoor
