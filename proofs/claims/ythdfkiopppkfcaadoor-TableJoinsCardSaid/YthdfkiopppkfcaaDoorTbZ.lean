/- Tables: Expand of the reference. -/
import Derived.Test.YthdfkiopppkfcaaDoorTbY
namespace Go.Proofs.YthdfkiopppkfcaaDoor
open Go
set_option linter.unusedVariables false
set_option linter.unusedSimpArgs false

theorem rexp_ok (gl : Glob) : ∀ m : Nat, QOK Tryd.prog gl 38 (rexp_s m alE alO alK)
  | 0 => by
    refine ⟨fok Tryd.func38 (by kernel_rfl) (by kernel_rfl), ?_⟩
    intro xs bs T h K hT
    unfold rexp_s at h
    split at h
    · simp only [Option.some.injEq] at h
      subst h
      have h5 := hT.1.1.1.1.1.f5
      have h6 := hT.1.1.1.1.1.fm
      exact absurd h6 (by simp only [Int.natCast_zero]; omega)
    · cases h
  | m + 1 => by
    refine ⟨fok Tryd.func38 (by kernel_rfl) (by kernel_rfl), ?_⟩
    intro xs bs T h K hT
    unfold rexp_s at h
    split at h
    · simp only [Option.some.injEq] at h
      subst h
      obtain ⟨hp, hK⟩ := hT
      rename_i v f es g ss h' cs d n k out
      obtain ⟨r, bs2, hF, hC⟩ := fnQ_sound tyNil (by exact specOK rfl rfl ⟨(tkind_ok gl), trivial⟩ trivial (d := qsOf rfl ⟨(rexp_ok gl m), trivial⟩)) (by kernel_rfl) Tryd.func38 (gexp_v m gl _ _ _ _ _ _ _ _ _ _ _ hp)
      by_cases hz : alE (m + 1) es ss cs d out k = 0
      · rw [decide_eq_true hz] at hF hK
        obtain ⟨hl, hb⟩ := hF
        exact ⟨_, _, hK, hC.le hl hb⟩
      · rw [decide_eq_false hz] at hF hK
        obtain ⟨kk, oo, hl, hb⟩ := hF
        exact ⟨_, _, hK kk oo, hC.le hl hb⟩
    · cases h
theorem em_nl2 : EnsP [] := ⟨fun i hi => by simp at hi, by simp⟩
theorem un_of {es ss : LLA} {v : Int} (h : vaE es ss v = 0) : UnP es ss := by
  unfold vaE at h
  split at h
  · cases h
  · split at h
    · cases h
    · rename_i h2
      split at h
      · cases h
      · split at h
        · cases h
        · split at h
          · cases h
          · rename_i h5
            have hn : (hds es ++ hds ss).Nodup := Decidable.not_not.1 fun q => h5 ((twB_iff es ss).2 q)
            refine ⟨hn, by omega, by omega, fun i hi => ?_⟩
            have h3 : ss.any lgP = false := by
              cases q : ss.any lgP with
              | false => rfl
              | true => exact absurd (.inr q) h2
            have := of_decide_eq_false (any_at h3 hi)
            omega
variable (m : Nat)
def rexpN_s (alE : Nat → LLA → LLA → LLA → Int → LLA → Int → Int) (alO : Nat → LLA → LLA → LLA → Int → LLA → Int → LLA) (alK : Nat → LLA → LLA → LLA → Int → LLA → Int → Int) : SpQ
  | [.agg [.int .i64 v, .sl 5 f es, .sl 2 g ss], .sl 1 h cs, .int .i64 d, .ptr 0 0, .nils], [.cells [.int .i64 k]] => some fun K => (((ExP (m + 1) es ss d [] k ∧ CdsP cs) ∧ UnP es ss) ∧ cs.length ≤ 20) ∧ cond (decide (alE (m + 1) es ss cs d [] k = 0)) (K (.tup [.rw 1 5 (alO (m + 1) es ss cs d [] k).length, .int .i64 0]) [.cells [.int .i64 (alK (m + 1) es ss cs d [] k)], .row 23 5 (alO (m + 1) es ss cs d [] k)]) (∀ kk : Int, K (.tup [.nils, .int .i64 (alE (m + 1) es ss cs d [] k)]) [.cells [.int .i64 kk]])
  | _, _ => none
--KIND rexp Q synoptic/synopticref08.expand
--KIND rexpN Q synoptic/synopticref08.expand
set_option maxRecDepth 100000 in
def gexpN_T (m : Nat) (alE : Nat → LLA → LLA → LLA → Int → LLA → Int → Int) (alO : Nat → LLA → LLA → LLA → Int → LLA → Int → LLA) (alK : Nat → LLA → LLA → LLA → Int → LLA → Int → Int) (knd : Int → Int) : Prop :=
  ∀ (gl : Glob) (es ss cs : List (List AV)) (v d k : Int) (f g h : Bool), ((ExP ((↑m : Int) + (1 : Int)) es ss d [] k ∧ CdsP cs) ∧ UnP es ss) ∧ cs.length ≤ (20 : Nat) → (∃ x, EpP
  (fun cs out k => fiR (alR es ss m) es ss cs d out k) ((↑m : Int) + (1 : Int)) es ss cs d (alR es ss (m + (1 : Nat)) cs d [] k) x ∧ ((True ∧ cs = cs) ∧ d = d ∧ (0 : Nat) = (0 : Nat)
  ∧ (0 : Nat) = List.length x.snd.fst ∧ (0 : Nat) = (0 : Nat) ∧ True ∧ (0 : Int) = (0 : Int) ∧ (0 : Int) = x.fst ∧ True) ∧ (k = x.snd.snd ∧ True) ∧ [] = x.snd.fst ∧ (v = v ∧ ((bif f
  then f = true else True) ∧ es = es) ∧ ((bif g then g = true else True) ∧ ss = ss) ∧ True) ∧ True) ∧ ∀ (x : Int × LLA × Int), EpP (fun cs out k => fiR (alR es ss m) es ss cs d out
  k) ((↑m : Int) + (1 : Int)) es ss cs d (alR es ss (m + (1 : Nat)) cs d [] k) x → bif decide (x.fst < (↑cs.length : Int)) then bif decide ((0 : Int) ≤ x.fst ∧ x.fst < (↑cs.length :
  Int)) then ∃ n, List.take [AV.int IntKind.i64 n].length (cs.getD x.fst.toNat []) = [AV.int IntKind.i64 n] ∧ bif decide (rng IntKind.i64 (x.snd.snd + (1 : Int))) then bif decide
  ((500 : Int) < x.snd.snd + (1 : Int)) then bif decide (alE (m + (1 : Nat)) es ss cs d [] k = (0 : Int)) then (False ∧ (2 : Int) = (0 : Int) ∧ True) ∧ (x.snd.snd + (1 : Int) = alK
  (m + (1 : Nat)) es ss cs d [] k ∧ True) ∧ False else ∃ kk, (True ∧ (2 : Int) = alE (m + (1 : Nat)) es ss cs d [] k ∧ True) ∧ (x.snd.snd + (1 : Int) = kk ∧ True) ∧ True else True ∧
  bif decide (knd n = (0 : Int)) then bif decide (alE (m + (1 : Nat)) es ss cs d [] k = (0 : Int)) then (False ∧ (1 : Int) = (0 : Int) ∧ True) ∧ (x.snd.snd + (1 : Int) = alK (m + (1
  : Nat)) es ss cs d [] k ∧ True) ∧ False else ∃ kk, (True ∧ (1 : Int) = alE (m + (1 : Nat)) es ss cs d [] k ∧ True) ∧ (x.snd.snd + (1 : Int) = kk ∧ True) ∧ True else bif decide (knd
  n = (1 : Int)) then (∃ x_1, EqP es x.snd.fst n x_1 ∧ ((True ∧ cs = cs) ∧ d = d ∧ (0 : Nat) = (0 : Nat) ∧ List.length x.snd.fst = List.length x_1.snd.fst ∧ (0 : Nat) = (0 : Nat) ∧
  True ∧ (0 : Int) = (0 : Int) ∧ x.fst = x.fst ∧ n = n ∧ false = x_1.snd.snd ∧ (True ∧ es = es) ∧ (↑es.length : Int) = (↑es.length : Int) ∧ (0 : Int) = x_1.fst ∧ True) ∧ (x.snd.snd +
  (1 : Int) = x.snd.snd + (1 : Int) ∧ True) ∧ x.snd.fst = x_1.snd.fst ∧ (v = v ∧ ((bif f then f = true else True) ∧ es = es) ∧ ((bif g then g = true else True) ∧ ss = ss) ∧ True) ∧
  True) ∧ ∀ (x_1 : Int × LLA × Bool), EqP es x.snd.fst n x_1 → bif decide (x_1.fst < (↑es.length : Int)) then bif decide ((0 : Int) ≤ x_1.fst ∧ x_1.fst < (↑es.length : Int)) then ∃
  n_1 n_2 n_3 n_4 n_5, List.take [AV.int IntKind.i64 n_1, AV.int IntKind.i64 n_2, AV.int IntKind.i64 n_3, AV.int IntKind.i64 n_4, AV.int IntKind.i64 n_5].length (es.getD
  x_1.fst.toNat []) = [AV.int IntKind.i64 n_1, AV.int IntKind.i64 n_2, AV.int IntKind.i64 n_3, AV.int IntKind.i64 n_4, AV.int IntKind.i64 n_5] ∧ bif decide (n_1 = n) then bif decide
  (List.length x_1.snd.fst = List.length x_1.snd.fst ∧ List.length x_1.snd.fst + [[AV.int IntKind.i64 n_1, AV.int IntKind.i64 n_2, AV.int IntKind.i64 n_3, AV.int IntKind.i64 n_4,
  AV.int IntKind.i64 n_5]].length ≤ (9223372036854775807 : Nat) ∧ (List.length x_1.snd.fst + [[AV.int IntKind.i64 n_1, AV.int IntKind.i64 n_2, AV.int IntKind.i64 n_3, AV.int
  IntKind.i64 n_4, AV.int IntKind.i64 n_5]].length) * (40 : Nat) ≤ (140737488355328 : Nat)) then bif decide (rng IntKind.i64 (x_1.fst + (1 : Int))) then ∃ y, EqP es x.snd.fst n y ∧
  (ep25 es ss cs x.snd.fst v d x.fst n (x.snd.snd + (1 : Int)) f g h (1500 : Nat)).m y < (ep25 es ss cs x.snd.fst v d x.fst n (x.snd.snd + (1 : Int)) f g h (1500 : Nat)).m x_1 ∧
  ((True ∧ cs = cs) ∧ d = d ∧ (0 : Nat) = (0 : Nat) ∧ (x_1.snd.fst ++ [[AV.int IntKind.i64 n_1, AV.int IntKind.i64 n_2, AV.int IntKind.i64 n_3, AV.int IntKind.i64 n_4, AV.int
  IntKind.i64 n_5]]).length = List.length y.snd.fst ∧ (0 : Nat) = (0 : Nat) ∧ True ∧ (0 : Int) = (0 : Int) ∧ x.fst = x.fst ∧ n = n ∧ true = y.snd.snd ∧ (True ∧ es = es) ∧ (↑es.length
  : Int) = (↑es.length : Int) ∧ x_1.fst + (1 : Int) = y.fst ∧ True) ∧ (x.snd.snd + (1 : Int) = x.snd.snd + (1 : Int) ∧ True) ∧ x_1.snd.fst ++ [[AV.int IntKind.i64 n_1, AV.int
  IntKind.i64 n_2, AV.int IntKind.i64 n_3, AV.int IntKind.i64 n_4, AV.int IntKind.i64 n_5]] = y.snd.fst ∧ (v = v ∧ ((bif f then f = true else True) ∧ es = es) ∧ ((bif g then g = true
  else True) ∧ ss = ss) ∧ True) ∧ True else False else False else bif decide (rng IntKind.i64 (x_1.fst + (1 : Int))) then ∃ y, EqP es x.snd.fst n y ∧ (ep25 es ss cs x.snd.fst v d
  x.fst n (x.snd.snd + (1 : Int)) f g h (1500 : Nat)).m y < (ep25 es ss cs x.snd.fst v d x.fst n (x.snd.snd + (1 : Int)) f g h (1500 : Nat)).m x_1 ∧ ((True ∧ cs = cs) ∧ d = d ∧ (0 :
  Nat) = (0 : Nat) ∧ List.length x_1.snd.fst = List.length y.snd.fst ∧ (0 : Nat) = (0 : Nat) ∧ True ∧ (0 : Int) = (0 : Int) ∧ x.fst = x.fst ∧ n = n ∧ x_1.snd.snd = y.snd.snd ∧ (True
  ∧ es = es) ∧ (↑es.length : Int) = (↑es.length : Int) ∧ x_1.fst + (1 : Int) = y.fst ∧ True) ∧ (x.snd.snd + (1 : Int) = x.snd.snd + (1 : Int) ∧ True) ∧ x_1.snd.fst = y.snd.fst ∧ (v =
  v ∧ ((bif f then f = true else True) ∧ es = es) ∧ ((bif g then g = true else True) ∧ ss = ss) ∧ True) ∧ True else False else False else bif !x_1.snd.snd then bif decide (alE (m +
  (1 : Nat)) es ss cs d [] k = (0 : Int)) then (False ∧ (6 : Int) = (0 : Int) ∧ True) ∧ (x.snd.snd + (1 : Int) = alK (m + (1 : Nat)) es ss cs d [] k ∧ True) ∧ False else ∃ kk, (True
  ∧ (6 : Int) = alE (m + (1 : Nat)) es ss cs d [] k ∧ True) ∧ (x.snd.snd + (1 : Int) = kk ∧ True) ∧ True else bif decide ((60 : Int) < (↑(List.length x_1.snd.fst) : Int)) then bif
  decide (alE (m + (1 : Nat)) es ss cs d [] k = (0 : Int)) then (False ∧ (2 : Int) = (0 : Int) ∧ True) ∧ (x.snd.snd + (1 : Int) = alK (m + (1 : Nat)) es ss cs d [] k ∧ True) ∧ False
  else ∃ kk, (True ∧ (2 : Int) = alE (m + (1 : Nat)) es ss cs d [] k ∧ True) ∧ (x.snd.snd + (1 : Int) = kk ∧ True) ∧ True else bif decide (rng IntKind.i64 (x.fst + (1 : Int))) then ∃
  y, EpP (fun cs out k => fiR (alR es ss m) es ss cs d out k) ((↑m : Int) + (1 : Int)) es ss cs d (alR es ss (m + (1 : Nat)) cs d [] k) y ∧ (ep2 m es ss cs v d f g h (1500 : Nat)
  (alR es ss (m + (1 : Nat)) cs d [] k)).m y < (ep2 m es ss cs v d f g h (1500 : Nat) (alR es ss (m + (1 : Nat)) cs d [] k)).m x ∧ ((True ∧ cs = cs) ∧ d = d ∧ (0 : Nat) = (0 : Nat) ∧
  List.length x_1.snd.fst = List.length y.snd.fst ∧ (0 : Nat) = (0 : Nat) ∧ True ∧ (0 : Int) = (0 : Int) ∧ x.fst + (1 : Int) = y.fst ∧ True) ∧ (x.snd.snd + (1 : Int) = y.snd.snd ∧
  True) ∧ x_1.snd.fst = y.snd.fst ∧ (v = v ∧ ((bif f then f = true else True) ∧ es = es) ∧ ((bif g then g = true else True) ∧ ss = ss) ∧ True) ∧ True else False else bif decide (knd
  n = (2 : Int)) then (∃ x_1, ErP (alR es ss m) (↑m : Int) es ss x.snd.fst n d (x.snd.snd + (1 : Int)) x_1 ∧ ((True ∧ cs = cs) ∧ d = d ∧ (0 : Nat) = (0 : Nat) ∧ List.length x.snd.fst
  = List.length x_1.snd.fst ∧ (0 : Nat) = (0 : Nat) ∧ True ∧ (0 : Int) = (0 : Int) ∧ x.fst = x.fst ∧ n = n ∧ false = x_1.snd.snd.snd ∧ (True ∧ ss = ss) ∧ (↑ss.length : Int) =
  (↑ss.length : Int) ∧ (0 : Int) = x_1.fst ∧ True) ∧ (x.snd.snd + (1 : Int) = x_1.snd.snd.fst ∧ True) ∧ x.snd.fst = x_1.snd.fst ∧ (v = v ∧ ((bif f then f = true else True) ∧ es = es)
  ∧ ((bif g then g = true else True) ∧ ss = ss) ∧ True) ∧ True) ∧ ∀ (x_1 : Int × LLA × Int × Bool), ErP (alR es ss m) (↑m : Int) es ss x.snd.fst n d (x.snd.snd + (1 : Int)) x_1 → bif
  decide (x_1.fst < (↑ss.length : Int)) then bif decide ((0 : Int) ≤ x_1.fst ∧ x_1.fst < (↑ss.length : Int)) then ∃ n_1 xs, List.take [AV.int IntKind.i64 n_1, AV.sl (1 : Nat) false
  xs].length (ss.getD x_1.fst.toNat []) = [AV.int IntKind.i64 n_1, AV.sl (1 : Nat) false xs] ∧ bif decide ¬n_1 = n then bif decide (rng IntKind.i64 (x_1.fst + (1 : Int))) then ∃ y,
  ErP (alR es ss m) (↑m : Int) es ss x.snd.fst n d (x.snd.snd + (1 : Int)) y ∧ (ep37 m es ss cs x.snd.fst v d x.fst n (x.snd.snd + (1 : Int)) f g h (1500 : Nat)).m y < (ep37 m es ss
  cs x.snd.fst v d x.fst n (x.snd.snd + (1 : Int)) f g h (1500 : Nat)).m x_1 ∧ ((True ∧ cs = cs) ∧ d = d ∧ (0 : Nat) = (0 : Nat) ∧ List.length x_1.snd.fst = List.length y.snd.fst ∧
  (0 : Nat) = (0 : Nat) ∧ True ∧ (0 : Int) = (0 : Int) ∧ x.fst = x.fst ∧ n = n ∧ x_1.snd.snd.snd = y.snd.snd.snd ∧ (True ∧ ss = ss) ∧ (↑ss.length : Int) = (↑ss.length : Int) ∧
  x_1.fst + (1 : Int) = y.fst ∧ True) ∧ (x_1.snd.snd.fst = y.snd.snd.fst ∧ True) ∧ x_1.snd.fst = y.snd.fst ∧ (v = v ∧ ((bif f then f = true else True) ∧ es = es) ∧ ((bif g then g =
  true else True) ∧ ss = ss) ∧ True) ∧ True else False else bif decide ((20 : Int) < d) then bif decide (alE (m + (1 : Nat)) es ss cs d [] k = (0 : Int)) then (False ∧ (2 : Int) = (0
  : Int) ∧ True) ∧ (x_1.snd.snd.fst = alK (m + (1 : Nat)) es ss cs d [] k ∧ True) ∧ False else ∃ kk, (True ∧ (2 : Int) = alE (m + (1 : Nat)) es ss cs d [] k ∧ True) ∧
  (x_1.snd.snd.fst = kk ∧ True) ∧ True else bif decide (rng IntKind.i64 (d + (1 : Int))) then ((((ExP (↑m : Int) es ss (d + (1 : Int)) x_1.snd.fst x_1.snd.snd.fst ∧ CdsP xs) ∧ UnP es
  ss) ∧ xs.length ≤ (20 : Nat)) ∧ List.length x_1.snd.fst = List.length x_1.snd.fst) ∧ bif decide (alE m es ss xs (d + (1 : Int)) x_1.snd.fst x_1.snd.snd.fst = (0 : Int)) then bif
  decide (rng IntKind.i64 (x_1.fst + (1 : Int))) then ∃ y, ErP (alR es ss m) (↑m : Int) es ss x.snd.fst n d (x.snd.snd + (1 : Int)) y ∧ (ep37 m es ss cs x.snd.fst v d x.fst n
  (x.snd.snd + (1 : Int)) f g h (1500 : Nat)).m y < (ep37 m es ss cs x.snd.fst v d x.fst n (x.snd.snd + (1 : Int)) f g h (1500 : Nat)).m x_1 ∧ ((True ∧ cs = cs) ∧ d = d ∧ (0 : Nat) =
  (0 : Nat) ∧ List.length (alO m es ss xs (d + (1 : Int)) x_1.snd.fst x_1.snd.snd.fst) = List.length y.snd.fst ∧ (0 : Nat) = (0 : Nat) ∧ True ∧ (0 : Int) = (0 : Int) ∧ x.fst = x.fst
  ∧ n = n ∧ true = y.snd.snd.snd ∧ (True ∧ ss = ss) ∧ (↑ss.length : Int) = (↑ss.length : Int) ∧ x_1.fst + (1 : Int) = y.fst ∧ True) ∧ (alK m es ss xs (d + (1 : Int)) x_1.snd.fst
  x_1.snd.snd.fst = y.snd.snd.fst ∧ True) ∧ alO m es ss xs (d + (1 : Int)) x_1.snd.fst x_1.snd.snd.fst = y.snd.fst ∧ (v = v ∧ ((bif f then f = true else True) ∧ es = es) ∧ ((bif g
  then g = true else True) ∧ ss = ss) ∧ True) ∧ True else False else ∀ (kk : Int) (oo : LLA), bif decide ¬alE m es ss xs (d + (1 : Int)) x_1.snd.fst x_1.snd.snd.fst = (0 : Int) then
  bif decide (alE (m + (1 : Nat)) es ss cs d [] k = (0 : Int)) then (False ∧ alE m es ss xs (d + (1 : Int)) x_1.snd.fst x_1.snd.snd.fst = (0 : Int) ∧ True) ∧ (kk = alK (m + (1 :
  Nat)) es ss cs d [] k ∧ True) ∧ False else ∃ kk_1, (True ∧ alE m es ss xs (d + (1 : Int)) x_1.snd.fst x_1.snd.snd.fst = alE (m + (1 : Nat)) es ss cs d [] k ∧ True) ∧ (kk = kk_1 ∧
  True) ∧ True else bif decide (rng IntKind.i64 (x_1.fst + (1 : Int))) then ∃ y, ErP (alR es ss m) (↑m : Int) es ss x.snd.fst n d (x.snd.snd + (1 : Int)) y ∧ (ep37 m es ss cs
  x.snd.fst v d x.fst n (x.snd.snd + (1 : Int)) f g h (1500 : Nat)).m y < (ep37 m es ss cs x.snd.fst v d x.fst n (x.snd.snd + (1 : Int)) f g h (1500 : Nat)).m x_1 ∧ ((True ∧ cs = cs)
  ∧ d = d ∧ (0 : Nat) = (0 : Nat) ∧ False ∧ (0 : Nat) = (0 : Nat) ∧ True ∧ (0 : Int) = (0 : Int) ∧ x.fst = x.fst ∧ n = n ∧ true = y.snd.snd.snd ∧ (True ∧ ss = ss) ∧ (↑ss.length :
  Int) = (↑ss.length : Int) ∧ x_1.fst + (1 : Int) = y.fst ∧ True) ∧ (kk = y.snd.snd.fst ∧ True) ∧ oo = y.snd.fst ∧ (v = v ∧ ((bif f then f = true else True) ∧ es = es) ∧ ((bif g then
  g = true else True) ∧ ss = ss) ∧ True) ∧ True else False else False else False else bif !x_1.snd.snd.snd then bif decide (alE (m + (1 : Nat)) es ss cs d [] k = (0 : Int)) then
  (False ∧ (6 : Int) = (0 : Int) ∧ True) ∧ (x_1.snd.snd.fst = alK (m + (1 : Nat)) es ss cs d [] k ∧ True) ∧ False else ∃ kk, (True ∧ (6 : Int) = alE (m + (1 : Nat)) es ss cs d [] k ∧
  True) ∧ (x_1.snd.snd.fst = kk ∧ True) ∧ True else bif decide (rng IntKind.i64 (x.fst + (1 : Int))) then ∃ y, EpP (fun cs out k => fiR (alR es ss m) es ss cs d out k) ((↑m : Int) +
  (1 : Int)) es ss cs d (alR es ss (m + (1 : Nat)) cs d [] k) y ∧ (ep2 m es ss cs v d f g h (1500 : Nat) (alR es ss (m + (1 : Nat)) cs d [] k)).m y < (ep2 m es ss cs v d f g h (1500
  : Nat) (alR es ss (m + (1 : Nat)) cs d [] k)).m x ∧ ((True ∧ cs = cs) ∧ d = d ∧ (0 : Nat) = (0 : Nat) ∧ List.length x_1.snd.fst = List.length y.snd.fst ∧ (0 : Nat) = (0 : Nat) ∧
  True ∧ (0 : Int) = (0 : Int) ∧ x.fst + (1 : Int) = y.fst ∧ True) ∧ (x_1.snd.snd.fst = y.snd.snd ∧ True) ∧ x_1.snd.fst = y.snd.fst ∧ (v = v ∧ ((bif f then f = true else True) ∧ es =
  es) ∧ ((bif g then g = true else True) ∧ ss = ss) ∧ True) ∧ True else False else bif decide (rng IntKind.i64 (n - (20000 : Int))) then bif decide (rng IntKind.i64 ((n - (20000 :
  Int)).tdiv (100 : Int))) then bif decide (rng IntKind.i64 (n - (20000 : Int))) then bif decide (rng IntKind.i64 (x.fst + (n - (20000 : Int)).tdiv (100 : Int))) then bif decide
  ((↑cs.length : Int) ≤ x.fst + (n - (20000 : Int)).tdiv (100 : Int)) then bif decide (alE (m + (1 : Nat)) es ss cs d [] k = (0 : Int)) then (False ∧ (11 : Int) = (0 : Int) ∧ True) ∧
  (x.snd.snd + (1 : Int) = alK (m + (1 : Nat)) es ss cs d [] k ∧ True) ∧ False else ∃ kk, (True ∧ (11 : Int) = alE (m + (1 : Nat)) es ss cs d [] k ∧ True) ∧ (x.snd.snd + (1 : Int) =
  kk ∧ True) ∧ True else (∃ x_1, EtP (alR es ss m) (↑m : Int) es ss (List.take ((n - (20000 : Int)).tdiv (100 : Int)).toNat (List.drop (x.fst + (1 : Int)).toNat cs)) d ((n - (20000 :
  Int)).tmod (100 : Int)) (rpR (alR es ss m) (List.take ((n - (20000 : Int)).tdiv (100 : Int)).toNat (List.drop (x.fst + (1 : Int)).toNat cs)) d ((n - (20000 : Int)).tmod (100 :
  Int)).toNat x.snd.fst (x.snd.snd + (1 : Int))) x_1 ∧ ((True ∧ cs = cs) ∧ d = d ∧ (0 : Nat) = (0 : Nat) ∧ List.length x.snd.fst = List.length x_1.snd.fst ∧ (0 : Nat) = (0 : Nat) ∧
  True ∧ (0 : Int) = (0 : Int) ∧ x.fst = x.fst ∧ (n - (20000 : Int)).tdiv (100 : Int) = (n - (20000 : Int)).tdiv (100 : Int) ∧ (n - (20000 : Int)).tmod (100 : Int) = (n - (20000 :
  Int)).tmod (100 : Int) ∧ (0 : Int) = x_1.fst ∧ True) ∧ (x.snd.snd + (1 : Int) = x_1.snd.snd ∧ True) ∧ x.snd.fst = x_1.snd.fst ∧ (v = v ∧ ((bif f then f = true else True) ∧ es = es)
  ∧ ((bif g then g = true else True) ∧ ss = ss) ∧ True) ∧ True) ∧ ∀ (x_1 : Int × LLA × Int), EtP (alR es ss m) (↑m : Int) es ss (List.take ((n - (20000 : Int)).tdiv (100 :
  Int)).toNat (List.drop (x.fst + (1 : Int)).toNat cs)) d ((n - (20000 : Int)).tmod (100 : Int)) (rpR (alR es ss m) (List.take ((n - (20000 : Int)).tdiv (100 : Int)).toNat (List.drop
  (x.fst + (1 : Int)).toNat cs)) d ((n - (20000 : Int)).tmod (100 : Int)).toNat x.snd.fst (x.snd.snd + (1 : Int))) x_1 → bif decide (x_1.fst < (n - (20000 : Int)).tmod (100 : Int))
  then bif decide (rng IntKind.i64 (x.fst + (1 : Int))) then bif decide (rng IntKind.i64 (x.fst + (1 : Int))) then bif decide (rng IntKind.i64 (x.fst + (1 : Int) + (n - (20000 :
  Int)).tdiv (100 : Int))) then bif decide ((0 : Int) ≤ x.fst + (1 : Int) + (n - (20000 : Int)).tdiv (100 : Int) ∧ x.fst + (1 : Int) + (n - (20000 : Int)).tdiv (100 : Int) ≤
  (↑cs.length : Int)) then bif decide ((0 : Int) ≤ x.fst + (1 : Int) ∧ x.fst + (1 : Int) ≤ x.fst + (1 : Int) + (n - (20000 : Int)).tdiv (100 : Int)) then ((((ExP (↑m : Int) es ss d
  x_1.snd.fst x_1.snd.snd ∧ CdsP (List.drop (x.fst + (1 : Int)).toNat (List.take (x.fst + (1 : Int) + (n - (20000 : Int)).tdiv (100 : Int)).toNat cs))) ∧ UnP es ss) ∧ (List.drop
  (x.fst + (1 : Int)).toNat (List.take (x.fst + (1 : Int) + (n - (20000 : Int)).tdiv (100 : Int)).toNat cs)).length ≤ (20 : Nat)) ∧ List.length x_1.snd.fst = List.length x_1.snd.fst)
  ∧ bif decide (alE m es ss (List.drop (x.fst + (1 : Int)).toNat (List.take (x.fst + (1 : Int) + (n - (20000 : Int)).tdiv (100 : Int)).toNat cs)) d x_1.snd.fst x_1.snd.snd = (0 :
  Int)) then bif decide (rng IntKind.i64 (x_1.fst + (1 : Int))) then ∃ y, EtP (alR es ss m) (↑m : Int) es ss (List.take ((n - (20000 : Int)).tdiv (100 : Int)).toNat (List.drop (x.fst
  + (1 : Int)).toNat cs)) d ((n - (20000 : Int)).tmod (100 : Int)) (rpR (alR es ss m) (List.take ((n - (20000 : Int)).tdiv (100 : Int)).toNat (List.drop (x.fst + (1 : Int)).toNat
  cs)) d ((n - (20000 : Int)).tmod (100 : Int)).toNat x.snd.fst (x.snd.snd + (1 : Int))) y ∧ (ep13 m es ss cs x.snd.fst v d x.fst ((n - (20000 : Int)).tdiv (100 : Int)) ((n - (20000
  : Int)).tmod (100 : Int)) (x.snd.snd + (1 : Int)) f g h (1500 : Nat)).m y < (ep13 m es ss cs x.snd.fst v d x.fst ((n - (20000 : Int)).tdiv (100 : Int)) ((n - (20000 : Int)).tmod
  (100 : Int)) (x.snd.snd + (1 : Int)) f g h (1500 : Nat)).m x_1 ∧ ((True ∧ cs = cs) ∧ d = d ∧ (0 : Nat) = (0 : Nat) ∧ List.length (alO m es ss (List.drop (x.fst + (1 : Int)).toNat
  (List.take (x.fst + (1 : Int) + (n - (20000 : Int)).tdiv (100 : Int)).toNat cs)) d x_1.snd.fst x_1.snd.snd) = List.length y.snd.fst ∧ (0 : Nat) = (0 : Nat) ∧ True ∧ (0 : Int) = (0
  : Int) ∧ x.fst = x.fst ∧ (n - (20000 : Int)).tdiv (100 : Int) = (n - (20000 : Int)).tdiv (100 : Int) ∧ (n - (20000 : Int)).tmod (100 : Int) = (n - (20000 : Int)).tmod (100 : Int) ∧
  x_1.fst + (1 : Int) = y.fst ∧ True) ∧ (alK m es ss (List.drop (x.fst + (1 : Int)).toNat (List.take (x.fst + (1 : Int) + (n - (20000 : Int)).tdiv (100 : Int)).toNat cs)) d
  x_1.snd.fst x_1.snd.snd = y.snd.snd ∧ True) ∧ alO m es ss (List.drop (x.fst + (1 : Int)).toNat (List.take (x.fst + (1 : Int) + (n - (20000 : Int)).tdiv (100 : Int)).toNat cs)) d
  x_1.snd.fst x_1.snd.snd = y.snd.fst ∧ (v = v ∧ ((bif f then f = true else True) ∧ es = es) ∧ ((bif g then g = true else True) ∧ ss = ss) ∧ True) ∧ True else False else ∀ (kk : Int)
  (oo : LLA), bif decide ¬alE m es ss (List.drop (x.fst + (1 : Int)).toNat (List.take (x.fst + (1 : Int) + (n - (20000 : Int)).tdiv (100 : Int)).toNat cs)) d x_1.snd.fst x_1.snd.snd
  = (0 : Int) then bif decide (alE (m + (1 : Nat)) es ss cs d [] k = (0 : Int)) then (False ∧ alE m es ss (List.drop (x.fst + (1 : Int)).toNat (List.take (x.fst + (1 : Int) + (n -
  (20000 : Int)).tdiv (100 : Int)).toNat cs)) d x_1.snd.fst x_1.snd.snd = (0 : Int) ∧ True) ∧ (kk = alK (m + (1 : Nat)) es ss cs d [] k ∧ True) ∧ False else ∃ kk_1, (True ∧ alE m es
  ss (List.drop (x.fst + (1 : Int)).toNat (List.take (x.fst + (1 : Int) + (n - (20000 : Int)).tdiv (100 : Int)).toNat cs)) d x_1.snd.fst x_1.snd.snd = alE (m + (1 : Nat)) es ss cs d
  [] k ∧ True) ∧ (kk = kk_1 ∧ True) ∧ True else bif decide (rng IntKind.i64 (x_1.fst + (1 : Int))) then ∃ y, EtP (alR es ss m) (↑m : Int) es ss (List.take ((n - (20000 : Int)).tdiv
  (100 : Int)).toNat (List.drop (x.fst + (1 : Int)).toNat cs)) d ((n - (20000 : Int)).tmod (100 : Int)) (rpR (alR es ss m) (List.take ((n - (20000 : Int)).tdiv (100 : Int)).toNat
  (List.drop (x.fst + (1 : Int)).toNat cs)) d ((n - (20000 : Int)).tmod (100 : Int)).toNat x.snd.fst (x.snd.snd + (1 : Int))) y ∧ (ep13 m es ss cs x.snd.fst v d x.fst ((n - (20000 :
  Int)).tdiv (100 : Int)) ((n - (20000 : Int)).tmod (100 : Int)) (x.snd.snd + (1 : Int)) f g h (1500 : Nat)).m y < (ep13 m es ss cs x.snd.fst v d x.fst ((n - (20000 : Int)).tdiv (100
  : Int)) ((n - (20000 : Int)).tmod (100 : Int)) (x.snd.snd + (1 : Int)) f g h (1500 : Nat)).m x_1 ∧ ((True ∧ cs = cs) ∧ d = d ∧ (0 : Nat) = (0 : Nat) ∧ False ∧ (0 : Nat) = (0 : Nat)
  ∧ True ∧ (0 : Int) = (0 : Int) ∧ x.fst = x.fst ∧ (n - (20000 : Int)).tdiv (100 : Int) = (n - (20000 : Int)).tdiv (100 : Int) ∧ (n - (20000 : Int)).tmod (100 : Int) = (n - (20000 :
  Int)).tmod (100 : Int) ∧ x_1.fst + (1 : Int) = y.fst ∧ True) ∧ (kk = y.snd.snd ∧ True) ∧ oo = y.snd.fst ∧ (v = v ∧ ((bif f then f = true else True) ∧ es = es) ∧ ((bif g then g =
  true else True) ∧ ss = ss) ∧ True) ∧ True else False else False else False else False else False else False else bif decide (rng IntKind.i64 (x.fst + (n - (20000 : Int)).tdiv (100
  : Int))) then bif decide (rng IntKind.i64 (x.fst + (n - (20000 : Int)).tdiv (100 : Int) + (1 : Int))) then ∃ y, EpP (fun cs out k => fiR (alR es ss m) es ss cs d out k) ((↑m : Int)
  + (1 : Int)) es ss cs d (alR es ss (m + (1 : Nat)) cs d [] k) y ∧ (ep2 m es ss cs v d f g h (1500 : Nat) (alR es ss (m + (1 : Nat)) cs d [] k)).m y < (ep2 m es ss cs v d f g h
  (1500 : Nat) (alR es ss (m + (1 : Nat)) cs d [] k)).m x ∧ ((True ∧ cs = cs) ∧ d = d ∧ (0 : Nat) = (0 : Nat) ∧ List.length x_1.snd.fst = List.length y.snd.fst ∧ (0 : Nat) = (0 :
  Nat) ∧ True ∧ (0 : Int) = (0 : Int) ∧ x.fst + (n - (20000 : Int)).tdiv (100 : Int) + (1 : Int) = y.fst ∧ True) ∧ (x_1.snd.snd = y.snd.snd ∧ True) ∧ x_1.snd.fst = y.snd.fst ∧ (v = v
  ∧ ((bif f then f = true else True) ∧ es = es) ∧ ((bif g then g = true else True) ∧ ss = ss) ∧ True) ∧ True else False else False else False else False else False else False else
  False else False else bif decide (alE (m + (1 : Nat)) es ss cs d [] k = (0 : Int)) then (List.length x.snd.fst = List.length (alO (m + (1 : Nat)) es ss cs d [] k) ∧ (0 : Int) = (0
  : Int) ∧ True) ∧ (x.snd.snd = alK (m + (1 : Nat)) es ss cs d [] k ∧ True) ∧ x.snd.fst = alO (m + (1 : Nat)) es ss cs d [] k ∧ True else ∃ kk, (False ∧ (0 : Int) = alE (m + (1 :
  Nat)) es ss cs d [] k ∧ True) ∧ (x.snd.snd = kk ∧ True) ∧ False
set_option maxRecDepth 100000 in
theorem gexpN_P : gexpN_T m alE alO alK knd := by
  unfold gexpN_T
  intro gl es ss cs v d k f g h ⟨⟨⟨hp, hc⟩, hu⟩, hcl⟩
  have bf : cond f (f = true) True := by cases f <;> trivial
  have bg : cond g (g = true) True := by cases g <;> trivial
  have hle := hu.fe
  have hls := hu.fs
  have ndE : (hds es).Nodup := (List.nodup_append.1 hu.fn).1
  have ndS : (hds ss).Nodup := (List.nodup_append.1 hu.fn).2.1
  refine ⟨⟨(0, [], k), ⟨by simp, by simp, hp, cs.length, by simp, rfl⟩, by (repeat' (first | exact trivial | exact rfl | assumption | apply And.intro))⟩, ?_⟩
  unfold alE alO alK
  generalize alR es ss (m + 1) cs d [] k = R
  rintro ⟨i, o, j⟩ ⟨i0, i1, ix, nn, hnn, hr⟩
  simp only at i0 i1 ix hnn hr
  dsimp only
  have err : ∀ {A : Prop} {e K : Int}, R.1 = e → ¬ e = 0 → cond (decide (R.1 = 0)) A (∃ (kk : Int), (True ∧ e = R.1 ∧ True) ∧ (K = kk ∧ True) ∧ True) := fun {A e K} h1 h2 => csx (fun q => absurd (h1 ▸ q) h2) (fun _ => ⟨K, ⟨trivial, h1.symm, trivial⟩, ⟨rfl, trivial⟩, trivial⟩)
  refine csx (fun hi => cd1 (by omega) ?_) (fun hi => ?_)
  · obtain ⟨c, hcc, _⟩ := hc.fr i.toNat (by omega)
    have j0 := ix.f0
    have j5 := ix.f5
    have jm := ix.fm
    have jo := ix.fo
    have d0 := ix.fd
    have ld : (cs.drop i.toNat).length = cs.length - i.toNat := List.length_drop
    obtain ⟨nn, rfl⟩ : ∃ q', nn = q' + 1 := ⟨nn - 1, by omega⟩
    rw [alL, if_neg (by omega)] at hr
    have hg : cellI ((cs.drop i.toNat).getD 0 []) = c := by
      rw [List.getD_eq_getElem?_getD, List.getElem?_drop, Nat.add_zero, ← List.getD_eq_getElem?_getD, hcc]; rfl
    have hd : (cs.drop i.toNat).drop 1 = cs.drop (i + 1).toNat := by
      rw [List.drop_drop, show i.toNat + 1 = (i + 1).toNat by omega]
    refine ⟨c, by rw [hcc]; rfl, cdI (by omega) (csx (fun hb => ?_) (fun hb => ⟨trivial, ?_⟩))⟩
    · rw [fi_big hb, if_neg (show ¬ (2 : Int) = 0 by decide)] at hr
      exact err (by rw [← hr]) (by decide)
    have hx1 : ExP (m + 1) es ss d o (j + 1) := ix.next jo (by omega) (by omega)
    have hxm : ExP m es ss d o (j + 1) := ix.up jo (by omega) (by omega) (by omega)
    rcases knd_cs c with hk | hk | hk | ⟨hk, k1, k2, k3, k4, k5⟩
    · refine cd1 hk ?_
      rw [fi_0 hb (by rw [hg, hk]; decide) (by rw [hg, hk]; decide) (by rw [hg, hk]; decide), if_neg (show ¬ (1 : Int) = 0 by decide)] at hr
      exact err (by rw [← hr]) (by decide)
    · refine cd0 (by omega) (cd1 hk ⟨⟨(0, o, false), ⟨by simp, by simp, by simp, by simp⟩, by (repeat' (first | exact trivial | exact rfl | assumption | apply And.intro))⟩, ?_⟩)
      rw [fi_1 hb (by rw [hg]; exact hk), hg, hd] at hr
      simp only at hr
      rintro ⟨q, o2, b⟩ ⟨q0, q1, qo, qb⟩
      simp only at q0 q1 qo qb
      dsimp only
      have hol : o2.length ≤ 60 + 40 := by
        rw [qo, List.length_append]
        have := List.length_filter_le (hcP c) (es.take q.toNat)
        rw [List.length_take] at this
        omega
      refine csx (fun hq => cd1 (by omega) ?_) (fun hq => ?_)
      · obtain ⟨c1, a1, a2, a3, a4, ha, _⟩ := hp.fe.fr q.toNat (by omega)
        have hx : hcP c (es.getD q.toNat []) = decide (c1 = c) := by rw [ha]; rfl
        refine ⟨c1, a1, a2, a3, a4, by rw [ha]; rfl, csx (fun he => cd1 ⟨rfl, by simp; omega, by simp; omega⟩ (cdI (by omega) ⟨(q + 1, o2 ++ [[.int .i64 c1, .int .i64 a1, .int .i64 a2, .int .i64 a3, .int .i64 a4]], true), ⟨by simp only; omega, by simp only; omega, ?_, ?_⟩, by simp only [ep25]; omega, by (repeat' (first | exact trivial | exact rfl | assumption | apply And.intro))⟩)) (fun he => cdI (by omega) ⟨(q + 1, o2, b), ⟨by simp only; omega, by simp only; omega, ?_, ?_⟩, by simp only [ep25]; omega, by (repeat' (first | exact trivial | exact rfl | assumption | apply And.intro))⟩)⟩
        · simp only
          rw [show (q + 1).toNat = q.toNat + 1 by omega, flt_take (by omega), hx, decide_eq_true he, ha, qo]; simp
        · simp only
          rw [show (q + 1).toNat = q.toNat + 1 by omega, any_take (by omega), hx, decide_eq_true he]; simp
        · simp only
          rw [show (q + 1).toNat = q.toNat + 1 by omega, flt_take (by omega), hx, decide_eq_false he, qo]; simp
        · simp only
          rw [show (q + 1).toNat = q.toNat + 1 by omega, any_take (by omega), hx, decide_eq_false he, qb]; simp
      · rw [List.take_of_length_le (by omega)] at qo qb
        refine csplit (fun hb2 => ?_) (fun hb2 => ?_)
        · have : es.any (hcP c) = false := by rw [← qb]; simpa using hb2
          have e6 : enErr es c o.length = 6 := by unfold enErr; rw [if_pos (idx_no this)]
          rw [e6, if_neg (show ¬ (6 : Int) = 0 by decide)] at hr
          exact err (by rw [← hr]) (by decide)
        · have hany : es.any (hcP c) = true := by rw [← qb]; simpa using hb2
          obtain ⟨y1, y2⟩ := idx_yes hany
          have y3 := flt_one ndE hany
          have ol : o2.length = o.length + 1 := by rw [qo, y3]; simp
          refine csx (fun h6 => ?_) (fun h6 => ?_)
          · have e2 : enErr es c o.length = 2 := by unfold enErr; rw [if_neg y2, if_pos (by omega)]
            rw [e2, if_neg (show ¬ (2 : Int) = 0 by decide)] at hr
            exact err (by rw [← hr]) (by decide)
          · have e0 : enErr es c o.length = 0 := by unfold enErr; rw [if_neg y2, if_neg (by omega)]
            have eo : enOut es c o = o2 := by
              unfold enOut
              rw [if_pos e0, y1, Int.toNat_natCast, qo, y3]
            rw [e0, if_pos rfl, eo] at hr
            exact cdI (by omega) ⟨(i + 1, o2, j + 1), ⟨by simp only; omega, by simp only; omega, ix.next (by simp only; omega) (by simp only; omega) (by simp only; omega), nn, by simp only [List.length_drop]; omega, hr⟩, by simp only [ep2]; omega, by (repeat' (first | exact trivial | exact rfl | assumption | apply And.intro))⟩
    · refine cd0 (by omega) (cd0 (by omega) (cd1 hk ⟨⟨(0, o, j + 1, false), ⟨by simp, by simp, hxm, by simp, fun _ => ⟨rfl, rfl⟩, fun e => by cases e⟩, by (repeat' (first | exact trivial | exact rfl | assumption | apply And.intro))⟩, ?_⟩))
      rw [fi_2 hb (by rw [hg]; exact hk), hg, hd] at hr
      simp only at hr
      rintro ⟨q, o2, j2, b⟩ ⟨q0, q1, qx, qb, qf, qt⟩
      simp only at q0 q1 qx qb qf qt
      dsimp only
      refine csx (fun hq => cd1 (by omega) ?_) (fun hq => ?_)
      · obtain ⟨c1, xs, ha, _, hxs⟩ := hp.fs.fr q.toNat (by omega)
        have hx : hcP c (ss.getD q.toNat []) = decide (c1 = c) := by rw [ha]; rfl
        refine ⟨c1, xs, by rw [ha]; rfl, csx (fun he => cdI (by omega) ⟨(q + 1, o2, j2, b), ⟨by simp only; omega, by simp only; omega, qx, ?_, qf, qt⟩, by simp only [ep37]; omega, by (repeat' (first | exact trivial | exact rfl | assumption | apply And.intro))⟩) (fun he => ?_)⟩
        · simp only
          rw [show (q + 1).toNat = q.toNat + 1 by omega, any_take (by omega), hx, decide_eq_false he, qb]; simp
        have hxl : xs.length ≤ 20 := by have := hu.fq q.toNat (by omega); rw [ha] at this; exact this
        have he := Decidable.not_not.1 he
        have hx : hcP c (ss.getD q.toNat []) = true := by rw [hx]; exact decide_eq_true he
        have hb0 : b = false := by rw [qb]; exact no_two ndS (by omega) hx
        obtain ⟨z1, z2⟩ := qf hb0
        subst z1 z2
        have hidx := idx_q ndS (by omega) hx
        have hsq : sqR (alR es ss m) ss c d o2 (j + 1) = if 20 < d then (2, o2, j + 1) else alR es ss m xs (d + 1) o2 (j + 1) := by
          unfold sqR
          rw [if_neg (by omega), ← hidx, Int.toNat_natCast, ha]; rfl
        rw [hsq] at hr
        refine csx (fun h20 => ?_) (fun h20 => cdI (by omega) ⟨⟨⟨⟨⟨⟨hp.fe, hp.fs, jo, by omega, by omega, by omega, by omega⟩, hxs⟩, hu⟩, hxl⟩, rfl⟩, ?_⟩)
        · rw [if_pos h20, if_neg (show ¬ (2 : Int) = 0 by decide)] at hr
          exact err (by rw [← hr]) (by decide)
        rw [if_neg h20] at hr hsq
        have hal := alR_ok es ss m xs (d + 1) o2 (j + 1) ⟨hp.fe, hp.fs, jo, by omega, by omega, by omega, by omega⟩ hxs
        refine csx (fun hz => cdI (by omega) ⟨(q + 1, (alR es ss m xs (d + 1) o2 (j + 1)).2.1, (alR es ss m xs (d + 1) o2 (j + 1)).2.2, true), ⟨by simp only; omega, by simp only; omega, hxm.up hal.fo hal.fk (hal.fz hz) ?_, ?_, (fun e => by cases e), fun _ => ?_⟩, by simp only [ep37]; omega, by (repeat' (first | exact trivial | exact rfl | assumption | apply And.intro))⟩) (fun hz kk oo => csx (fun _ => ?_) (fun h2 => absurd (Decidable.not_not.1 h2) hz))
        · have := hal.fk; simp only; omega
        · simp only
          rw [show (q + 1).toNat = q.toNat + 1 by omega, any_take (by omega), hx]; simp
        · simp only
          rw [hsq, ← hz]
        · rw [if_neg hz] at hr
          exact err (by rw [← hr]) hz
      · rw [List.take_of_length_le (by omega)] at qb
        refine csplit (fun hb2 => ?_) (fun hb2 => ?_)
        · have : ss.any (hcP c) = false := by rw [← qb]; simpa using hb2
          have e6 : sqR (alR es ss m) ss c d o (j + 1) = (6, o, j + 1) := by unfold sqR; rw [if_pos (idx_no this)]
          rw [e6, if_neg (show ¬ (6 : Int) = 0 by decide)] at hr
          exact err (by rw [← hr]) (by decide)
        · have hb3 : b = true := by simpa using hb2
          rw [qt hb3, if_pos rfl] at hr
          have x5 := qx.f5
          have xo := qx.fo
          have xm := qx.fm
          exact cdI (by omega) ⟨(i + 1, o2, j2), ⟨by simp only; omega, by simp only; omega, ⟨qx.fe, qx.fs, xo, qx.f0, x5, by simp only; omega, qx.fd⟩, nn, by simp only [List.length_drop]; omega, hr⟩, by simp only [ep2]; omega, by (repeat' (first | exact trivial | exact rfl | assumption | apply And.intro))⟩
    · have e1 : (c - 20000).tdiv 100 = rpX c := Int.tdiv_eq_ediv_of_nonneg (by omega)
      have e2 : (c - 20000).tmod 100 = rpY c := Int.tmod_eq_emod_of_nonneg (by omega)
      have hrng : rng .i64 c := by obtain ⟨c', h1, h2⟩ := hc.fr i.toNat (by omega); rw [hcc] at h1; simp only [List.cons.injEq, AV.int.injEq, true_and, and_true] at h1; rw [h1]; exact h2
      have hrng : -9223372036854775808 ≤ c ∧ c ≤ 9223372036854775807 := hrng
      rw [e1, e2]
      have h3 := hk
      refine cd0 (by omega) (cd0 (by omega) (cd0 (by omega) (cdI (by omega) (cdI (by omega) (cdI (by omega) (cdI (by omega) (csx (fun hs => ?_) (fun hs => ?_))))))))
      · rw [fi_3s hb (by rw [hg]; exact hk) (by rw [hg, hd, List.length_drop]; omega), if_neg (show ¬ (11 : Int) = 0 by decide)] at hr
        exact err (by rw [← hr]) (by decide)
      rw [fi_3 hb (by rw [hg]; exact hk) (by rw [hg, hd, List.length_drop]; omega), hg, hd] at hr
      generalize rpX c = X at *
      generalize rpY c = Y at *
      have hsl : List.drop (i + 1).toNat (List.take (i + 1 + X).toNat cs) = List.take X.toNat (List.drop (i + 1).toNat cs) := by
        rw [List.drop_take, show (i + 1 + X).toNat - (i + 1).toNat = X.toNat by omega]
      rw [hsl]
      have hct : CdsP (List.take X.toNat (List.drop (i + 1).toNat cs)) := (hc.drop _).take _
      refine ⟨⟨(0, o, j + 1), ⟨by simp, by simp only; omega, hxm, by simp⟩, by (repeat' (first | exact trivial | exact rfl | assumption | apply And.intro))⟩, ?_⟩
      rintro ⟨t, o2, j2⟩ ⟨t0, t1, tx, tr⟩
      simp only at t0 t1 tx tr
      dsimp only
      have x0 := tx.f0
      have x5 := tx.f5
      have xo := tx.fo
      have xm := tx.fm
      refine csx (fun ht => cdI (by omega) (cdI (by omega) (cdI (by omega) (cd1 (by omega) (cd1 (by omega) ⟨⟨⟨⟨⟨tx, hct⟩, hu⟩, by rw [List.length_take, List.length_drop]; omega⟩, rfl⟩, ?_⟩))))) (fun ht => cdI (by omega) (cdI (by omega) ?_))
      · rw [show (Y - t).toNat = (Y - (t + 1)).toNat + 1 by omega, rpR] at tr
        have hal := alR_ok es ss m _ d o2 j2 tx hct
        refine csx (fun hz => ?_) (fun hz kk oo => csx (fun _ => ?_) (fun h2 => absurd (Decidable.not_not.1 h2) hz))
        · rw [if_pos hz] at tr
          have := hal.fk
          have := hal.fz hz
          exact cdI (by omega) ⟨(t + 1, _, _), ⟨by simp only; omega, by simp only; omega, tx.next hal.fo hal.fk (hal.fz hz), tr⟩, by simp only [ep13]; omega, by (repeat' (first | exact trivial | exact rfl | assumption | apply And.intro))⟩
        · rw [if_neg hz] at tr
          rw [← tr, if_neg hz] at hr
          simp only at hr
          rw [if_neg hz] at hr
          exact err (by rw [← hr]) hz
      · rw [show (Y - t).toNat = 0 by omega, rpR] at tr
        rw [← tr, if_pos rfl] at hr
        simp only [if_true] at hr
        rw [List.drop_drop, show (i + 1).toNat + X.toNat = (i + X + 1).toNat by omega] at hr
        exact ⟨(i + X + 1, o2, j2), ⟨by simp only; omega, by simp only; omega, ⟨tx.fe, tx.fs, xo, x0, x5, by simp only; omega, tx.fd⟩, nn, by simp only [List.length_drop]; omega, hr⟩, by simp only [ep2]; omega, by (repeat' (first | exact trivial | exact rfl | assumption | apply And.intro))⟩
  · rw [alL_end (by rw [List.length_drop]; omega)] at hr
    rw [← hr]
    exact cd1 rfl ⟨⟨rfl, rfl, trivial⟩, ⟨rfl, trivial⟩, rfl, trivial⟩
def gexpN_S (m : Nat) (alE : Nat → LLA → LLA → LLA → Int → LLA → Int → Int) (alO : Nat → LLA → LLA → LLA → Int → LLA → Int → LLA) (alK : Nat → LLA → LLA → LLA → Int → LLA → Int → Int) (knd : Int → Int) : Prop := ∀ (gl : Glob) (es ss cs : List (List AV)) (v d k : Int) (f g h : Bool), ((ExP (m + 1) es ss d [] k ∧ CdsP cs) ∧ UnP es ss) ∧ cs.length ≤ 20 → fnQ Tryd.prog { glob := gl, spec := lk [(40, (tkind_s knd))], specH := lk [], specQ := lk [(38, (rexp_s m alE alO alK))], shape := [36, 98, 121], slz := [(121, [1])], nowf := true } { nt := 147, drop := drp [(2, 939524096), (3, 6442450944), (4, 128849018880), (5, 4260607557632), (6, 30786325577728), (8, 70368744177664), (9, 17732923532771328), (10, 558446353793941504), (13, 3458764513820540928), (14, 27670116110564327424), (15, 2417814745741110930309120), (16, 2417851639229258349412352), (17, 9671406556917033397649408), (18, 19342813113834066795298816), (19, 270799383593676935134183424), (20, 618970019642690137449562112), (22, 2475880078570760549798248448), (24, 4951760157141521099596496896), (26, 475368975085586025561263702016), (27, 4436777100798802905238461218816), (28, 152118072027387528179604384645120), (29, 162259276829213363391578010288128), (30, 324518553658426726783156020576256), (32, 3894222643901120721397872246915072), (34, 20769187434139310514121985316880384), (36, 41538374868278621028243970633760768), (38, 3987683987354747618711421180841033728), (39, 37218383881977644441306597687849648128), (41, 85070591730234615865843651857942052864), (43, 696558005087161034709527821412829528850432), (44, 696898287454081973172991196020261297061888), (45, 2787593149816327892691964784081045188247552), (46, 5575186299632655785383929568162090376495104), (47, 11150372599265311570767859136324180752990208), (48, 22300745198530623141535718272648361505980416), (50, 89202980794122492566142873090593446023921664)], fr := 1000, kp := [0], emp := fun id => cond (Nat.beq id 1) [(4, 1500, 23, 5)] [], own := true } (epJ m es ss cs v d f g h 1500 (alR es ss (m + 1) cs d [] k)) 6 Tryd.f38 [.agg [.int .i64 v, .sl 5 f es, .sl 2 g ss], .sl 1 h cs, .int .i64 d, .ptr 0 0, .nils] [.cells [.int .i64 k]] (fun r2 bs2 => cond (decide (alE (m + 1) es ss cs d [] k = 0)) (le r2 (.tup [.rw 1 5 (alO (m + 1) es ss cs d [] k).length, .int .i64 0]) ∧ leBs bs2 [.cells [.int .i64 (alK (m + 1) es ss cs d [] k)], .row 23 5 (alO (m + 1) es ss cs d [] k)]) (∃ (kk : Int), le r2 (.tup [.nils, .int .i64 (alE (m + 1) es ss cs d [] k)]) ∧ leBs bs2 [.cells [.int .i64 kk]]))
set_option maxRecDepth 100000 in
theorem gexpN_e (m : Nat) (alE : Nat → LLA → LLA → LLA → Int → LLA → Int → Int) (alO : Nat → LLA → LLA → LLA → Int → LLA → Int → LLA) (alK : Nat → LLA → LLA → LLA → Int → LLA → Int → Int) (knd : Int → Int) : gexpN_T m alE alO alK knd = gexpN_S m alE alO alK knd := by kernel_rfl
theorem gexpN_v : gexpN_S m alE alO alK knd := @Eq.mp (gexpN_T m alE alO alK knd) (gexpN_S m alE alO alK knd) (gexpN_e m alE alO alK knd) (gexpN_P m)
theorem rexpN_ok (gl : Glob) (m : Nat) : QOK Tryd.prog gl 38 (rexpN_s m alE alO alK) := by
  refine ⟨fok Tryd.func38 (by kernel_rfl) (by kernel_rfl), ?_⟩
  intro xs bs T h K hT
  unfold rexpN_s at h
  split at h
  · simp only [Option.some.injEq] at h
    subst h
    obtain ⟨hp, hK⟩ := hT
    rename_i v f es g ss h' cs d k
    obtain ⟨r, bs2, hF, hC⟩ := fnQ_sound tyNil (by exact specOK rfl rfl ⟨(tkind_ok gl), trivial⟩ trivial (d := qsOf rfl ⟨(rexp_ok gl m), trivial⟩)) (by kernel_rfl) Tryd.func38 (gexpN_v m gl _ _ _ _ _ _ _ _ _ hp)
    by_cases hz : alE (m + 1) es ss cs d [] k = 0
    · rw [decide_eq_true hz] at hF hK
      obtain ⟨hl, hb⟩ := hF
      exact ⟨_, _, hK, hC.le hl hb⟩
    · rw [decide_eq_false hz] at hF hK
      obtain ⟨kk, hl, hb⟩ := hF
      exact ⟨_, _, hK kk, hC.le hl hb⟩
  · cases h
set_option maxRecDepth 100000 in
def gexpandR_T (alE : Nat → LLA → LLA → LLA → Int → LLA → Int → Int) (alO : Nat → LLA → LLA → LLA → Int → LLA → Int → LLA) (alK : Nat → LLA → LLA → LLA → Int → LLA → Int → Int) (exO : LLA → LLA → Int → LLA → LLA) (exE : LLA → LLA → Int → LLA → Int) (vaE : List (List AV) → List (List AV) → Int → Int) : Prop :=
  ∀ (es ss cs : List (List AV)) (v : Int) (f g h : Bool), (EnsP es ∧ SqsP ss) ∧ CdsP cs → ((-9223372036854775808 : Int) ≤ v ∧ v ≤ (9223372036854775807 : Int)) ∧ True ∧ True ∧ True →
  True → (EnsP es ∧ SqsP ss) ∧ bif decide ¬vaE es ss v = (0 : Int) then exO es ss v cs = [] ∧ vaE es ss v = exE es ss v cs ∧ True else bif decide ((20 : Int) < (↑cs.length : Int))
  then exO es ss v cs = [] ∧ (2 : Int) = exE es ss v cs ∧ True else (((ExP (501 : Int) es ss (0 : Int) [] (0 : Int) ∧ CdsP cs) ∧ UnP es ss) ∧ cs.length ≤ (20 : Nat)) ∧ bif decide
  (alE (501 : Nat) es ss cs (0 : Int) [] (0 : Int) = (0 : Int)) then bif decide (List.length (alO (501 : Nat) es ss cs (0 : Int) [] (0 : Int)) = List.length (alO (501 : Nat) es ss cs
  (0 : Int) [] (0 : Int))) then (True ∧ alO (501 : Nat) es ss cs (0 : Int) [] (0 : Int) = exO es ss v cs) ∧ (0 : Int) = exE es ss v cs ∧ True else False else ∀ (kk : Int), exO es ss
  v cs = [] ∧ alE (501 : Nat) es ss cs (0 : Int) [] (0 : Int) = exE es ss v cs ∧ True
set_option maxRecDepth 100000 in
theorem gexpandR_P : gexpandR_T alE alO alK exO exE vaE := by
  unfold gexpandR_T
  intro es ss cs v f g h ⟨⟨he, hs⟩, hc⟩ _ _
  have z : EnsP es ∧ SqsP ss := ⟨he, hs⟩
  refine ⟨z, csx (fun h1 => ?_) (fun h1 => csx (fun h2 => ?_) (fun h2 => ⟨⟨⟨⟨⟨he, hs, by simp, by decide, by decide, by decide, by decide⟩, hc⟩, un_of (Decidable.not_not.1 h1)⟩, by omega⟩, csx (fun h3 => cd1 rfl ?_) (fun h3 kk => ?_)⟩))⟩
  · have e : exE es ss v cs = vaE es ss v := by unfold exE; rw [if_neg h1]
    unfold exO; rw [e, if_neg h1]; exact ⟨rfl, rfl, trivial⟩
  · have h1 := Decidable.not_not.1 h1
    have e : exE es ss v cs = 2 := by unfold exE; rw [if_pos h1, if_pos h2]
    unfold exO; rw [e, if_neg (by decide)]; exact ⟨rfl, rfl, trivial⟩
  · have h1 := Decidable.not_not.1 h1
    have e : exE es ss v cs = alE 501 es ss cs 0 [] 0 := by unfold exE; rw [if_pos h1, if_neg h2]; rfl
    unfold exO; rw [e, h3, if_pos rfl]; exact ⟨⟨trivial, rfl⟩, rfl, trivial⟩
  · have h1 := Decidable.not_not.1 h1
    have e : exE es ss v cs = alE 501 es ss cs 0 [] 0 := by unfold exE; rw [if_pos h1, if_neg h2]; rfl
    unfold exO; rw [e, if_neg h3]; exact ⟨rfl, rfl, trivial⟩
def gexpandR_S (alE : Nat → LLA → LLA → LLA → Int → LLA → Int → Int) (alO : Nat → LLA → LLA → LLA → Int → LLA → Int → LLA) (alK : Nat → LLA → LLA → LLA → Int → LLA → Int → Int) (exO : LLA → LLA → Int → LLA → LLA) (exE : LLA → LLA → Int → LLA → Int) (vaE : List (List AV) → List (List AV) → Int → Int) : Prop := ∀ (es ss cs : List (List AV)) (v : Int) (f g h : Bool), (EnsP es ∧ SqsP ss) ∧ CdsP cs → fnK Tryd.prog { glob := glb, spec := lk [(22, (rvalidate_s vaE))], specH := lk [], specQ := lk [(38, (rexpN_s 500 alE alO alK))], nowf := true } { nt := 21, drop := drp [(1, 768), (2, 1024), (3, 4096), (4, 24576), (7, 2031616)] } (fun _ _ => none) 6 Tryd.f21 [.agg [.int .i64 v, .sl 5 f es, .sl 2 g ss], .sl 1 h cs] (.tup [.sl 5 false (exO es ss v cs), .int .i64 (exE es ss v cs)])
set_option maxRecDepth 100000 in
theorem gexpandR_e (alE : Nat → LLA → LLA → LLA → Int → LLA → Int → Int) (alO : Nat → LLA → LLA → LLA → Int → LLA → Int → LLA) (alK : Nat → LLA → LLA → LLA → Int → LLA → Int → Int) (exO : LLA → LLA → Int → LLA → LLA) (exE : LLA → LLA → Int → LLA → Int) (vaE : List (List AV) → List (List AV) → Int → Int) : gexpandR_T alE alO alK exO exE vaE = gexpandR_S alE alO alK exO exE vaE := by kernel_rfl
theorem gexpandR_v : gexpandR_S alE alO alK exO exE vaE := @Eq.mp (gexpandR_T alE alO alK exO exE vaE) (gexpandR_S alE alO alK exO exE vaE) (gexpandR_e alE alO alK exO exE vaE) (gexpandR_P)
def rexpand_s (exO : LLA → LLA → Int → LLA → LLA) (exE : LLA → LLA → Int → LLA → Int) : Sp
  | [.agg [.int .i64 v, .sl 5 f es, .sl 2 g ss], .sl 1 h cs] => some ((EnsP es ∧ SqsP ss) ∧ CdsP cs, .tup [.sl 5 false (exO es ss v cs), .int .i64 (exE es ss v cs)])
  | _ => none
theorem rexpand_ok : SOK Tryd.prog glb 21 (rexpand_s exO exE) := by
  refine ⟨fok Tryd.func21 (by kernel_rfl) (by kernel_rfl), ?_⟩
  intro xs pre r hh hp
  unfold rexpand_s at hh
  split at hh
  · simp only [Option.some.injEq, Prod.mk.injEq] at hh
    obtain ⟨h1, h2⟩ := hh
    subst h1 h2
    exact fnK_sound tyNil (by exact specOK rfl rfl ⟨rvalidate_ok, trivial⟩ trivial (d := qsOf rfl ⟨rexpN_ok glb 500, trivial⟩)) (by kernel_rfl) Tryd.func21 rfl (gexpandR_v _ _ _ _ _ _ _ hp)
  · cases hh
--KIND rexpand S synoptic/synopticref08.Expand glob FUN exO : LLA → LLA → Int → LLA → LLA ; exE : LLA → LLA → Int → LLA → Int
end Go.Proofs.YthdfkiopppkfcaaDoor
