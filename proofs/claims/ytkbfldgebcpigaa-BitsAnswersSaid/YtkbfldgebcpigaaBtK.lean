/- Bits: the law's lists. -/
import Derived.Test.YtkbfldgebcpigaaBtJ
namespace Go.Proofs.Ytkbfldgebcpigaa
open Go
set_option linter.unusedVariables false
set_option linter.unusedSimpArgs false

theorem or_b1 : ∀ z, z < 256 → ∃ y : Nat, y < 256 ∧ bits .or .u8 ((z : Nat) : Int) 1 = (y : Int) := by
  have h : ∀ z, z < 256 → 0 ≤ bits .or .u8 ((z : Nat) : Int) 1 ∧ bits .or .u8 ((z : Nat) : Int) 1 < 256 := by decide +kernel
  intro z hz
  obtain ⟨h1, h2⟩ := h z hz
  exact ⟨(bits .or .u8 ((z : Nat) : Int) 1).toNat, by omega, by omega⟩
theorem byt_app {ys : List (List AV)} {b : Nat} (h : BytP ys) (hl : ys.length ≤ 9) (hb : b < 256) : BytP (ys ++ [[.int .u8 (b : Int)]]) := by
  refine ⟨fun i hi => ?_, by simp; omega⟩
  rw [List.length_append, List.length_singleton] at hi
  by_cases q : i < ys.length
  · have := h.fr i q
    rw [List.getD_eq_getElem?_getD, List.getElem?_append_left q, ← List.getD_eq_getElem?_getD]; exact this
  · rw [List.getD_eq_getElem?_getD, List.getElem?_append_right (by omega), show i - ys.length = 0 by omega]
    exact ⟨b, rfl, hb⟩
theorem byt_set {l : List Nat} {k b : Nat} (h : Bytes l) (hl : l.length ≤ 10) (hk : k < l.length) (hb : b < 256) : BytP (br (l.set k b)) := by
  refine br_bytes (fun i => ?_) (by simp; omega)
  rw [getD_set _ _ _ _ hk]
  split
  · exact hb
  · exact h i
theorem bit_app {xs : List (List AV)} {b : Nat} (h : BitP xs) (hl : xs.length ≤ 40) (hb : b < 2) : BitP (xs ++ [[.int .i64 (b : Int)]]) := by
  refine ⟨fun i hi => ?_, by simp; omega⟩
  rw [List.length_append, List.length_singleton] at hi
  by_cases q : i < xs.length
  · have := h.fr i q
    rw [List.getD_eq_getElem?_getD, List.getElem?_append_left q, ← List.getD_eq_getElem?_getD]; exact this
  · rw [List.getD_eq_getElem?_getD, List.getElem?_append_right (by omega), show i - xs.length = 0 by omega]
    exact ⟨b, rfl, hb⟩
def liI (xs : List (List AV)) : LInv := ⟨Int × Int × List (List AV), fun x => ⟨[(0, .ptr 0 0), (2, .ptr 1002 0), (3, .rw 1500 1 x.2.2.length), (4, .int .i64 x.1)], [(0, .cells [.sl 1 false xs, .int .i64 x.2.1]), (1002, .cells [.nils, .int .i64 0]), (1500, .row 3 1 x.2.2)]⟩, LiP, fun x => x.1.toNat, none⟩
def blist_s : SpQ
  | [.ptr 0 0], [.cells [.sl 1 false xs, .int .i64 i]] => some (fun K => (SrcQ xs i) ∧ (∀ (ys : List (List AV)) (n j : Int), (LiQ ys j) → K (.agg [.sl 1 false ys, .int .i64 n]) [.cells [.sl 1 false xs, .int .i64 j]]))
  | _, _ => none
set_option maxRecDepth 100000 in
def blist_T : Prop :=
  ∀ (gl : Glob) (xs : List (List AV)) (i : Int), SrcQ xs i → SrcQ xs i ∧ ∀ (v j : Int), NumQ (40 : Int) v j → (∃ x, LiP x ∧ ((0 : Nat) = (0 : Nat) ∧ (0 : Nat) = (0 : Nat) ∧ (0 : Nat)
  = x.snd.snd.length ∧ v = x.fst ∧ True) ∧ ((True ∧ xs = xs) ∧ j = x.snd.fst ∧ True) ∧ (True ∧ (0 : Int) = (0 : Int) ∧ True) ∧ [] = x.snd.snd ∧ True) ∧ ∀ (x : Int × Int × List (List
  AV)), LiP x → bif decide ((0 : Int) < x.fst) then SrcQ xs x.snd.fst ∧ ∀ (v j : Int), NumQ (2 : Int) v j → bif decide (x.snd.snd.length = x.snd.snd.length ∧ x.snd.snd.length +
  [[AV.int IntKind.i64 v]].length ≤ (9223372036854775807 : Nat) ∧ (x.snd.snd.length + [[AV.int IntKind.i64 v]].length) * (8 : Nat) ≤ (140737488355328 : Nat)) then ∃ y, LiP y ∧ (liI
  xs).m y < (liI xs).m x ∧ ((0 : Nat) = (0 : Nat) ∧ (0 : Nat) = (0 : Nat) ∧ (x.snd.snd ++ [[AV.int IntKind.i64 v]]).length = y.snd.snd.length ∧ IntKind.i64.wrap (x.fst - (1 : Int)) =
  y.fst ∧ True) ∧ ((True ∧ xs = xs) ∧ j = y.snd.fst ∧ True) ∧ (True ∧ (0 : Int) = (0 : Int) ∧ True) ∧ x.snd.snd ++ [[AV.int IntKind.i64 v]] = y.snd.snd ∧ True else False else (BitP
  x.snd.snd ∧ x.snd.snd.length = x.snd.snd.length) ∧ SrcQ xs x.snd.fst ∧ ∀ (v j : Int), NumQ (9 : Int) v j → bif decide (v = (0 : Int)) then (SrcQ xs j ∧ (-2 : Int) ≤ (2 : Int) ∧
  (-1000000000 : Int) ≤ (-2 : Int) ∧ (2 : Int) ≤ (1000000000 : Int)) ∧ ∀ (v j : Int), ((-2 : Int) ≤ v ∧ v ≤ (2 : Int)) ∧ (0 : Int) ≤ j → bif decide ((br (pack (inn
  x.snd.snd))).length = (br (pack (inn x.snd.snd))).length) then ∃ ys n j_1, LiQ ys j_1 ∧ ((True ∧ br (pack (inn x.snd.snd)) = ys) ∧ IntKind.i64.wrap ((↑x.snd.snd.length : Int) + v)
  = n ∧ True) ∧ ((True ∧ xs = xs) ∧ j = j_1 ∧ True) ∧ True else False else bif decide (v = (1 : Int)) then SrcQ xs j ∧ ∀ (v j : Int), NumQ (2 : Int) v j → bif decide ((br (pack (inn
  x.snd.snd))).length = (br (pack (inn x.snd.snd))).length ∧ (br (pack (inn x.snd.snd))).length + [[AV.int IntKind.u8 (IntKind.u8.wrap v)]].length ≤ (9223372036854775807 : Nat) ∧
  ((br (pack (inn x.snd.snd))).length + [[AV.int IntKind.u8 (IntKind.u8.wrap v)]].length) * (1 : Nat) ≤ (140737488355328 : Nat)) then bif decide ((br (pack (inn x.snd.snd)) ++
  [[AV.int IntKind.u8 (IntKind.u8.wrap v)]]).length = (br (pack (inn x.snd.snd)) ++ [[AV.int IntKind.u8 (IntKind.u8.wrap v)]]).length) then ∃ ys n j_1, LiQ ys j_1 ∧ ((True ∧ br (pack
  (inn x.snd.snd)) ++ [[AV.int IntKind.u8 (IntKind.u8.wrap v)]] = ys) ∧ (↑x.snd.snd.length : Int) = n ∧ True) ∧ ((True ∧ xs = xs) ∧ j = j_1 ∧ True) ∧ True else False else False else
  bif decide (v = (2 : Int)) then bif decide ((0 : Int) < (↑(br (pack (inn x.snd.snd))).length : Int)) then bif decide ((0 : Int) ≤ IntKind.i64.wrap ((↑(br (pack (inn
  x.snd.snd))).length : Int) - (1 : Int)) ∧ IntKind.i64.wrap ((↑(br (pack (inn x.snd.snd))).length : Int) - (1 : Int)) < (↑(br (pack (inn x.snd.snd))).length : Int)) then bif decide
  ((br (pack (inn x.snd.snd))).length = (br (pack (inn x.snd.snd))).length ∧ (IntKind.i64.wrap ((↑(br (pack (inn x.snd.snd))).length : Int) - (1 : Int))).toNat < (br (pack (inn
  x.snd.snd))).length) then ∃ n, List.take [AV.int IntKind.u8 n].length (List.drop (0 : Nat) ((br (pack (inn x.snd.snd))).getD (IntKind.i64.wrap ((↑(br (pack (inn x.snd.snd))).length
  : Int) - (1 : Int))).toNat [])) = [AV.int IntKind.u8 n] ∧ bif decide ((0 : Int) ≤ IntKind.i64.wrap ((↑(br (pack (inn x.snd.snd))).length : Int) - (1 : Int)) ∧ IntKind.i64.wrap
  ((↑(br (pack (inn x.snd.snd))).length : Int) - (1 : Int)) < (↑(br (pack (inn x.snd.snd))).length : Int)) then bif decide ((br (pack (inn x.snd.snd))).length = (br (pack (inn
  x.snd.snd))).length ∧ (IntKind.i64.wrap ((↑(br (pack (inn x.snd.snd))).length : Int) - (1 : Int))).toNat < (br (pack (inn x.snd.snd))).length) then bif decide ((br (pack (inn
  x.snd.snd))).length = (setEl (br (pack (inn x.snd.snd))) (IntKind.i64.wrap ((↑(br (pack (inn x.snd.snd))).length : Int) - (1 : Int))).toNat (0 : Nat) [AV.int IntKind.u8 (bits
  BinOp.or IntKind.u8 n (1 : Int))]).length) then ∃ ys n_1 j_1, LiQ ys j_1 ∧ ((True ∧ setEl (br (pack (inn x.snd.snd))) (IntKind.i64.wrap ((↑(br (pack (inn x.snd.snd))).length : Int)
  - (1 : Int))).toNat (0 : Nat) [AV.int IntKind.u8 (bits BinOp.or IntKind.u8 n (1 : Int))] = ys) ∧ (↑x.snd.snd.length : Int) = n_1 ∧ True) ∧ ((True ∧ xs = xs) ∧ j = j_1 ∧ True) ∧
  True else False else False else False else False else False else bif decide ((br (pack (inn x.snd.snd))).length = (br (pack (inn x.snd.snd))).length) then ∃ ys n j_1, LiQ ys j_1 ∧
  ((True ∧ br (pack (inn x.snd.snd)) = ys) ∧ (↑x.snd.snd.length : Int) = n ∧ True) ∧ ((True ∧ xs = xs) ∧ j = j_1 ∧ True) ∧ True else False else bif decide ((br (pack (inn
  x.snd.snd))).length = (br (pack (inn x.snd.snd))).length) then ∃ ys n j_1, LiQ ys j_1 ∧ ((True ∧ br (pack (inn x.snd.snd)) = ys) ∧ (↑x.snd.snd.length : Int) = n ∧ True) ∧ ((True ∧
  xs = xs) ∧ j = j_1 ∧ True) ∧ True else False
set_option maxRecDepth 100000 in
theorem blist_P : blist_T := by
  unfold blist_T
  intro gl xs i hs
  have s := hs.s
  have sT : ∀ j : Int, (True ∧ xs = xs) ∧ j = j ∧ True := fun j => ⟨⟨trivial, rfl⟩, rfl, trivial⟩
  refine ⟨hs, fun v j q1 => ⟨⟨(v, j, []), ⟨by have := q1.fv (by omega); simp only; omega, q1.fj, ⟨fun i hi => by simp at hi, by simp⟩, by have := q1.fv (by omega); simp; omega⟩, ⟨rfl, rfl, rfl, rfl, trivial⟩, sT _, ⟨trivial, rfl, trivial⟩, rfl, trivial⟩, ?_⟩⟩
  rintro ⟨i, j, zs⟩ ⟨⟨i0, i1⟩, hj, hb, hl⟩
  simp only at i0 i1 hj hb hl
  dsimp only
  refine cs (fun hi => ⟨⟨s, hj⟩, fun v j q2 => ?_⟩) (fun hi => ⟨⟨hb, rfl⟩, ⟨s, hj⟩, fun v j q2 => ?_⟩)
  · have hv := q2.fv (by omega)
    have ew : IntKind.i64.wrap (i - 1) = i - 1 := wrap_eq (by show _ ∧ _; omega)
    have ev : v = ((v.toNat : Nat) : Int) := by omega
    have hba := bit_app (b := v.toNat) hb (by omega) (by omega)
    rw [← ev] at hba
    exact cd1 ⟨rfl, by simp; omega, by simp; omega⟩ ⟨(i - 1, j, _), ⟨by simp only; omega, q2.fj, hba, by simp; omega⟩, by simp only [liI]; omega, ⟨rfl, rfl, rfl, ew, trivial⟩, sT _, ⟨trivial, rfl, trivial⟩, rfl, trivial⟩
  · have hB := bytes_pack (inn_b01 hb)
    have hn : (pack (inn zs)).length ≤ 5 := by rw [length_pack, inn_len]; omega
    have hbn := br_len (pack (inn zs))
    have hP := br_bytes hB (by omega)
    have fin : ∀ (ys : List (List AV)) (n j : Int), BytP ys → ys.length ≤ 10 → 0 ≤ j → ∃ ys' n' j', LiQ ys' j' ∧ ((True ∧ ys = ys') ∧ n = n' ∧ True) ∧ ((True ∧ xs = xs) ∧ j = j' ∧ True) ∧ True := fun ys n j h1 h2 h3 => ⟨ys, n, j, ⟨h1, h2, h3⟩, ⟨⟨trivial, rfl⟩, rfl, trivial⟩, sT j, trivial⟩
    refine cs (fun _ => ⟨⟨⟨s, q2.fj⟩, by decide, by decide, by decide⟩, fun v j q3 => cd1 rfl (fin _ _ _ hP (by omega) q3.2)⟩) (fun _ => cs (fun _ => ⟨⟨s, q2.fj⟩, fun v j q3 => ?_⟩) (fun _ => cs (fun _ => cs (fun hlt => ?_) (fun _ => cd1 rfl (fin _ _ _ hP (by omega) q2.fj))) (fun _ => cd1 rfl (fin _ _ _ hP (by omega) q2.fj))))
    · have hv := q3.fv (by omega)
      have ew : IntKind.u8.wrap v = ((v.toNat : Nat) : Int) := by rw [wrap_eq (by show _ ∧ _; omega)]; omega
      rw [ew]
      exact cd1 ⟨rfl, by simp; omega, by simp; omega⟩ (cd1 rfl (fin _ _ _ (byt_app hP (by omega) (by omega)) (by simp; omega) q3.fj))
    · have ew : IntKind.i64.wrap (((br (pack (inn zs))).length : Int) - 1) = (((pack (inn zs)).length - 1 : Nat) : Int) := by rw [wrap_eq (by show _ ∧ _; omega)]; omega
      rw [ew, Int.toNat_natCast]
      have hk : (pack (inn zs)).length - 1 < (pack (inn zs)).length := by omega
      refine cd1 (by omega) (cd1 ⟨rfl, by omega⟩ ⟨_, by rw [br_at hk]; rfl, cd1 (by omega) (cd1 ⟨rfl, by omega⟩ (cd1 (List.length_set ..).symm ?_))⟩)
      obtain ⟨y, hy, e⟩ := or_b1 _ (hB ((pack (inn zs)).length - 1))
      rw [e, setEl_br hk]
      exact fin _ _ _ (byt_set hB (by omega) hk hy) (by rw [br_len]; simp; omega) q2.fj
def blist_S : Prop := ∀ (gl : Glob) (xs : List (List AV)) (i : Int), SrcQ xs i → fnQ Try.prog { glob := gl, spec := lk [], specH := lk [(10, rbofO_s)], specQ := lk [(9, qn_s), (18, qrange_s)], shape := [52], nowf := true, wrap := true } { nt := 56, drop := drp [(2, 192), (3, 256), (4, 3072), (5, 126976), (6, 393216), (7, 524288), (8, 4194304), (9, 528482304), (10, 1073741824), (11, 547608330240), (12, 1099511627776), (13, 15393162788864), (14, 35993612646875136), (15, 36028797018963968)], fr := 1000, kp := [0], emp := fun id => cond (Nat.beq id 2) [(3, 1500, 3, 1)] [] } (invs [(3, liI xs)]) 6 Try.f23 [.ptr 0 0] [.cells [.sl 1 false xs, .int .i64 i]] (fun r2 bs2 => ∃ (ys : List (List AV)) (n j : Int), (LiQ ys j) ∧ le r2 (.agg [.sl 1 false ys, .int .i64 n]) ∧ leBs bs2 [.cells [.sl 1 false xs, .int .i64 j]])
set_option maxRecDepth 100000 in
theorem blist_e : blist_T = blist_S := by kernel_rfl
theorem blist_v : blist_S := @Eq.mp (blist_T) (blist_S) (blist_e) blist_P
theorem blist_ok (gl : Glob) : QOK Try.prog gl 23 blist_s := by
  refine ⟨fok Try.func23 (by kernel_rfl) (by kernel_rfl), ?_⟩
  intro xs bs T h K hT
  unfold blist_s at h
  split at h
  · simp only [Option.some.injEq] at h
    subst h
    obtain ⟨hp, hK⟩ := hT
    obtain ⟨r, bs2, ⟨o0, o1, o2, hq, hl, hb⟩, hC⟩ := fnQ_sound tyNil (by exact specOK rfl rfl trivial ⟨(rbofO_ok gl), trivial⟩ (d := qsOf rfl ⟨(qn_ok gl), (qrange_ok gl), trivial⟩)) (by kernel_rfl) Try.func23 (blist_v gl _ _ hp)
    exact ⟨_, _, hK o0 o1 o2 hq, hC.le hl hb⟩
  · cases h
end Go.Proofs.Ytkbfldgebcpigaa
