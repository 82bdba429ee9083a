/- The law about learned climates. -/
import Derived.Test.YtceknalhogbbnaaDoorSeN
namespace Go.Proofs.YtceknalhogbbnaaDoor
open Go
set_option linter.unusedVariables false
set_option linter.unusedSimpArgs false

theorem look_row {ys : List (List AV)} {e f a b c t : Int} {k : Nat} (hc : cvE ys = 0) (hv : Vld f a b c) (hn : isN f a b c = true) (ht : 0 ≤ t ∧ t ≤ 52595999) (hk : k < ys.length) (hm : mtP e f (dtM t) (ys.getD k []) = true) : lkE ys e f a b c t = 0 ∧ ∀ n, lkN ys e f a b c t n = nC n (ys.getD k []) := by
  have ho := (cv_zero hc).2.2.2
  have h1 : lkE ys e f a b c t = 0 := by
    unfold lkE
    rw [if_pos hc, if_pos, isN_face hn, if_pos (any_yes hk hm)]
    rw [Bool.and_eq_true]
    exact ⟨decide_eq_true hv, decide_eq_true (by omega)⟩
  refine ⟨h1, fun n => ?_⟩
  unfold lkN
  rw [if_pos h1, isN_face hn]
  have e2 : ys.findIdx (mtP e f (dtM t)) = k := by
    refine (List.findIdx_eq hk).2 ⟨by rw [← gD2 hk]; exact hm, fun j hj => ?_⟩
    cases hq : mtP e f (dtM t) ys[j] with
    | false => rfl
    | true =>
      have hl := ord_lt ho j k hj hk
      rw [gD2 (by omega)] at hl
      have q1 := of_decide_eq_true hq
      have q2 := of_decide_eq_true hm
      unfold cmpR at hl
      rw [q1.1, q1.2.1, q1.2.2, q2.1, q2.2.1, q2.2.2, cmp3_neg] at hl
      omega
  rw [e2]
theorem rej_row {ys : List (List AV)} {f a b c t : Int} {k : Nat} {r : List AV} (hc : cvE ys = 0) (hv : Vld f a b c) (hn : isN f a b c = true) (ht : 0 ≤ t ∧ t ≤ 52595999) (hk : k < ys.length) (hm : mtP (rE r) f (dtM t) (ys.getD k []) = true) : rejP ys t f a b c r = decide (nC 4 (ys.getD k []) < max (rV r - nC 3 (ys.getD k [])) (nC 3 (ys.getD k []) - rV r)) := by
  obtain ⟨h1, h2⟩ := look_row hc hv hn ht hk hm
  unfold rejP
  rw [h1, h2, h2]
  simp
theorem in_chL {ys rd : List (List AV)} {f a b c t n : Int} {j : Nat} (h : exE ys rd t f a b c = 0) (hr : RdV n rd) (hj : j < rd.length) : inI (chL ys rd t f a b c) (rE (rd.getD j [])) = rejP ys t f a b c (rd.getD j []) := by
  cases hq : rejP ys t f a b c (rd.getD j []) with
  | true =>
    refine List.any_eq_true.2 ⟨rowE (rd.getD j []), ?_, decide_eq_true rfl⟩
    unfold chL chR
    rw [if_pos h]
    exact List.mem_map.2 ⟨_, List.mem_filter.2 ⟨by rw [gD2 hj]; exact List.getElem_mem hj, hq⟩, rfl⟩
  | false =>
    refine any_no fun i hi => ?_
    obtain ⟨k, hk, e, hr2⟩ := chL_at hi
    rw [e]
    refine decide_eq_false fun q => ?_
    have q : rE (rd.getD k []) = rE (rd.getD j []) := q
    rcases Nat.lt_trichotomy k j with h1 | h1 | h1
    · have := hr.fasc k j h1 hj; omega
    · rw [h1, hq] at hr2; cases hr2
    · have := hr.fasc j k h1 hk; omega
/-- A normal with spread 0. -/
def zRow (r : List AV) : List AV := [.int .i64 (nC 0 r), .int .i64 (nC 1 r), .int .i64 (nC 2 r), .int .i64 (nC 3 r), .int .i64 0]
structure LeP1 (ys : List (List AV)) (x : Int × List (List AV)) : Prop where
  flo : 0 ≤ x.1
  fhi : x.1 ≤ ys.length
  fl : x.2.length = ys.length
  fz : ∀ k, k < ys.length → x.2.getD k [] = if (k : Int) < x.1 then zRow (ys.getD k []) else ys.getD k []
structure LeP2 (xs : List (List AV)) (i : Int) : Prop where
  flo : 0 ≤ i
  fhi : i ≤ xs.length
def le1I (rs ys : List (List AV)) : LInv := ⟨Int × List (List AV), fun x => ⟨[(5, .sl 8 false rs), (6, .ptr 6 0), (8, .ptr 8 0), (42, .int .i64 ys.length), (43, .int .i64 x.1)], [(6, .cells [.sl 5 false ys]), (8, .cells [.rw 35 5 ys.length]), (35, .row 43 5 x.2)]⟩, LeP1 ys, fun x => (ys.length - x.1).toNat, none⟩
def le2I (rs ys zs : List (List AV)) : LInv := ⟨Int, fun i => ⟨[(6, .ptr 6 0), (8, .ptr 8 0), (52, .sl 8 false rs), (53, .int .i64 rs.length), (54, .int .i64 i)], [(6, .cells [.sl 5 false ys]), (8, .cells [.sl 5 false zs])]⟩, LeP2 rs, fun i => (rs.length - i).toNat, none⟩
def le3I (rs ys zs L : List (List AV)) (i : Int) (g : Bool) (k : Int) (nm : ByteArray) (t f a b c : Int) (rd : List (List AV)) : LInv := ⟨Int, fun q => ⟨[(6, .ptr 6 0), (8, .ptr 8 0), (11, .ptr 11 0), (14, .sl 1 false L), (52, .sl 8 false rs), (53, .int .i64 rs.length), (54, .int .i64 i), (82, .sl 2 g rd), (83, .int .i64 rd.length), (84, .int .i64 q)], [(6, .cells [.sl 5 false ys]), (8, .cells [.sl 5 false zs]), (11, .cells [.int .i64 k, .str nm, .int .i64 t, .int .i64 f, .int .i64 a, .int .i64 b, .int .i64 c, .sl 2 g rd])]⟩, LeP2 rd, fun q => (rd.length - q).toNat, none⟩
def rowsC : Option Blk → Option (List (List AV))
  | some (.cells [.sl _ _ xs]) => some xs
  | some (.cells [.frz _ _ _ xs]) => some xs
  | _ => none
def leJ (id : Nat) (st : St) : Option LInv :=
  cond (Nat.beq id 9) (match lk st.tmps 5, rowsC (lk st.heap 6) with
    | some (.sl _ _ rs), some ys => some (le1I rs ys)
    | _, _ => none) (cond (Nat.beq id 14) (match lk st.tmps 52, rowsC (lk st.heap 6), rowsC (lk st.heap 8) with
    | some (.sl _ _ rs), some ys, some zs => some (le2I rs ys zs)
    | _, _, _ => none) (cond (Nat.beq id 21) (match lk st.tmps 52, lk st.tmps 54, lk st.tmps 14, rowsC (lk st.heap 6), rowsC (lk st.heap 8), lk st.heap 11 with
    | some (.sl _ _ rs), some (.int _ i), some (.sl _ _ L), some ys, some zs, some (.cells [.int _ k, .str nm, .int _ t, .int _ f, .int _ a, .int _ b, .int _ c, .sl _ g rd]) => some (le3I rs ys zs L i g k nm t f a b c rd)
    | _, _, _, _, _, _ => none) none))
def llearned_s (exE : List (List AV) → List (List AV) → Int → Int → Int → Int → Int → Int) (chL : List (List AV) → List (List AV) → Int → Int → Int → Int → Int → List (List AV)) (farV : List (List AV) → List (List AV) → Int → Int → Int → Int → Int → Int → Int) (farB : List (List AV) → List (List AV) → Int → Int → Int → Int → Int → Int → Bool) : Sp
  | [.sl 1 false xs] => some (IntsA xs, .bool true)
  | _ => none
set_option maxRecDepth 100000 in
def llearned_T (exE : List (List AV) → List (List AV) → Int → Int → Int → Int → Int → Int) (chL : List (List AV) → List (List AV) → Int → Int → Int → Int → Int → List (List AV)) (farV : List (List AV) → List (List AV) → Int → Int → Int → Int → Int → Int → Int) (farB : List (List AV) → List (List AV) → Int → Int → Int → Int → Int → Int → Bool) : Prop :=
  ∀ (xs : List (List AV)), (∀ (x : List AV), List.Mem x xs → ∃ n, x = [AV.int IntKind.i64 n] ∧ rng IntKind.i64 n) → True → True ∧ SrcQ (List.take (2000 : Nat) xs) (0 : Int) ∧ ∀ (m j
  : Int), MinQ m j → (SrcQ (List.take (2000 : Nat) xs) j ∧ ((0 : Int) ≤ m ∧ m ≤ (52595999 : Int)) ∧ (0 : Int) ≤ (6 : Int) ∧ (6 : Int) ≤ (1000 : Int)) ∧ ∀ (ys : List (List AV)) (j :
  Int), PlcQ (6 : Int) ys j → (RpsV ys ∧ ys.length ≤ (1000 : Nat)) ∧ ∀ (ys_1 : List (List AV)) (e : Int), LrnQ ys ys_1 e → bif decide ¬e = (0 : Int) then True ∧ true = true else bif
  decide (ys_1.length = ys_1.length) then bif decide ((0 : Nat) = (0 : Nat) ∧ (0 : Nat) + ys_1.length ≤ (9223372036854775807 : Nat) ∧ ((0 : Nat) + ys_1.length) * (40 : Nat) ≤
  (140737488355328 : Nat)) then (∃ x, LeP1 ys_1 x ∧ ((True ∧ ys = ys) ∧ (0 : Nat) = (0 : Nat) ∧ (0 : Nat) = (0 : Nat) ∧ (↑([] ++ ys_1).length : Int) = (↑ys_1.length : Int) ∧ (0 :
  Int) = x.fst ∧ True) ∧ ((ys_1.length = ys_1.length ∧ ys_1 = ys_1) ∧ True) ∧ (([] ++ ys_1).length = ys_1.length ∧ True) ∧ [] ++ ys_1 = x.snd ∧ True) ∧ ∀ (x : Int × List (List AV)),
  LeP1 ys_1 x → bif decide (x.fst < (↑ys_1.length : Int)) then bif decide ((0 : Int) ≤ x.fst ∧ x.fst < (↑ys_1.length : Int)) then bif decide (ys_1.length = x.snd.length ∧ x.fst.toNat
  < x.snd.length) then bif decide (rng IntKind.i64 (x.fst + (1 : Int))) then ∃ y, LeP1 ys_1 y ∧ (le1I ys ys_1).m y < (le1I ys ys_1).m x ∧ ((True ∧ ys = ys) ∧ (0 : Nat) = (0 : Nat) ∧
  (0 : Nat) = (0 : Nat) ∧ (↑ys_1.length : Int) = (↑ys_1.length : Int) ∧ x.fst + (1 : Int) = y.fst ∧ True) ∧ ((True ∧ ys_1 = ys_1) ∧ True) ∧ (ys_1.length = ys_1.length ∧ True) ∧ setEl
  x.snd x.fst.toNat (4 : Nat) [AV.int IntKind.i64 (0 : Int)] = y.snd ∧ True else False else False else False else (∃ x_1, LeP2 ys x_1 ∧ ((0 : Nat) = (0 : Nat) ∧ (0 : Nat) = (0 : Nat)
  ∧ (True ∧ ys = ys) ∧ (↑ys.length : Int) = (↑ys.length : Int) ∧ (0 : Int) = x_1 ∧ True) ∧ ((True ∧ ys_1 = ys_1) ∧ True) ∧ ((ys_1.length = x.snd.length ∧ x.snd = x.snd) ∧ True) ∧
  True) ∧ ∀ (x_1 : Int), LeP2 ys x_1 → bif decide (x_1 < (↑ys.length : Int)) then bif decide ((0 : Int) ≤ x_1 ∧ x_1 < (↑ys.length : Int)) then ∃ n s n_1 n_2 n_3 n_4 n_5 xs, List.take
  [AV.int IntKind.i64 n, AV.str s, AV.int IntKind.i64 n_1, AV.int IntKind.i64 n_2, AV.int IntKind.i64 n_3, AV.int IntKind.i64 n_4, AV.int IntKind.i64 n_5, AV.sl (2 : Nat) false
  xs].length (ys.getD x_1.toNat []) = [AV.int IntKind.i64 n, AV.str s, AV.int IntKind.i64 n_1, AV.int IntKind.i64 n_2, AV.int IntKind.i64 n_3, AV.int IntKind.i64 n_4, AV.int
  IntKind.i64 n_5, AV.sl (2 : Nat) false xs] ∧ (NrsP ys_1 ∧ RdsP xs) ∧ (NrsP x.snd ∧ RdsP xs) ∧ bif decide ¬YtceknalhogbbnaaDoor.exE ys_1 xs n_1 n_2 n_3 n_4 n_5 = (0 : Int) then
  false = true else bif decide ¬YtceknalhogbbnaaDoor.exE x.snd xs n_1 n_2 n_3 n_4 n_5 = (0 : Int) then false = true else bif decide ((0 : Int) < (↑(YtceknalhogbbnaaDoor.chL ys_1 xs
  n_1 n_2 n_3 n_4 n_5).length : Int)) then false = true else (∃ x_2, LeP2 xs x_2 ∧ ((0 : Nat) = (0 : Nat) ∧ (0 : Nat) = (0 : Nat) ∧ (0 : Nat) = (0 : Nat) ∧ (True ∧
  YtceknalhogbbnaaDoor.chL x.snd xs n_1 n_2 n_3 n_4 n_5 = YtceknalhogbbnaaDoor.chL x.snd xs n_1 n_2 n_3 n_4 n_5) ∧ (True ∧ ys = ys) ∧ (↑ys.length : Int) = (↑ys.length : Int) ∧ x_1 =
  x_1 ∧ (True ∧ xs = xs) ∧ (↑xs.length : Int) = (↑xs.length : Int) ∧ (0 : Int) = x_2 ∧ True) ∧ ((True ∧ ys_1 = ys_1) ∧ True) ∧ ((True ∧ x.snd = x.snd) ∧ True) ∧ (n = n ∧ s = s ∧ n_1
  = n_1 ∧ n_2 = n_2 ∧ n_3 = n_3 ∧ n_4 = n_4 ∧ n_5 = n_5 ∧ (True ∧ xs = xs) ∧ True) ∧ True) ∧ ∀ (x_2 : Int), LeP2 xs x_2 → bif decide (x_2 < (↑xs.length : Int)) then bif decide ((0 :
  Int) ≤ x_2 ∧ x_2 < (↑xs.length : Int)) then ∃ n_6 n_7, List.take [AV.int IntKind.i64 n_6, AV.int IntKind.i64 n_7].length (xs.getD x_2.toNat []) = [AV.int IntKind.i64 n_6, AV.int
  IntKind.i64 n_7] ∧ (NrsP x.snd ∧ RdsP xs) ∧ bif !YtceknalhogbbnaaDoor.farB x.snd xs n_1 n_2 n_3 n_4 n_5 n_6 then false = true else (IntsB (YtceknalhogbbnaaDoor.chL x.snd xs n_1 n_2
  n_3 n_4 n_5) ∧ Ln (YtceknalhogbbnaaDoor.chL x.snd xs n_1 n_2 n_3 n_4 n_5)) ∧ bif !decide ((decide ¬YtceknalhogbbnaaDoor.farV x.snd xs n_1 n_2 n_3 n_4 n_5 n_6 = (0 : Int)) = inI
  (YtceknalhogbbnaaDoor.chL x.snd xs n_1 n_2 n_3 n_4 n_5) n_6) then false = true else bif decide (rng IntKind.i64 (x_2 + (1 : Int))) then ∃ y, LeP2 xs y ∧ (le3I ys ys_1 x.snd
  (YtceknalhogbbnaaDoor.chL x.snd xs n_1 n_2 n_3 n_4 n_5) x_1 false n s n_1 n_2 n_3 n_4 n_5 xs).m y < (le3I ys ys_1 x.snd (YtceknalhogbbnaaDoor.chL x.snd xs n_1 n_2 n_3 n_4 n_5) x_1
  false n s n_1 n_2 n_3 n_4 n_5 xs).m x_2 ∧ ((0 : Nat) = (0 : Nat) ∧ (0 : Nat) = (0 : Nat) ∧ (0 : Nat) = (0 : Nat) ∧ (True ∧ YtceknalhogbbnaaDoor.chL x.snd xs n_1 n_2 n_3 n_4 n_5 =
  YtceknalhogbbnaaDoor.chL x.snd xs n_1 n_2 n_3 n_4 n_5) ∧ (True ∧ ys = ys) ∧ (↑ys.length : Int) = (↑ys.length : Int) ∧ x_1 = x_1 ∧ (True ∧ xs = xs) ∧ (↑xs.length : Int) =
  (↑xs.length : Int) ∧ x_2 + (1 : Int) = y ∧ True) ∧ ((True ∧ ys_1 = ys_1) ∧ True) ∧ ((True ∧ x.snd = x.snd) ∧ True) ∧ (n = n ∧ s = s ∧ n_1 = n_1 ∧ n_2 = n_2 ∧ n_3 = n_3 ∧ n_4 = n_4
  ∧ n_5 = n_5 ∧ (True ∧ xs = xs) ∧ True) ∧ True else False else False else bif decide (rng IntKind.i64 (x_1 + (1 : Int))) then ∃ y, LeP2 ys y ∧ (le2I ys ys_1 x.snd).m y < (le2I ys
  ys_1 x.snd).m x_1 ∧ ((0 : Nat) = (0 : Nat) ∧ (0 : Nat) = (0 : Nat) ∧ (True ∧ ys = ys) ∧ (↑ys.length : Int) = (↑ys.length : Int) ∧ x_1 + (1 : Int) = y ∧ True) ∧ ((True ∧ ys_1 =
  ys_1) ∧ True) ∧ ((True ∧ x.snd = x.snd) ∧ True) ∧ True else False else False else True ∧ true = true else False else False
set_option maxRecDepth 100000 in
theorem llearned_P : llearned_T exE chL farV farB := by
  unfold llearned_T
  intro xs hz0 _
  have hz : IntsA xs := hz0
  have hs : SrcI (List.take 2000 xs) := SrcI.take hz
  refine ⟨trivial, ⟨hs, by decide⟩, fun m j q1 => ⟨⟨⟨hs, q1.fj⟩, q1.fm, by decide, by decide⟩, fun rs j q2 => ⟨⟨q2.fr, by have := q2.fl; omega⟩, fun ys e q3 => cs (fun _ => ⟨trivial, rfl⟩) (fun he => ?_)⟩⟩⟩
  have he := Decidable.not_not.1 he
  have hC := q3.fc he
  have hl := q3.fl
  have hrow : ∀ k, k < ys.length → ∃ e g q a s : Int, ys.getD k [] = [.int .i64 e, .int .i64 g, .int .i64 q, .int .i64 a, .int .i64 s] ∧ (1 ≤ e ∧ e ≤ 11) ∧ (0 ≤ g ∧ g < 20) ∧ (1 ≤ q ∧ q ≤ 12) ∧ (-10000 ≤ a ∧ a ≤ 20000) ∧ 0 ≤ s ∧ s ≤ 20000 := by
    intro k hk
    obtain ⟨e, g, q, a, s, h1, h2, h3, h4, h5, h6, _⟩ := q3.fn.frow k hk
    exact ⟨e, g, q, a, s, h1, h2, h3, h4, by omega, by omega⟩
  obtain ⟨hcy, hny⟩ := cv_ok hl hrow q3.fn.ford
  refine cd1 rfl (cd1 ⟨rfl, by omega, by omega⟩ ⟨⟨(0, ys), ⟨by simp, by simp, rfl, fun k hk => by rw [if_neg (by simp only; omega)]⟩, ⟨⟨trivial, rfl⟩, rfl, rfl, rfl, rfl, trivial⟩, ⟨⟨rfl, rfl⟩, trivial⟩, ⟨rfl, trivial⟩, rfl, trivial⟩, ?_⟩)
  rintro ⟨i, zs⟩ ⟨i0, i1, zl, hz⟩
  simp only at i0 i1 zl hz
  dsimp only
  refine cs (fun hi => cd1 (by omega) (cd1 (by omega) (cdI (by omega) ⟨(i + 1, setEl zs i.toNat 4 [.int .i64 0]), ⟨by simp only; omega, by simp only; omega, (List.length_set ..).trans zl, fun k hk => ?_⟩, by simp only [le1I]; omega, ⟨⟨trivial, rfl⟩, rfl, rfl, rfl, rfl, trivial⟩, ⟨⟨trivial, rfl⟩, trivial⟩, ⟨rfl, trivial⟩, rfl, trivial⟩))) (fun hi => ?_)
  · have hik : i.toNat < zs.length := by omega
    have e0 := hz i.toNat (by omega)
    rw [if_neg (by omega)] at e0
    obtain ⟨e, g, q, a, s, h1, _⟩ := hrow i.toNat (by omega)
    have e1 : setEl zs i.toNat 4 [.int .i64 0] = zs.set i.toNat (zRow (ys.getD i.toNat [])) := by unfold setEl; rw [e0, h1]; rfl
    simp only
    rw [e1, gD_set hik]
    by_cases hki : k = i.toNat
    · rw [if_pos hki, if_pos (by omega), hki]
    · rw [if_neg hki, hz k hk]
      by_cases hlt : (k : Int) < i
      · rw [if_pos hlt, if_pos (by omega)]
      · rw [if_neg hlt, if_neg (by omega)]
  have hz2 : ∀ k, k < ys.length → zs.getD k [] = zRow (ys.getD k []) := fun k hk => by rw [hz k hk, if_pos (by omega)]
  obtain ⟨hcz, hnz⟩ := cv_ok (ys := zs) (by omega) (fun k hk => by
    obtain ⟨e, g, q, a, s, h1, h2, h3, h4, h5, _⟩ := hrow k (by omega)
    exact ⟨e, g, q, a, 0, by rw [hz2 k (by omega), h1]; rfl, h2, h3, h4, h5, by omega⟩) (ord_key zl (fun k hk => by rw [hz2 k hk]; exact ⟨rfl, rfl, rfl⟩) q3.fn.ford)
  have rl := q2.fl
  refine ⟨⟨0, ⟨by decide, by omega⟩, ⟨rfl, rfl, ⟨trivial, rfl⟩, rfl, rfl, trivial⟩, ⟨⟨trivial, rfl⟩, trivial⟩, ⟨⟨zl.symm, rfl⟩, trivial⟩, trivial⟩, ?_⟩
  rintro i ⟨r0, r1⟩
  refine cs (fun hri => cd1 (by omega) ?_) (fun _ => ⟨trivial, rfl⟩)
  have hri : i.toNat < rs.length := by omega
  obtain ⟨k, nm, t, f, a, b, c, rd, hx, hf⟩ := q2.fr.frow i.toNat hri
  obtain ⟨hrd, hvd⟩ := rdV_ok hf.fr
  have hey := ex_ok hcy hvd hf.fv hf.ft
  have hez := ex_ok hcz hvd hf.fv hf.ft
  have hN : ∀ j, j < rd.length → HasN ys (rE (rd.getD j [])) f (dtM t) (rV (rd.getD j [])) := by
    intro j hj
    have h := hC.fc i.toNat hri j
    rw [hx] at h
    refine h hj ?_
    obtain ⟨e, v, h1, h2, _⟩ := hf.fr.frow j hj
    have h1 : rE (rd.getD j []) = e := by rw [h1]; rfl
    have h1 : rE ((rpR (rpA k nm t f a b c rd)).getD j []) = e := h1
    unfold ltK
    omega
  have hLy : (chL ys rd t f a b c).length = 0 := by
    rcases Nat.eq_zero_or_pos (chL ys rd t f a b c).length with h | h
    · exact h
    · obtain ⟨z, hz, _, hr⟩ := chL_at h
      obtain ⟨k, hk, hm, hv⟩ := hN z hz
      rw [rej_row hcy hf.fv hf.fi hf.ft hk hm] at hr
      have hr := of_decide_eq_true hr
      omega
  have rdl := hrd.sm
  refine ⟨k, nm, t, f, a, b, c, rd, by rw [hx]; rfl, ⟨hny, hrd⟩, ⟨hnz, hrd⟩, cs (fun q => absurd hey q) (fun _ => cs (fun q => absurd hez q) (fun _ => cs (fun q => by omega) (fun _ => ⟨⟨0, ⟨by decide, by omega⟩, ⟨rfl, rfl, rfl, ⟨trivial, rfl⟩, ⟨trivial, rfl⟩, rfl, rfl, ⟨trivial, rfl⟩, rfl, rfl, trivial⟩, ⟨⟨trivial, rfl⟩, trivial⟩, ⟨⟨trivial, rfl⟩, trivial⟩, ⟨rfl, rfl, rfl, rfl, rfl, rfl, rfl, ⟨trivial, rfl⟩, trivial⟩, trivial⟩, ?_⟩)))⟩
  rintro j ⟨j0, j1⟩
  refine cs (fun hj => cd1 (by omega) ?_) (fun _ => cdI (by omega) ⟨i + 1, ⟨by omega, by omega⟩, by simp only [le2I]; omega, ⟨rfl, rfl, ⟨trivial, rfl⟩, rfl, rfl, trivial⟩, ⟨⟨trivial, rfl⟩, trivial⟩, ⟨⟨trivial, rfl⟩, trivial⟩, trivial⟩)
  have hj : j.toNat < rd.length := by omega
  obtain ⟨ky, hk, hm, _⟩ := hN j.toNat hj
  have hmz : mtP (rE (rd.getD j.toNat [])) f (dtM t) (zs.getD ky []) = true := by rw [hz2 ky hk]; exact hm
  have hkz : ky < zs.length := by omega
  obtain ⟨l1, l2⟩ := look_row hcz hf.fv hf.fi hf.ft hkz hmz
  obtain ⟨fb, fv⟩ := find_at hf.fr hj
  have hfar : farB zs rd t f a b c (rE (rd.getD j.toNat [])) = true := decide_eq_true ⟨hez, fb, l1⟩
  have hrej := rej_row hcz hf.fv hf.fi hf.ft hkz hmz
  refine ⟨rE (rd.getD j.toNat []), rV (rd.getD j.toNat []), rd_take hrd hj, ⟨hnz, hrd⟩, csplit (fun q => by rw [hfar] at q; cases q) (fun _ => ⟨chL_ints hrd, csplit (fun q => ?_) (fun _ => ?_)⟩)⟩
  · exfalso
    rw [in_chL hez hf.fr hj, hrej, hz2 ky hk] at q
    unfold farV at q
    rw [hfar, if_pos rfl, fv, l2, hz2 ky hk] at q
    rw [Bool.not_eq_true'] at q
    have q := of_decide_eq_false q
    refine q (decide_eq_decide.2 ?_)
    have e3 : nC 3 (zRow (ys.getD ky [])) = nC 3 (ys.getD ky []) := rfl
    have e4 : nC 4 (zRow (ys.getD ky [])) = 0 := rfl
    rw [e3, e4]
    omega
  · exact cdI (by omega) ⟨j + 1, ⟨by omega, by omega⟩, by simp only [le3I]; omega, ⟨rfl, rfl, rfl, ⟨trivial, rfl⟩, ⟨trivial, rfl⟩, rfl, rfl, ⟨trivial, rfl⟩, rfl, rfl, trivial⟩, ⟨⟨trivial, rfl⟩, trivial⟩, ⟨⟨trivial, rfl⟩, trivial⟩, ⟨rfl, rfl, rfl, rfl, rfl, rfl, rfl, ⟨trivial, rfl⟩, trivial⟩, trivial⟩
def llearned_S (exE : List (List AV) → List (List AV) → Int → Int → Int → Int → Int → Int) (chL : List (List AV) → List (List AV) → Int → Int → Int → Int → Int → List (List AV)) (farV : List (List AV) → List (List AV) → Int → Int → Int → Int → Int → Int → Int) (farB : List (List AV) → List (List AV) → Int → Int → Int → Int → Int → Int → Bool) : Prop := ∀ (xs : List (List AV)), IntsA xs → fnK Tryd.prog { glob := glb, spec := lk [(8, (sawake_s Go.Proofs.YtceknalhogbbnaaDoor.exE Go.Proofs.YtceknalhogbbnaaDoor.chL Go.Proofs.YtceknalhogbbnaaDoor.farV Go.Proofs.YtceknalhogbbnaaDoor.farB)), (17, (scheck_s Go.Proofs.YtceknalhogbbnaaDoor.exE Go.Proofs.YtceknalhogbbnaaDoor.lkE Go.Proofs.YtceknalhogbbnaaDoor.lkN)), (20, sfar_s), (22, kin_s)], specH := lk [(9, newsrc_s)], specQ := lk [(10, qminute_s), (11, qplaced_s), (12, qlearn_s)], shape := [57, 87], slz := [(57, [2])], nowf := true } { nt := 110, drop := drp [(1, 3145728), (2, 12582912), (3, 117440512), (4, 4160749568), (5, 4294967296), (6, 17179869184), (7, 1065151889408), (8, 3298534883328), (10, 35184372088832), (11, 2181431069507584), (12, 2251799813685248), (15, 216172782113783808), (16, 18158513697557839872), (17, 1162144876643701751808), (18, 1207745227993911763402752), (20, 2417851639229258349412352), (22, 232113757366008801543585792), (23, 78918677504442992524819169280), (24, 81050410252092417358195461193728), (26, 162259276829213363391578010288128), (27, 324518553658426726783156020576256), (28, 649037107316853453566312041152512)], frz := fun id => cond (Nat.beq id 7) [1000029] (cond (Nat.beq id 13) [1000035] []) } (leJ) 6 Tryd.f4 [.sl 1 false xs] (.bool true)
set_option maxRecDepth 100000 in
theorem llearned_e (exE : List (List AV) → List (List AV) → Int → Int → Int → Int → Int → Int) (chL : List (List AV) → List (List AV) → Int → Int → Int → Int → Int → List (List AV)) (farV : List (List AV) → List (List AV) → Int → Int → Int → Int → Int → Int → Int) (farB : List (List AV) → List (List AV) → Int → Int → Int → Int → Int → Int → Bool) : llearned_T exE chL farV farB = llearned_S exE chL farV farB := by kernel_rfl
theorem llearned_v : llearned_S exE chL farV farB := @Eq.mp (llearned_T exE chL farV farB) (llearned_S exE chL farV farB) (llearned_e exE chL farV farB) llearned_P
theorem llearned_ok : SOK Tryd.prog glb 4 (llearned_s exE chL farV farB) := by
  refine ⟨fok Tryd.func4 (by kernel_rfl) (by kernel_rfl), ?_⟩
  intro xs pre r h hp
  unfold llearned_s at h
  split at h
  · simp only [Option.some.injEq, Prod.mk.injEq] at h
    obtain ⟨h1, h2⟩ := h
    subst h1 h2
    exact fnK_sound tyNil (by exact specOK rfl rfl ⟨(sawake_ok), (scheck_ok), (sfar_ok), (kin_ok glb), trivial⟩ ⟨(newsrc_ok glb), trivial⟩ (d := qsOf rfl ⟨(qminute_ok glb), (qplaced_ok glb), (qlearn_ok glb), trivial⟩)) (by kernel_rfl) Tryd.func4 rfl (llearned_v  _ hp)
  · cases h
end Go.Proofs.YtceknalhogbbnaaDoor
