/- Seasons: Check and Far, the program's and the reference's. -/
import Derived.Test.YtceknalhogbbnaaDoorSeB
import Derived.Test.YtceknalhogbbnaaDoorKi
namespace Go.Proofs.YtceknalhogbbnaaDoor
open Go
set_option linter.unusedVariables false
set_option linter.unusedSimpArgs false

def exE (xs rd : List (List AV)) (t f a b c : Int) : Int := if cvE xs = 0 then (if vdE rd = 0 then (if vld f a b c && inB t then 0 else 1) else vdE rd) else cvE xs
def rejP (xs : List (List AV)) (t f a b c : Int) (r : List AV) : Bool := decide (lkE xs (rE r) f a b c t = 0 ∧ lkN xs (rE r) f a b c t 4 < max (rV r - lkN xs (rE r) f a b c t 3) (lkN xs (rE r) f a b c t 3 - rV r))
def rowE (r : List AV) : List AV := [.int .i64 (rE r)]
def chR (xs rd : List (List AV)) (t f a b c : Int) : List (List AV) := (rd.filter (rejP xs t f a b c)).map rowE
def chL (xs rd : List (List AV)) (t f a b c : Int) : List (List AV) := if exE xs rd t f a b c = 0 then chR xs rd t f a b c else []
theorem vd_zero {rd : List (List AV)} (h : vdE rd = 0) : (∀ i, i < rd.length → (1 ≤ rE (rd.getD i []) ∧ rE (rd.getD i []) ≤ 11) ∧ -1000 ≤ rV (rd.getD i []) ∧ rV (rd.getD i []) ≤ 11000) ∧ rd.length ≤ 11 := by
  unfold vdE at h
  split at h
  · omega
  · split at h
    · omega
    · split at h
      · rename_i h4 h1 ha
        have ha := of_decide_eq_true ha
        have each : ∀ i, i < rd.length → (1 ≤ rE (rd.getD i []) ∧ rE (rd.getD i []) ≤ 11) ∧ -1000 ≤ rV (rd.getD i []) ∧ rV (rd.getD i []) ≤ 11000 := by
          intro i hi
          have k4 : ckP 4 (rd.getD i []) = false := by
            cases e : ckP 4 (rd.getD i []) with
            | false => rfl
            | true => exact absurd (any_yes hi e) h4
          have k1 : ckP 1 (rd.getD i []) = false := by
            cases e : ckP 1 (rd.getD i []) with
            | false => rfl
            | true => exact absurd (any_yes hi e) h1
          have k4 := of_decide_eq_false k4
          have k1 := of_decide_eq_false k1
          unfold ck at k4 k1
          cases ho : okC (rE (rd.getD i [])) with
          | false => rw [ho] at k4; exact absurd rfl k4
          | true =>
            rw [ho, if_pos rfl] at k1
            have ho : 1 ≤ rE (rd.getD i []) ∧ rE (rd.getD i []) ≤ 11 := of_decide_eq_true ho
            have b := in_bd ho
            refine ⟨ho, ?_⟩
            split at k1
            · exact absurd rfl k1
            · omega
        refine ⟨each, ?_⟩
        have lo : ∀ i : Nat, i < rd.length → (i : Int) + 1 ≤ rE (rd.getD i []) := by
          intro i
          induction i with
          | zero => intro hi; have := (each 0 hi).1; omega
          | succ i ih =>
            intro hi
            have := ih (by omega)
            have h2 := (ha (i + 1) hi).resolve_left (by omega)
            rw [Nat.add_sub_cancel] at h2
            omega
        rcases Nat.lt_or_ge rd.length 12 with k | k
        · omega
        · have := lo 11 (by omega)
          have := (each 11 (by omega)).1
          omega
      · omega
theorem lk_bd {xs : List (List AV)} (hp : NrsP xs) {e f a b c t : Int} (h : lkE xs e f a b c t = 0) : (-10000 ≤ lkN xs e f a b c t 3 ∧ lkN xs e f a b c t 3 ≤ 20000) ∧ 0 ≤ lkN xs e f a b c t 4 ∧ lkN xs e f a b c t 4 ≤ 20000 := by
  have h' := h
  unfold lkE at h'
  split at h'
  · rename_i h0
    obtain ⟨_, _, z3, _⟩ := cv_zero h0
    split at h'
    · split at h'
      · rename_i hany
        obtain ⟨x, hx, hm⟩ := List.any_eq_true.1 hany
        have hl : xs.findIdx (mtP e (nrm f a b c).1 (dtM t)) < xs.length := List.findIdx_lt_length_of_exists ⟨x, hx, hm⟩
        unfold lkN
        rw [if_pos h, if_pos h]
        have hg : rgP (xs.getD (xs.findIdx (mtP e (nrm f a b c).1 (dtM t))) []) = false := by
          cases q : rgP (xs.getD (xs.findIdx (mtP e (nrm f a b c).1 (dtM t))) []) with
          | false => rfl
          | true => have := any_yes hl q; rw [z3] at this; cases this
        unfold rgP rgB at hg
        rw [Bool.not_eq_false', decide_eq_true_eq] at hg
        omega
      · omega
    · omega
  · rename_i h0
    exact absurd h' h0
theorem ex_zero {xs rd : List (List AV)} {t f a b c : Int} (h : exE xs rd t f a b c = 0) : cvE xs = 0 ∧ vdE rd = 0 ∧ vld f a b c = true ∧ inB t = true := by
  unfold exE at h
  split at h
  · split at h
    · split at h
      · rename_i h1 h2 h3
        simp only [Bool.and_eq_true] at h3
        exact ⟨h1, h2, h3⟩
      · omega
    · rename_i h2; exact absurd h h2
  · rename_i h1; exact absurd h h1
theorem rd_take {rd : List (List AV)} (hp : RdsP rd) {i : Nat} (h : i < rd.length) : List.take 2 (rd.getD i []) = [.int .i64 (rE (rd.getD i [])), .int .i64 (rV (rd.getD i []))] := by
  obtain ⟨e, v, he, _⟩ := hp.row i h
  rw [he]; rfl
theorem take_succ' {α : Type} {l : List α} {i : Nat} {d : α} (h : i < l.length) : l.take (i + 1) = l.take i ++ [l.getD i d] := by
  rw [List.take_add_one, List.getD_eq_getElem?_getD, List.getElem?_eq_getElem h]; rfl
theorem chR_step {xs rd : List (List AV)} {t f a b c : Int} {i : Nat} (h : i < rd.length) : chR xs (rd.take (i + 1)) t f a b c = if rejP xs t f a b c (rd.getD i []) then chR xs (rd.take i) t f a b c ++ [rowE (rd.getD i [])] else chR xs (rd.take i) t f a b c := by
  unfold chR
  rw [take_succ' (d := []) h, List.filter_append, List.map_append]
  generalize rd.getD i [] = r
  cases hr : rejP xs t f a b c r with
  | true => simp [List.filter, hr]
  | false => simp [List.filter, hr]
theorem chR_len {xs rd : List (List AV)} {t f a b c : Int} (n : Nat) : (chR xs (rd.take n) t f a b c).length ≤ rd.length := by
  unfold chR
  rw [List.length_map]
  exact Nat.le_trans (List.length_filter_le _ _) (by rw [List.length_take]; omega)
def sexam_s (cvE : List (List AV) → Int) (vdE : List (List AV) → Int) : Sp
  | [.agg [.sl 5 g xs], .agg [.int .i64 k, .str nm, .int .i64 t, .int .i64 f, .int .i64 a, .int .i64 b, .int .i64 c, .sl 2 h rd]] => some (NrsP xs ∧ RdsP rd, .int .i64 (exE xs rd t f a b c))
  | _ => none
set_option maxRecDepth 100000 in
def sexam_T (cvE : List (List AV) → Int) (vdE : List (List AV) → Int) : Prop :=
  ∀ (g h : Bool) (xs rd : List (List AV)) (k t f a b c : Int) (nm : ByteArray), NrsP xs ∧ RdsP rd → True ∧ True → ((-9223372036854775808 : Int) ≤ k ∧ k ≤ (9223372036854775807 : Int))
  ∧ nm.size.le (9223372036854775807 : Nat) ∧ ((-9223372036854775808 : Int) ≤ t ∧ t ≤ (9223372036854775807 : Int)) ∧ ((-9223372036854775808 : Int) ≤ f ∧ f ≤ (9223372036854775807 :
  Int)) ∧ ((-9223372036854775808 : Int) ≤ a ∧ a ≤ (9223372036854775807 : Int)) ∧ ((-9223372036854775808 : Int) ≤ b ∧ b ≤ (9223372036854775807 : Int)) ∧ ((-9223372036854775808 : Int)
  ≤ c ∧ c ≤ (9223372036854775807 : Int)) ∧ True ∧ True → NrsP xs ∧ bif decide ¬YtceknalhogbbnaaDoor.cvE xs = (0 : Int) then YtceknalhogbbnaaDoor.cvE xs = exE xs rd t f a b c else
  RdsP rd ∧ bif decide ¬YtceknalhogbbnaaDoor.vdE rd = (0 : Int) then YtceknalhogbbnaaDoor.vdE rd = exE xs rd t f a b c else True ∧ bif !vld f a b c then (1 : Int) = exE xs rd t f a b
  c else bif decide (t < (0 : Int)) then (1 : Int) = exE xs rd t f a b c else bif decide ((52595999 : Int) < t) then (1 : Int) = exE xs rd t f a b c else (0 : Int) = exE xs rd t f a
  b c
set_option maxRecDepth 100000 in
theorem sexam_P : sexam_T cvE vdE := by
  unfold sexam_T
  intro g h xs rd k t f a b c nm ⟨hp, hr⟩ _ _
  refine ⟨hp, cs (fun q => ?_) (fun q => ⟨hr, cs (fun q2 => ?_) (fun q2 => ⟨trivial, ?_⟩)⟩)⟩
  · unfold exE; rw [if_neg q]
  · unfold exE; rw [if_pos (Decidable.not_not.1 q), if_neg q2]
  have e0 : exE xs rd t f a b c = if vld f a b c && inB t then 0 else 1 := by
    unfold exE; rw [if_pos (Decidable.not_not.1 q), if_pos (Decidable.not_not.1 q2)]
  rw [e0]
  cases hv : vld f a b c with
  | false => exact rfl
  | true =>
    simp only [Bool.not_true, cond_false, Bool.true_and]
    unfold inB
    refine cs (fun z => ?_) (fun z => cs (fun z2 => ?_) (fun z2 => ?_))
    · rw [decide_eq_false (by omega)]; rfl
    · rw [decide_eq_false (by omega)]; rfl
    · rw [decide_eq_true (by omega)]; rfl
def sexam_S (cvE : List (List AV) → Int) (vdE : List (List AV) → Int) : Prop := ∀ (g h : Bool) (xs rd : List (List AV)) (k t f a b c : Int) (nm : ByteArray), NrsP xs ∧ RdsP rd → fnK Tryd.prog { glob := glb, spec := lk [(50, (cValid_s Go.Proofs.YtceknalhogbbnaaDoor.kdP Go.Proofs.YtceknalhogbbnaaDoor.rgP Go.Proofs.YtceknalhogbbnaaDoor.cmp3)), (51, (evalid_s Go.Proofs.YtceknalhogbbnaaDoor.vdE)), (52, (valid_s Go.Proofs.YtceknalhogbbnaaDoor.vld))], specH := lk [], nowf := true } { nt := 32, drop := drp [(1, 384), (2, 512), (3, 2048), (4, 28672), (5, 32768), (6, 131072), (7, 2147221504)] } (fun _ _ => none) 6 Tryd.f39 [.agg [.sl 5 g xs], .agg [.int .i64 k, .str nm, .int .i64 t, .int .i64 f, .int .i64 a, .int .i64 b, .int .i64 c, .sl 2 h rd]] (.int .i64 (exE xs rd t f a b c))
set_option maxRecDepth 100000 in
theorem sexam_e (cvE : List (List AV) → Int) (vdE : List (List AV) → Int) : sexam_T cvE vdE = sexam_S cvE vdE := by kernel_rfl
theorem sexam_v : sexam_S cvE vdE := @Eq.mp (sexam_T cvE vdE) (sexam_S cvE vdE) (sexam_e cvE vdE) sexam_P
theorem sexam_ok : SOK Tryd.prog glb 39 (sexam_s cvE vdE) := by
  refine ⟨fok Tryd.func39 (by kernel_rfl) (by kernel_rfl), ?_⟩
  intro xs pre r h hp
  unfold sexam_s at h
  split at h
  · simp only [Option.some.injEq, Prod.mk.injEq] at h
    obtain ⟨h1, h2⟩ := h
    subst h1 h2
    exact fnK_sound tyNil (by exact specOK rfl rfl ⟨(cValid_ok), (evalid_ok), (valid_ok glb), trivial⟩ trivial) (by kernel_rfl) Tryd.func39 rfl (sexam_v  _ _ _ _ _ _ _ _ _ _ _ hp)
  · cases h
structure ChkP (xs rd : List (List AV)) (t f a b c : Int) (x : Int × List (List AV)) : Prop where
  flo : 0 ≤ x.1
  fhi : x.1 ≤ rd.length
  fy : x.2 = chR xs (rd.take x.1.toNat) t f a b c
def chkL (g h : Bool) (xs rd : List (List AV)) (k t f a b c : Int) (nm : ByteArray) : LInv := ⟨Int × List (List AV), fun x => ⟨[(2, .ptr 2 0), (3, .ptr 3 0), (5, .int .i64 0), (7, .rw 500 1 x.2.length), (19, .sl 2 h rd), (20, .int .i64 rd.length), (21, .int .i64 x.1)], [(2, .cells [.sl 5 g xs]), (3, .cells [.int .i64 k, .str nm, .int .i64 t, .int .i64 f, .int .i64 a, .int .i64 b, .int .i64 c, .sl 2 h rd]), (500, .row 3 1 x.2)]⟩, ChkP xs rd t f a b c, fun x => (rd.length - x.1).toNat, none⟩
def scheck_s (exE : List (List AV) → List (List AV) → Int → Int → Int → Int → Int → Int) (lkE : List (List AV) → Int → Int → Int → Int → Int → Int → Int) (lkN : List (List AV) → Int → Int → Int → Int → Int → Int → Nat → Int) : Sp
  | [.agg [.sl 5 g xs], .agg [.int .i64 k, .str nm, .int .i64 t, .int .i64 f, .int .i64 a, .int .i64 b, .int .i64 c, .sl 2 h rd]] => some (NrsP xs ∧ RdsP rd, .tup [.sl 1 false (chL xs rd t f a b c), .int .i64 (exE xs rd t f a b c)])
  | _ => none
set_option maxRecDepth 100000 in
def scheck_T (exE : List (List AV) → List (List AV) → Int → Int → Int → Int → Int → Int) (lkE : List (List AV) → Int → Int → Int → Int → Int → Int → Int) (lkN : List (List AV) → Int → Int → Int → Int → Int → Int → Nat → Int) : Prop :=
  ∀ (g h : Bool) (xs rd : List (List AV)) (k t f a b c : Int) (nm : ByteArray), NrsP xs ∧ RdsP rd → True ∧ True → ((-9223372036854775808 : Int) ≤ k ∧ k ≤ (9223372036854775807 : Int))
  ∧ nm.size.le (9223372036854775807 : Nat) ∧ ((-9223372036854775808 : Int) ≤ t ∧ t ≤ (9223372036854775807 : Int)) ∧ ((-9223372036854775808 : Int) ≤ f ∧ f ≤ (9223372036854775807 :
  Int)) ∧ ((-9223372036854775808 : Int) ≤ a ∧ a ≤ (9223372036854775807 : Int)) ∧ ((-9223372036854775808 : Int) ≤ b ∧ b ≤ (9223372036854775807 : Int)) ∧ ((-9223372036854775808 : Int)
  ≤ c ∧ c ≤ (9223372036854775807 : Int)) ∧ True ∧ True → (NrsP xs ∧ RdsP rd) ∧ bif decide ¬YtceknalhogbbnaaDoor.exE xs rd t f a b c = (0 : Int) then chL xs rd t f a b c = [] ∧
  YtceknalhogbbnaaDoor.exE xs rd t f a b c = exE xs rd t f a b c ∧ True else (∃ x, ChkP xs rd t f a b c x ∧ ((0 : Nat) = (0 : Nat) ∧ (0 : Nat) = (0 : Nat) ∧ (0 : Int) = (0 : Int) ∧
  (0 : Nat) = x.snd.length ∧ ((bif h then h = true else True) ∧ rd = rd) ∧ (↑rd.length : Int) = (↑rd.length : Int) ∧ (0 : Int) = x.fst ∧ True) ∧ (((bif g then g = true else True) ∧
  xs = xs) ∧ True) ∧ (k = k ∧ nm = nm ∧ t = t ∧ f = f ∧ a = a ∧ b = b ∧ c = c ∧ ((bif h then h = true else True) ∧ rd = rd) ∧ True) ∧ [] = x.snd ∧ True) ∧ ∀ (x : Int × List (List
  AV)), ChkP xs rd t f a b c x → bif decide (x.fst < (↑rd.length : Int)) then bif decide ((0 : Int) ≤ x.fst ∧ x.fst < (↑rd.length : Int)) then ∃ n n_1, List.take [AV.int IntKind.i64
  n, AV.int IntKind.i64 n_1].length (rd.getD x.fst.toNat []) = [AV.int IntKind.i64 n, AV.int IntKind.i64 n_1] ∧ NrsP xs ∧ bif decide (YtceknalhogbbnaaDoor.lkE xs n f a b c t = (0 :
  Int)) then bif decide (rng IntKind.i64 (n_1 - YtceknalhogbbnaaDoor.lkN xs n f a b c t (3 : Nat))) then bif decide (rng IntKind.i64 (YtceknalhogbbnaaDoor.lkN xs n f a b c t (3 :
  Nat) - n_1)) then bif decide (YtceknalhogbbnaaDoor.lkN xs n f a b c t (4 : Nat) < max (n_1 - YtceknalhogbbnaaDoor.lkN xs n f a b c t (3 : Nat)) (YtceknalhogbbnaaDoor.lkN xs n f a b
  c t (3 : Nat) - n_1)) then bif decide (x.snd.length = x.snd.length ∧ x.snd.length + [[AV.int IntKind.i64 n]].length ≤ (9223372036854775807 : Nat) ∧ (x.snd.length + [[AV.int
  IntKind.i64 n]].length) * (8 : Nat) ≤ (140737488355328 : Nat)) then bif decide (rng IntKind.i64 (x.fst + (1 : Int))) then ∃ y, ChkP xs rd t f a b c y ∧ (chkL g h xs rd k t f a b c
  nm).m y < (chkL g h xs rd k t f a b c nm).m x ∧ ((0 : Nat) = (0 : Nat) ∧ (0 : Nat) = (0 : Nat) ∧ (0 : Int) = (0 : Int) ∧ (x.snd ++ [[AV.int IntKind.i64 n]]).length = y.snd.length ∧
  ((bif h then h = true else True) ∧ rd = rd) ∧ (↑rd.length : Int) = (↑rd.length : Int) ∧ x.fst + (1 : Int) = y.fst ∧ True) ∧ (((bif g then g = true else True) ∧ xs = xs) ∧ True) ∧
  (k = k ∧ nm = nm ∧ t = t ∧ f = f ∧ a = a ∧ b = b ∧ c = c ∧ ((bif h then h = true else True) ∧ rd = rd) ∧ True) ∧ x.snd ++ [[AV.int IntKind.i64 n]] = y.snd ∧ True else False else
  False else bif decide (rng IntKind.i64 (x.fst + (1 : Int))) then ∃ y, ChkP xs rd t f a b c y ∧ (chkL g h xs rd k t f a b c nm).m y < (chkL g h xs rd k t f a b c nm).m x ∧ ((0 :
  Nat) = (0 : Nat) ∧ (0 : Nat) = (0 : Nat) ∧ (0 : Int) = (0 : Int) ∧ x.snd.length = y.snd.length ∧ ((bif h then h = true else True) ∧ rd = rd) ∧ (↑rd.length : Int) = (↑rd.length :
  Int) ∧ x.fst + (1 : Int) = y.fst ∧ True) ∧ (((bif g then g = true else True) ∧ xs = xs) ∧ True) ∧ (k = k ∧ nm = nm ∧ t = t ∧ f = f ∧ a = a ∧ b = b ∧ c = c ∧ ((bif h then h = true
  else True) ∧ rd = rd) ∧ True) ∧ x.snd = y.snd ∧ True else False else False else False else bif decide (rng IntKind.i64 (x.fst + (1 : Int))) then ∃ y, ChkP xs rd t f a b c y ∧ (chkL
  g h xs rd k t f a b c nm).m y < (chkL g h xs rd k t f a b c nm).m x ∧ ((0 : Nat) = (0 : Nat) ∧ (0 : Nat) = (0 : Nat) ∧ (0 : Int) = (0 : Int) ∧ x.snd.length = y.snd.length ∧ ((bif h
  then h = true else True) ∧ rd = rd) ∧ (↑rd.length : Int) = (↑rd.length : Int) ∧ x.fst + (1 : Int) = y.fst ∧ True) ∧ (((bif g then g = true else True) ∧ xs = xs) ∧ True) ∧ (k = k ∧
  nm = nm ∧ t = t ∧ f = f ∧ a = a ∧ b = b ∧ c = c ∧ ((bif h then h = true else True) ∧ rd = rd) ∧ True) ∧ x.snd = y.snd ∧ True else False else False else bif decide (x.snd.length =
  x.snd.length) then (True ∧ x.snd = chL xs rd t f a b c) ∧ (0 : Int) = exE xs rd t f a b c ∧ True else False
set_option maxRecDepth 100000 in
theorem scheck_P : scheck_T exE lkE lkN := by
  unfold scheck_T
  intro g h xs rd k t f a b c nm ⟨hp, hr⟩ _ _
  have bg : cond g (g = true) True := by cases g <;> trivial
  have bh : cond h (h = true) True := by cases h <;> trivial
  refine ⟨⟨hp, hr⟩, cs (fun q => ?_) (fun q => ?_)⟩
  · unfold chL; rw [if_neg q]; exact ⟨rfl, rfl, trivial⟩
  have q := Decidable.not_not.1 q
  obtain ⟨z1, z2, z3, z4⟩ := ex_zero q
  obtain ⟨v1, v2⟩ := vd_zero z2
  refine ⟨⟨(0, []), ⟨by simp, by simp, by simp [chR]⟩, ⟨rfl, rfl, rfl, rfl, ⟨bh, rfl⟩, rfl, rfl, trivial⟩, ⟨⟨bg, rfl⟩, trivial⟩, ⟨rfl, rfl, rfl, rfl, rfl, rfl, rfl, ⟨bh, rfl⟩, trivial⟩, rfl, trivial⟩, ?_⟩
  rintro ⟨i, ys⟩ ⟨h0, h1, hy⟩
  simp only at h0 h1 hy
  dsimp only
  have ly := chR_len (xs := xs) (rd := rd) (t := t) (f := f) (a := a) (b := b) (c := c) i.toNat
  rw [← hy] at ly
  refine cs (fun hl => ?_) (fun hl => ?_)
  · have hl' : i.toNat < rd.length := by omega
    have st := chR_step (xs := xs) (t := t) (f := f) (a := a) (b := b) (c := c) hl'
    rw [← hy] at st
    have ei : (i + 1).toNat = i.toNat + 1 := by omega
    have vb := (v1 _ hl').2
    refine cd1 (by omega) ⟨_, _, rd_take hr hl', hp, ?_⟩
    have no : rejP xs t f a b c (rd.getD i.toNat []) = false → ∃ y : Int × List (List AV), ChkP xs rd t f a b c y ∧ (chkL g h xs rd k t f a b c nm).m y < (chkL g h xs rd k t f a b c nm).m (i, ys) ∧ ((0 : Nat) = 0 ∧ (0 : Nat) = 0 ∧ (0 : Int) = 0 ∧ ys.length = y.snd.length ∧ (cond h (h = true) True ∧ rd = rd) ∧ (rd.length : Int) = rd.length ∧ i + 1 = y.fst ∧ True) ∧ ((cond g (g = true) True ∧ xs = xs) ∧ True) ∧ (k = k ∧ nm = nm ∧ t = t ∧ f = f ∧ a = a ∧ b = b ∧ c = c ∧ (cond h (h = true) True ∧ rd = rd) ∧ True) ∧ ys = y.snd ∧ True := by
      intro hf
      rw [hf] at st
      exact ⟨(i + 1, ys), ⟨by simp only; omega, by simp only; omega, by simp only; rw [ei, st]; rfl⟩, by simp only [chkL]; omega, ⟨rfl, rfl, rfl, rfl, ⟨bh, rfl⟩, rfl, rfl, trivial⟩, ⟨⟨bg, rfl⟩, trivial⟩, ⟨rfl, rfl, rfl, rfl, rfl, rfl, rfl, ⟨bh, rfl⟩, trivial⟩, rfl, trivial⟩
    refine cs (fun e0 => ?_) (fun e0 => cdI (by omega) (no (decide_eq_false fun z => e0 z.1)))
    have lb := lk_bd hp e0
    refine cdI (by omega) (cdI (by omega) (cs (fun e1 => ?_) (fun e1 => cdI (by omega) (no (decide_eq_false fun z => e1 z.2)))))
    have hj : rejP xs t f a b c (rd.getD i.toNat []) = true := decide_eq_true ⟨e0, e1⟩
    rw [hj] at st
    refine cd1 ⟨rfl, by simp; omega, by simp; omega⟩ (cdI (by omega) ⟨(i + 1, ys ++ [rowE (rd.getD i.toNat [])]), ⟨by simp only; omega, by simp only; omega, by simp only; rw [ei, st]; rfl⟩, by simp only [chkL]; omega, ⟨rfl, rfl, rfl, rfl, ⟨bh, rfl⟩, rfl, rfl, trivial⟩, ⟨⟨bg, rfl⟩, trivial⟩, ⟨rfl, rfl, rfl, rfl, rfl, rfl, rfl, ⟨bh, rfl⟩, trivial⟩, rfl, trivial⟩)
  · refine cd1 rfl ⟨⟨trivial, ?_⟩, q.symm, trivial⟩
    unfold chL
    rw [if_pos q, hy, List.take_of_length_le (by omega)]
def scheck_S (exE : List (List AV) → List (List AV) → Int → Int → Int → Int → Int → Int) (lkE : List (List AV) → Int → Int → Int → Int → Int → Int → Int) (lkN : List (List AV) → Int → Int → Int → Int → Int → Int → Nat → Int) : Prop := ∀ (g h : Bool) (xs rd : List (List AV)) (k t f a b c : Int) (nm : ByteArray), NrsP xs ∧ RdsP rd → fnK Tryd.prog { glob := glb, spec := lk [(39, (sexam_s Go.Proofs.YtceknalhogbbnaaDoor.cvE Go.Proofs.YtceknalhogbbnaaDoor.vdE)), (40, (cLook_s Go.Proofs.YtceknalhogbbnaaDoor.cvE Go.Proofs.YtceknalhogbbnaaDoor.lbN Go.Proofs.YtceknalhogbbnaaDoor.fdN Go.Proofs.YtceknalhogbbnaaDoor.nrm Go.Proofs.YtceknalhogbbnaaDoor.vld Go.Proofs.YtceknalhogbbnaaDoor.inB Go.Proofs.YtceknalhogbbnaaDoor.dtY Go.Proofs.YtceknalhogbbnaaDoor.dtM Go.Proofs.YtceknalhogbbnaaDoor.dtD Go.Proofs.YtceknalhogbbnaaDoor.dtH Go.Proofs.YtceknalhogbbnaaDoor.dtI))], specH := lk [], shape := [24], nowf := true } { nt := 61, drop := drp [(1, 28672), (2, 32768), (3, 131072), (5, 262144), (7, 25165824), (8, 68685922304), (9, 9007130535264256), (10, 558446353793941504), (11, 576460752303423488), (12, 1152921504606846976)], emp := fun id => cond (Nat.beq id 5) [(7, 500, 3, 1)] [] } (invs [(6, chkL g h xs rd k t f a b c nm)]) 6 Tryd.f17 [.agg [.sl 5 g xs], .agg [.int .i64 k, .str nm, .int .i64 t, .int .i64 f, .int .i64 a, .int .i64 b, .int .i64 c, .sl 2 h rd]] (.tup [.sl 1 false (chL xs rd t f a b c), .int .i64 (exE xs rd t f a b c)])
set_option maxRecDepth 100000 in
theorem scheck_e (exE : List (List AV) → List (List AV) → Int → Int → Int → Int → Int → Int) (lkE : List (List AV) → Int → Int → Int → Int → Int → Int → Int) (lkN : List (List AV) → Int → Int → Int → Int → Int → Int → Nat → Int) : scheck_T exE lkE lkN = scheck_S exE lkE lkN := by kernel_rfl
theorem scheck_v : scheck_S exE lkE lkN := @Eq.mp (scheck_T exE lkE lkN) (scheck_S exE lkE lkN) (scheck_e exE lkE lkN) scheck_P
theorem scheck_ok : SOK Tryd.prog glb 17 (scheck_s exE lkE lkN) := by
  refine ⟨fok Tryd.func17 (by kernel_rfl) (by kernel_rfl), ?_⟩
  intro xs pre r h hp
  unfold scheck_s at h
  split at h
  · simp only [Option.some.injEq, Prod.mk.injEq] at h
    obtain ⟨h1, h2⟩ := h
    subst h1 h2
    exact fnK_sound tyNil (by exact specOK rfl rfl ⟨(sexam_ok), (cLook_ok), trivial⟩ trivial) (by kernel_rfl) Tryd.func17 rfl (scheck_v  _ _ _ _ _ _ _ _ _ _ _ hp)
  · cases h
/-! The reference's Find. -/
structure RfdP (code : Int) (xs : List (List AV)) (i : Int) : Prop where
  flo : 0 ≤ i
  fhi : i ≤ xs.length
  fno : ∀ j : Nat, (j : Int) < i → cdP code (xs.getD j []) = false
def rfdL (f : Bool) (xs : List (List AV)) (code : Int) : LInv := ⟨Int, fun i => ⟨[(0, .sl 2 f xs), (1, .int .i64 code), (6, .int .i64 i)], []⟩, RfdP code xs, fun i => (xs.length - i).toNat, none⟩
def rfind_s : Sp
  | [.sl 2 f xs, .int .i64 code] => some (RdsP xs, .tup [.int .i64 (fdV xs code), .bool (fdB xs code)])
  | _ => none
set_option maxRecDepth 100000 in
def rfind_T : Prop :=
  ∀ (gl : Glob) (f : Bool) (xs : List (List AV)) (code : Int), RdsP xs → True → (-9223372036854775808 : Int) ≤ code ∧ code ≤ (9223372036854775807 : Int) → (∃ x, RfdP code xs x ∧
  (((bif f then f = true else True) ∧ xs = xs) ∧ code = code ∧ (0 : Int) = x ∧ True) ∧ True) ∧ ∀ (x : Int), RfdP code xs x → bif decide (x < (↑xs.length : Int)) then bif decide ((0 :
  Int) ≤ x ∧ x < (↑xs.length : Int)) then ∃ n, List.take [AV.int IntKind.i64 n].length (List.drop (0 : Nat) (xs.getD x.toNat [])) = [AV.int IntKind.i64 n] ∧ bif decide (n = code)
  then bif decide ((0 : Int) ≤ x ∧ x < (↑xs.length : Int)) then ∃ n, List.take [AV.int IntKind.i64 n].length (List.drop (1 : Nat) (xs.getD x.toNat [])) = [AV.int IntKind.i64 n] ∧ n =
  fdV xs code ∧ true = fdB xs code ∧ True else False else bif decide (rng IntKind.i64 (x + (1 : Int))) then ∃ y, RfdP code xs y ∧ (rfdL f xs code).m y < (rfdL f xs code).m x ∧ (((bif
  f then f = true else True) ∧ xs = xs) ∧ code = code ∧ x + (1 : Int) = y ∧ True) ∧ True else False else False else (0 : Int) = fdV xs code ∧ false = fdB xs code ∧ True
set_option maxRecDepth 100000 in
theorem rfind_P : rfind_T := by
  unfold rfind_T
  intro gl f xs code hr _ _
  have hs := hr.sm
  have bf : cond f (f = true) True := by cases f <;> trivial
  refine ⟨⟨0, ⟨by decide, by omega, fun j h => by omega⟩, ⟨⟨bf, rfl⟩, rfl, rfl, trivial⟩, trivial⟩, ?_⟩
  rintro i ⟨h0, h1, hn⟩
  refine cs (fun hl => ?_) (fun hl => ?_)
  · obtain ⟨e, v, he, _⟩ := hr.row i.toNat (by omega)
    have e1 : rE (xs.getD i.toNat []) = e := by rw [he]; rfl
    have e2 : rV (xs.getD i.toNat []) = v := by rw [he]; rfl
    refine cd1 (by omega) ⟨e, by rw [he]; rfl, cs (fun q => ?_) (fun q => ?_)⟩
    · refine cd1 (by omega) ⟨v, by rw [he]; rfl, ?_⟩
      have hc : cdI' code xs = i.toNat := (idx_some (p := cdP code) (xs := xs) (i := i.toNat) (by omega) (by unfold cdP; rw [e1]; exact decide_eq_true q) (fun j hj => hn j (by omega))).symm
      have hb : fdB xs code = true := by unfold fdB; rw [hc]; exact decide_eq_true (by omega)
      unfold fdV
      rw [hb, hc, if_pos rfl, Int.toNat_natCast, e2]
      exact ⟨rfl, rfl, trivial⟩
    · refine cdI (by omega) ⟨i + 1, ⟨by omega, by omega, fun j hj => ?_⟩, by simp only [rfdL]; omega, ⟨⟨bf, rfl⟩, rfl, rfl, trivial⟩, trivial⟩
      rcases Nat.lt_or_ge j i.toNat with k | k
      · exact hn j (by omega)
      · rw [show j = i.toNat by omega]; unfold cdP; rw [e1]; exact decide_eq_false q
  · have hc : cdI' code xs = -1 := (idx_none fun j hj => hn j (by omega)).symm
    have hb : fdB xs code = false := by unfold fdB; rw [hc]; rfl
    unfold fdV
    rw [hb]
    exact ⟨rfl, rfl, trivial⟩
def rfind_S : Prop := ∀ (gl : Glob) (f : Bool) (xs : List (List AV)) (code : Int), RdsP xs → fnK Tryd.prog { glob := gl, spec := lk [], specH := lk [], shape := [17, 24], nowf := true } { nt := 25, drop := drp [(2, 896), (3, 6144), (4, 516096), (5, 32505856)] } (invs [(2, rfdL f xs code)]) 6 Tryd.f33 [.sl 2 f xs, .int .i64 code] (.tup [.int .i64 (fdV xs code), .bool (fdB xs code)])
set_option maxRecDepth 100000 in
theorem rfind_e : rfind_T = rfind_S := by kernel_rfl
theorem rfind_v : rfind_S := @Eq.mp (rfind_T) (rfind_S) (rfind_e) rfind_P
theorem rfind_ok (gl : Glob) : SOK Tryd.prog gl 33 rfind_s := by
  refine ⟨fok Tryd.func33 (by kernel_rfl) (by kernel_rfl), ?_⟩
  intro xs pre r h hp
  unfold rfind_s at h
  split at h
  · simp only [Option.some.injEq, Prod.mk.injEq] at h
    obtain ⟨h1, h2⟩ := h
    subst h1 h2
    exact fnK_sound tyNil (by exact specOK rfl rfl trivial trivial) (by kernel_rfl) Tryd.func33 rfl (rfind_v gl _ _ _ hp)
  · cases h
def rchL (g h : Bool) (xs rd : List (List AV)) (k t f a b c : Int) (nm : ByteArray) : LInv := ⟨Int × List (List AV), fun x => ⟨[(2, .ptr 2 0), (3, .ptr 3 0), (5, .int .i64 0), (8, .rw 500 1 x.2.length), (35, .sl 2 h rd), (36, .int .i64 rd.length), (37, .int .i64 x.1)], [(2, .cells [.sl 5 g xs]), (3, .cells [.int .i64 k, .str nm, .int .i64 t, .int .i64 f, .int .i64 a, .int .i64 b, .int .i64 c, .sl 2 h rd]), (500, .row 3 1 x.2)]⟩, ChkP xs rd t f a b c, fun x => (rd.length - x.1).toNat, none⟩
def rcheck_s : Sp
  | [.agg [.sl 5 g xs], .agg [.int .i64 k, .str nm, .int .i64 t, .int .i64 f, .int .i64 a, .int .i64 b, .int .i64 c, .sl 2 h rd]] => some (NrsP xs ∧ RdsP rd, .tup [.sl 1 false (chL xs rd t f a b c), .int .i64 (exE xs rd t f a b c)])
  | _ => none
set_option maxRecDepth 100000 in
def rcheck_T : Prop :=
  ∀ (gl : Glob) (g h : Bool) (xs rd : List (List AV)) (k t f a b c : Int) (nm : ByteArray), NrsP xs ∧ RdsP rd → True ∧ True → ((-9223372036854775808 : Int) ≤ k ∧ k ≤
  (9223372036854775807 : Int)) ∧ nm.size.le (9223372036854775807 : Nat) ∧ ((-9223372036854775808 : Int) ≤ t ∧ t ≤ (9223372036854775807 : Int)) ∧ ((-9223372036854775808 : Int) ≤ f ∧ f
  ≤ (9223372036854775807 : Int)) ∧ ((-9223372036854775808 : Int) ≤ a ∧ a ≤ (9223372036854775807 : Int)) ∧ ((-9223372036854775808 : Int) ≤ b ∧ b ≤ (9223372036854775807 : Int)) ∧
  ((-9223372036854775808 : Int) ≤ c ∧ c ≤ (9223372036854775807 : Int)) ∧ True ∧ True → NrsP xs ∧ bif decide ¬cvE xs = (0 : Int) then chL xs rd t f a b c = [] ∧ cvE xs = exE xs rd t f
  a b c ∧ True else RdsP rd ∧ bif decide ¬vdE rd = (0 : Int) then chL xs rd t f a b c = [] ∧ vdE rd = exE xs rd t f a b c ∧ True else True ∧ bif !vld f a b c then chL xs rd t f a b c
  = [] ∧ (1 : Int) = exE xs rd t f a b c ∧ True else True ∧ bif !inB t then chL xs rd t f a b c = [] ∧ (1 : Int) = exE xs rd t f a b c ∧ True else (∃ x, ChkP xs rd t f a b c x ∧ ((0
  : Nat) = (0 : Nat) ∧ (0 : Nat) = (0 : Nat) ∧ (0 : Int) = (0 : Int) ∧ (0 : Nat) = x.snd.length ∧ ((bif h then h = true else True) ∧ rd = rd) ∧ (↑rd.length : Int) = (↑rd.length :
  Int) ∧ (0 : Int) = x.fst ∧ True) ∧ (((bif g then g = true else True) ∧ xs = xs) ∧ True) ∧ (k = k ∧ nm = nm ∧ t = t ∧ f = f ∧ a = a ∧ b = b ∧ c = c ∧ ((bif h then h = true else
  True) ∧ rd = rd) ∧ True) ∧ [] = x.snd ∧ True) ∧ ∀ (x : Int × List (List AV)), ChkP xs rd t f a b c x → bif decide (x.fst < (↑rd.length : Int)) then bif decide ((0 : Int) ≤ x.fst ∧
  x.fst < (↑rd.length : Int)) then ∃ n n_1, List.take [AV.int IntKind.i64 n, AV.int IntKind.i64 n_1].length (rd.getD x.fst.toNat []) = [AV.int IntKind.i64 n, AV.int IntKind.i64 n_1]
  ∧ NrsP xs ∧ bif decide (lkE xs n f a b c t = (0 : Int)) then bif decide (rng IntKind.i64 (n_1 - lkN xs n f a b c t (3 : Nat))) then bif decide (lkN xs n f a b c t (4 : Nat) < n_1 -
  lkN xs n f a b c t (3 : Nat)) then bif decide (x.snd.length = x.snd.length ∧ x.snd.length + [[AV.int IntKind.i64 n]].length ≤ (9223372036854775807 : Nat) ∧ (x.snd.length + [[AV.int
  IntKind.i64 n]].length) * (8 : Nat) ≤ (140737488355328 : Nat)) then bif decide (rng IntKind.i64 (x.fst + (1 : Int))) then ∃ y, ChkP xs rd t f a b c y ∧ (rchL g h xs rd k t f a b c
  nm).m y < (rchL g h xs rd k t f a b c nm).m x ∧ ((0 : Nat) = (0 : Nat) ∧ (0 : Nat) = (0 : Nat) ∧ (0 : Int) = (0 : Int) ∧ (x.snd ++ [[AV.int IntKind.i64 n]]).length = y.snd.length ∧
  ((bif h then h = true else True) ∧ rd = rd) ∧ (↑rd.length : Int) = (↑rd.length : Int) ∧ x.fst + (1 : Int) = y.fst ∧ True) ∧ (((bif g then g = true else True) ∧ xs = xs) ∧ True) ∧
  (k = k ∧ nm = nm ∧ t = t ∧ f = f ∧ a = a ∧ b = b ∧ c = c ∧ ((bif h then h = true else True) ∧ rd = rd) ∧ True) ∧ x.snd ++ [[AV.int IntKind.i64 n]] = y.snd ∧ True else False else
  False else bif decide (rng IntKind.i64 (lkN xs n f a b c t (3 : Nat) - n_1)) then bif decide (lkN xs n f a b c t (4 : Nat) < lkN xs n f a b c t (3 : Nat) - n_1) then bif decide
  (x.snd.length = x.snd.length ∧ x.snd.length + [[AV.int IntKind.i64 n]].length ≤ (9223372036854775807 : Nat) ∧ (x.snd.length + [[AV.int IntKind.i64 n]].length) * (8 : Nat) ≤
  (140737488355328 : Nat)) then bif decide (rng IntKind.i64 (x.fst + (1 : Int))) then ∃ y, ChkP xs rd t f a b c y ∧ (rchL g h xs rd k t f a b c nm).m y < (rchL g h xs rd k t f a b c
  nm).m x ∧ ((0 : Nat) = (0 : Nat) ∧ (0 : Nat) = (0 : Nat) ∧ (0 : Int) = (0 : Int) ∧ (x.snd ++ [[AV.int IntKind.i64 n]]).length = y.snd.length ∧ ((bif h then h = true else True) ∧ rd
  = rd) ∧ (↑rd.length : Int) = (↑rd.length : Int) ∧ x.fst + (1 : Int) = y.fst ∧ True) ∧ (((bif g then g = true else True) ∧ xs = xs) ∧ True) ∧ (k = k ∧ nm = nm ∧ t = t ∧ f = f ∧ a =
  a ∧ b = b ∧ c = c ∧ ((bif h then h = true else True) ∧ rd = rd) ∧ True) ∧ x.snd ++ [[AV.int IntKind.i64 n]] = y.snd ∧ True else False else False else bif decide (rng IntKind.i64
  (x.fst + (1 : Int))) then ∃ y, ChkP xs rd t f a b c y ∧ (rchL g h xs rd k t f a b c nm).m y < (rchL g h xs rd k t f a b c nm).m x ∧ ((0 : Nat) = (0 : Nat) ∧ (0 : Nat) = (0 : Nat) ∧
  (0 : Int) = (0 : Int) ∧ x.snd.length = y.snd.length ∧ ((bif h then h = true else True) ∧ rd = rd) ∧ (↑rd.length : Int) = (↑rd.length : Int) ∧ x.fst + (1 : Int) = y.fst ∧ True) ∧
  (((bif g then g = true else True) ∧ xs = xs) ∧ True) ∧ (k = k ∧ nm = nm ∧ t = t ∧ f = f ∧ a = a ∧ b = b ∧ c = c ∧ ((bif h then h = true else True) ∧ rd = rd) ∧ True) ∧ x.snd =
  y.snd ∧ True else False else False else False else bif decide (rng IntKind.i64 (x.fst + (1 : Int))) then ∃ y, ChkP xs rd t f a b c y ∧ (rchL g h xs rd k t f a b c nm).m y < (rchL g
  h xs rd k t f a b c nm).m x ∧ ((0 : Nat) = (0 : Nat) ∧ (0 : Nat) = (0 : Nat) ∧ (0 : Int) = (0 : Int) ∧ x.snd.length = y.snd.length ∧ ((bif h then h = true else True) ∧ rd = rd) ∧
  (↑rd.length : Int) = (↑rd.length : Int) ∧ x.fst + (1 : Int) = y.fst ∧ True) ∧ (((bif g then g = true else True) ∧ xs = xs) ∧ True) ∧ (k = k ∧ nm = nm ∧ t = t ∧ f = f ∧ a = a ∧ b =
  b ∧ c = c ∧ ((bif h then h = true else True) ∧ rd = rd) ∧ True) ∧ x.snd = y.snd ∧ True else False else False else bif decide (x.snd.length = x.snd.length) then (True ∧ x.snd = chL
  xs rd t f a b c) ∧ (0 : Int) = exE xs rd t f a b c ∧ True else False
set_option maxRecDepth 100000 in
theorem rcheck_P : rcheck_T := by
  unfold rcheck_T
  intro gl g h xs rd k t f a b c nm ⟨hp, hr⟩ _ _
  have bg : cond g (g = true) True := by cases g <;> trivial
  have bh : cond h (h = true) True := by cases h <;> trivial
  have bad : ∀ z : Int, ¬ z = 0 → exE xs rd t f a b c = z → chL xs rd t f a b c = [] ∧ z = exE xs rd t f a b c ∧ True := by
    intro z hz he
    unfold chL
    rw [he, if_neg hz]; exact ⟨rfl, rfl, trivial⟩
  refine ⟨hp, cs (fun q => bad _ q (by unfold exE; rw [if_neg q])) (fun q1 => ⟨hr, cs (fun q => bad _ q (by unfold exE; rw [if_pos (Decidable.not_not.1 q1), if_neg q])) (fun q2 => ⟨trivial, ?_⟩)⟩)⟩
  have z1 := Decidable.not_not.1 q1
  have z2 := Decidable.not_not.1 q2
  have e0 : exE xs rd t f a b c = if vld f a b c && inB t then 0 else 1 := by
    unfold exE; rw [if_pos z1, if_pos z2]
  refine csplit (fun q => bad _ (by decide) ?_) (fun q3 => ⟨trivial, csplit (fun q => bad _ (by decide) ?_) (fun q4 => ?_)⟩)
  · have q : vld f a b c = false := by simpa using q
    rw [e0, q]; rfl
  · have q : inB t = false := by simpa using q
    rw [e0, q, Bool.and_false]; rfl
  have z3 : vld f a b c = true := by simpa using q3
  have z4 : inB t = true := by simpa using q4
  have q : exE xs rd t f a b c = 0 := by rw [e0, z3, z4]; rfl
  obtain ⟨v1, v2⟩ := vd_zero z2
  refine ⟨⟨(0, []), ⟨by simp, by simp, by simp [chR]⟩, ⟨rfl, rfl, rfl, rfl, ⟨bh, rfl⟩, rfl, rfl, trivial⟩, ⟨⟨bg, rfl⟩, trivial⟩, ⟨rfl, rfl, rfl, rfl, rfl, rfl, rfl, ⟨bh, rfl⟩, trivial⟩, rfl, trivial⟩, ?_⟩
  rintro ⟨i, ys⟩ ⟨h0, h1, hy⟩
  simp only at h0 h1 hy
  dsimp only
  have ly := chR_len (xs := xs) (rd := rd) (t := t) (f := f) (a := a) (b := b) (c := c) i.toNat
  rw [← hy] at ly
  refine cs (fun hl => ?_) (fun hl => ?_)
  · have hl' : i.toNat < rd.length := by omega
    have st := chR_step (xs := xs) (t := t) (f := f) (a := a) (b := b) (c := c) hl'
    rw [← hy] at st
    have ei : (i + 1).toNat = i.toNat + 1 := by omega
    have vb := (v1 _ hl').2
    refine cd1 (by omega) ⟨_, _, rd_take hr hl', hp, ?_⟩
    have no : rejP xs t f a b c (rd.getD i.toNat []) = false → ∃ y : Int × List (List AV), ChkP xs rd t f a b c y ∧ (rchL g h xs rd k t f a b c nm).m y < (rchL g h xs rd k t f a b c nm).m (i, ys) ∧ ((0 : Nat) = 0 ∧ (0 : Nat) = 0 ∧ (0 : Int) = 0 ∧ ys.length = y.snd.length ∧ (cond h (h = true) True ∧ rd = rd) ∧ (rd.length : Int) = rd.length ∧ i + 1 = y.fst ∧ True) ∧ ((cond g (g = true) True ∧ xs = xs) ∧ True) ∧ (k = k ∧ nm = nm ∧ t = t ∧ f = f ∧ a = a ∧ b = b ∧ c = c ∧ (cond h (h = true) True ∧ rd = rd) ∧ True) ∧ ys = y.snd ∧ True := by
      intro hf
      rw [hf] at st
      exact ⟨(i + 1, ys), ⟨by simp only; omega, by simp only; omega, by simp only; rw [ei, st]; rfl⟩, by simp only [rchL]; omega, ⟨rfl, rfl, rfl, rfl, ⟨bh, rfl⟩, rfl, rfl, trivial⟩, ⟨⟨bg, rfl⟩, trivial⟩, ⟨rfl, rfl, rfl, rfl, rfl, rfl, rfl, ⟨bh, rfl⟩, trivial⟩, rfl, trivial⟩
    have yes : rejP xs t f a b c (rd.getD i.toNat []) = true → ∃ y : Int × List (List AV), ChkP xs rd t f a b c y ∧ (rchL g h xs rd k t f a b c nm).m y < (rchL g h xs rd k t f a b c nm).m (i, ys) ∧ ((0 : Nat) = 0 ∧ (0 : Nat) = 0 ∧ (0 : Int) = 0 ∧ (ys ++ [rowE (rd.getD i.toNat [])]).length = y.snd.length ∧ (cond h (h = true) True ∧ rd = rd) ∧ (rd.length : Int) = rd.length ∧ i + 1 = y.fst ∧ True) ∧ ((cond g (g = true) True ∧ xs = xs) ∧ True) ∧ (k = k ∧ nm = nm ∧ t = t ∧ f = f ∧ a = a ∧ b = b ∧ c = c ∧ (cond h (h = true) True ∧ rd = rd) ∧ True) ∧ ys ++ [rowE (rd.getD i.toNat [])] = y.snd ∧ True := by
      intro hj
      rw [hj] at st
      exact ⟨(i + 1, ys ++ [rowE (rd.getD i.toNat [])]), ⟨by simp only; omega, by simp only; omega, by simp only; rw [ei, st]; rfl⟩, by simp only [rchL]; omega, ⟨rfl, rfl, rfl, rfl, ⟨bh, rfl⟩, rfl, rfl, trivial⟩, ⟨⟨bg, rfl⟩, trivial⟩, ⟨rfl, rfl, rfl, rfl, rfl, rfl, rfl, ⟨bh, rfl⟩, trivial⟩, rfl, trivial⟩
    refine cs (fun e0 => ?_) (fun e0 => cdI (by omega) (no (decide_eq_false fun z => e0 z.1)))
    have lb := lk_bd hp e0
    refine cdI (by omega) (cs (fun e1 => ?_) (fun e1 => cdI (by omega) (cs (fun e2 => ?_) (fun e2 => cdI (by omega) (no (decide_eq_false fun z => by have := z.2; omega))))))
    · exact cd1 ⟨rfl, by simp; omega, by simp; omega⟩ (cdI (by omega) (yes (decide_eq_true ⟨e0, by omega⟩)))
    · exact cd1 ⟨rfl, by simp; omega, by simp; omega⟩ (cdI (by omega) (yes (decide_eq_true ⟨e0, by omega⟩)))
  · refine cd1 rfl ⟨⟨trivial, ?_⟩, q.symm, trivial⟩
    unfold chL
    rw [if_pos q, hy, List.take_of_length_le (by omega)]
def rcheck_S : Prop := ∀ (gl : Glob) (g h : Bool) (xs rd : List (List AV)) (k t f a b c : Int) (nm : ByteArray), NrsP xs ∧ RdsP rd → fnK Tryd.prog { glob := gl, spec := lk [(25, (rcValid_s Go.Proofs.YtceknalhogbbnaaDoor.cmp3 Go.Proofs.YtceknalhogbbnaaDoor.iL Go.Proofs.YtceknalhogbbnaaDoor.inLo Go.Proofs.YtceknalhogbbnaaDoor.inHi Go.Proofs.YtceknalhogbbnaaDoor.inD Go.Proofs.YtceknalhogbbnaaDoor.inE)), (31, (rvalid_s Go.Proofs.YtceknalhogbbnaaDoor.vdE)), (41, (rValid_s Go.Proofs.YtceknalhogbbnaaDoor.vld)), (30, (rIn_s Go.Proofs.YtceknalhogbbnaaDoor.inB)), (42, rcLook_s)], specH := lk [], shape := [40], nowf := true } { nt := 81, drop := drp [(1, 24576), (2, 32768), (3, 131072), (4, 1835008), (5, 2097152), (6, 8388608), (7, 8573157376), (10, 17179869184), (12, 1649267441664), (13, 4501400604114944), (14, 9444728462139663056896), (15, 585573443875836006498304), (16, 604462909807314587353088), (17, 1208925819614629174706176)], emp := fun id => cond (Nat.beq id 10) [(8, 500, 3, 1)] [] } (invs [(11, rchL g h xs rd k t f a b c nm)]) 6 Tryd.f18 [.agg [.sl 5 g xs], .agg [.int .i64 k, .str nm, .int .i64 t, .int .i64 f, .int .i64 a, .int .i64 b, .int .i64 c, .sl 2 h rd]] (.tup [.sl 1 false (chL xs rd t f a b c), .int .i64 (exE xs rd t f a b c)])
set_option maxRecDepth 100000 in
theorem rcheck_e : rcheck_T = rcheck_S := by kernel_rfl
theorem rcheck_v : rcheck_S := @Eq.mp (rcheck_T) (rcheck_S) (rcheck_e) rcheck_P
theorem rcheck_ok (gl : Glob) : SOK Tryd.prog gl 18 rcheck_s := by
  refine ⟨fok Tryd.func18 (by kernel_rfl) (by kernel_rfl), ?_⟩
  intro xs pre r h hp
  unfold rcheck_s at h
  split at h
  · simp only [Option.some.injEq, Prod.mk.injEq] at h
    obtain ⟨h1, h2⟩ := h
    subst h1 h2
    exact fnK_sound tyNil (by exact specOK rfl rfl ⟨(rcValid_ok gl), (rvalid_ok gl), (rValid_ok gl), (rIn_ok gl), (rcLook_ok gl), trivial⟩ trivial) (by kernel_rfl) Tryd.func18 rfl (rcheck_v gl _ _ _ _ _ _ _ _ _ _ _ hp)
  · cases h
def farB (xs rd : List (List AV)) (t f a b c code : Int) : Bool := decide (exE xs rd t f a b c = 0 ∧ fdB rd code = true ∧ lkE xs code f a b c t = 0)
def farV (xs rd : List (List AV)) (t f a b c code : Int) : Int := if farB xs rd t f a b c code then fdV rd code - lkN xs code f a b c t 3 else 0
theorem fd_bd {rd : List (List AV)} (h : vdE rd = 0) {code : Int} (hb : fdB rd code = true) : -1000 ≤ fdV rd code ∧ fdV rd code ≤ 11000 := by
  unfold fdV
  rw [if_pos hb]
  have hb := of_decide_eq_true hb
  unfold cdI' idxP at *
  split at hb
  · rename_i hany
    obtain ⟨x, hx, hm⟩ := List.any_eq_true.1 hany
    rw [if_pos hany, Int.toNat_natCast]
    exact ((vd_zero h).1 _ (List.findIdx_lt_length_of_exists ⟨x, hx, hm⟩)).2
  · omega
theorem far_no {xs rd : List (List AV)} {t f a b c code : Int} (h : ¬ (exE xs rd t f a b c = 0 ∧ fdB rd code = true ∧ lkE xs code f a b c t = 0)) : 0 = farV xs rd t f a b c code ∧ false = farB xs rd t f a b c code ∧ True := by
  have hb : farB xs rd t f a b c code = false := decide_eq_false h
  unfold farV
  rw [hb]; exact ⟨rfl, rfl, trivial⟩
theorem far_yes {xs rd : List (List AV)} {t f a b c code : Int} (hp : NrsP xs) (h1 : exE xs rd t f a b c = 0) (h2 : fdB rd code = true) (h3 : lkE xs code f a b c t = 0) : cond (decide (rng .i64 (fdV rd code - lkN xs code f a b c t 3))) (fdV rd code - lkN xs code f a b c t 3 = farV xs rd t f a b c code ∧ true = farB xs rd t f a b c code ∧ True) False := by
  have hb : farB xs rd t f a b c code = true := decide_eq_true ⟨h1, h2, h3⟩
  have b1 := fd_bd (ex_zero h1).2.1 h2
  have b2 := lk_bd hp h3
  unfold farV
  rw [hb]
  exact cdI (by omega) ⟨rfl, rfl, trivial⟩
def sfar_s : Sp
  | [.agg [.sl 5 g xs], .agg [.int .i64 k, .str nm, .int .i64 t, .int .i64 f, .int .i64 a, .int .i64 b, .int .i64 c, .sl 2 h rd], .int .i64 code] => some (NrsP xs ∧ RdsP rd, .tup [.int .i64 (farV xs rd t f a b c code), .bool (farB xs rd t f a b c code)])
  | _ => none
set_option maxRecDepth 100000 in
def sfar_T : Prop :=
  ∀ (g h : Bool) (xs rd : List (List AV)) (k t f a b c code : Int) (nm : ByteArray), NrsP xs ∧ RdsP rd → True ∧ True → ((-9223372036854775808 : Int) ≤ k ∧ k ≤ (9223372036854775807 :
  Int)) ∧ nm.size.le (9223372036854775807 : Nat) ∧ ((-9223372036854775808 : Int) ≤ t ∧ t ≤ (9223372036854775807 : Int)) ∧ ((-9223372036854775808 : Int) ≤ f ∧ f ≤ (9223372036854775807
  : Int)) ∧ ((-9223372036854775808 : Int) ≤ a ∧ a ≤ (9223372036854775807 : Int)) ∧ ((-9223372036854775808 : Int) ≤ b ∧ b ≤ (9223372036854775807 : Int)) ∧ ((-9223372036854775808 :
  Int) ≤ c ∧ c ≤ (9223372036854775807 : Int)) ∧ True ∧ True → (-9223372036854775808 : Int) ≤ code ∧ code ≤ (9223372036854775807 : Int) → RdsP rd ∧ (NrsP xs ∧ RdsP rd) ∧ bif decide
  ¬exE xs rd t f a b c = (0 : Int) then (0 : Int) = farV xs rd t f a b c code ∧ false = farB xs rd t f a b c code ∧ True else bif !fdB rd code then (0 : Int) = farV xs rd t f a b c
  code ∧ false = farB xs rd t f a b c code ∧ True else NrsP xs ∧ bif decide ¬lkE xs code f a b c t = (0 : Int) then (0 : Int) = farV xs rd t f a b c code ∧ false = farB xs rd t f a b
  c code ∧ True else bif decide (rng IntKind.i64 (fdV rd code - lkN xs code f a b c t (3 : Nat))) then fdV rd code - lkN xs code f a b c t (3 : Nat) = farV xs rd t f a b c code ∧
  true = farB xs rd t f a b c code ∧ True else False
set_option maxRecDepth 100000 in
theorem sfar_P : sfar_T := by
  unfold sfar_T
  intro g h xs rd k t f a b c code nm ⟨hp, hr⟩ _ _ _
  refine ⟨hr, ⟨hp, hr⟩, cs (fun q => far_no fun z => q z.1) (fun q => csplit (fun q2 => far_no fun z => by rw [z.2.1] at q2; cases q2) (fun q2 => ⟨hp, cs (fun q3 => far_no fun z => q3 z.2.2) (fun q3 => ?_)⟩))⟩
  exact far_yes hp (Decidable.not_not.1 q) (by simpa using q2) (Decidable.not_not.1 q3)
def sfar_S : Prop := ∀ (g h : Bool) (xs rd : List (List AV)) (k t f a b c code : Int) (nm : ByteArray), NrsP xs ∧ RdsP rd → fnK Tryd.prog { glob := glb, spec := lk [(43, (efind_s Go.Proofs.YtceknalhogbbnaaDoor.fdV Go.Proofs.YtceknalhogbbnaaDoor.fdB)), (39, (sexam_s Go.Proofs.YtceknalhogbbnaaDoor.cvE Go.Proofs.YtceknalhogbbnaaDoor.vdE)), (40, (cLook_s Go.Proofs.YtceknalhogbbnaaDoor.cvE Go.Proofs.YtceknalhogbbnaaDoor.lbN Go.Proofs.YtceknalhogbbnaaDoor.fdN Go.Proofs.YtceknalhogbbnaaDoor.nrm Go.Proofs.YtceknalhogbbnaaDoor.vld Go.Proofs.YtceknalhogbbnaaDoor.inB Go.Proofs.YtceknalhogbbnaaDoor.dtY Go.Proofs.YtceknalhogbbnaaDoor.dtM Go.Proofs.YtceknalhogbbnaaDoor.dtD Go.Proofs.YtceknalhogbbnaaDoor.dtH Go.Proofs.YtceknalhogbbnaaDoor.dtI))], specH := lk [], nowf := true } { nt := 43, drop := drp [(1, 520192), (2, 66584576), (4, 137304735744), (5, 137438953472), (7, 8246337208320)] } (fun _ _ => none) 6 Tryd.f20 [.agg [.sl 5 g xs], .agg [.int .i64 k, .str nm, .int .i64 t, .int .i64 f, .int .i64 a, .int .i64 b, .int .i64 c, .sl 2 h rd], .int .i64 code] (.tup [.int .i64 (farV xs rd t f a b c code), .bool (farB xs rd t f a b c code)])
set_option maxRecDepth 100000 in
theorem sfar_e : sfar_T = sfar_S := by kernel_rfl
theorem sfar_v : sfar_S := @Eq.mp (sfar_T) (sfar_S) (sfar_e) sfar_P
theorem sfar_ok : SOK Tryd.prog glb 20 sfar_s := by
  refine ⟨fok Tryd.func20 (by kernel_rfl) (by kernel_rfl), ?_⟩
  intro xs pre r h hp
  unfold sfar_s at h
  split at h
  · simp only [Option.some.injEq, Prod.mk.injEq] at h
    obtain ⟨h1, h2⟩ := h
    subst h1 h2
    exact fnK_sound tyNil (by exact specOK rfl rfl ⟨(efind_ok glb), (sexam_ok), (cLook_ok), trivial⟩ trivial) (by kernel_rfl) Tryd.func20 rfl (sfar_v  _ _ _ _ _ _ _ _ _ _ _ _ hp)
  · cases h
def rfar_s : Sp
  | [.agg [.sl 5 g xs], .agg [.int .i64 k, .str nm, .int .i64 t, .int .i64 f, .int .i64 a, .int .i64 b, .int .i64 c, .sl 2 h rd], .int .i64 code] => some (NrsP xs ∧ RdsP rd, .tup [.int .i64 (farV xs rd t f a b c code), .bool (farB xs rd t f a b c code)])
  | _ => none
set_option maxRecDepth 100000 in
def rfar_T : Prop :=
  ∀ (gl : Glob) (g h : Bool) (xs rd : List (List AV)) (k t f a b c code : Int) (nm : ByteArray), NrsP xs ∧ RdsP rd → True ∧ True → ((-9223372036854775808 : Int) ≤ k ∧ k ≤
  (9223372036854775807 : Int)) ∧ nm.size.le (9223372036854775807 : Nat) ∧ ((-9223372036854775808 : Int) ≤ t ∧ t ≤ (9223372036854775807 : Int)) ∧ ((-9223372036854775808 : Int) ≤ f ∧ f
  ≤ (9223372036854775807 : Int)) ∧ ((-9223372036854775808 : Int) ≤ a ∧ a ≤ (9223372036854775807 : Int)) ∧ ((-9223372036854775808 : Int) ≤ b ∧ b ≤ (9223372036854775807 : Int)) ∧
  ((-9223372036854775808 : Int) ≤ c ∧ c ≤ (9223372036854775807 : Int)) ∧ True ∧ True → (-9223372036854775808 : Int) ≤ code ∧ code ≤ (9223372036854775807 : Int) → (NrsP xs ∧ RdsP rd)
  ∧ bif decide ¬exE xs rd t f a b c = (0 : Int) then (0 : Int) = farV xs rd t f a b c code ∧ false = farB xs rd t f a b c code ∧ True else RdsP rd ∧ NrsP xs ∧ bif !fdB rd code then
  (0 : Int) = farV xs rd t f a b c code ∧ false = farB xs rd t f a b c code ∧ True else bif decide ¬lkE xs code f a b c t = (0 : Int) then (0 : Int) = farV xs rd t f a b c code ∧
  false = farB xs rd t f a b c code ∧ True else bif decide (rng IntKind.i64 (fdV rd code - lkN xs code f a b c t (3 : Nat))) then fdV rd code - lkN xs code f a b c t (3 : Nat) = farV
  xs rd t f a b c code ∧ true = farB xs rd t f a b c code ∧ True else False
set_option maxRecDepth 100000 in
theorem rfar_P : rfar_T := by
  unfold rfar_T
  intro gl g h xs rd k t f a b c code nm ⟨hp, hr⟩ _ _ _
  refine ⟨⟨hp, hr⟩, cs (fun q => far_no fun z => q z.1) (fun q => ⟨hr, hp, csplit (fun q2 => far_no fun z => by rw [z.2.1] at q2; cases q2) (fun q2 => cs (fun q3 => far_no fun z => q3 z.2.2) (fun q3 => ?_))⟩)⟩
  exact far_yes hp (Decidable.not_not.1 q) (by simpa using q2) (Decidable.not_not.1 q3)
def rfar_S : Prop := ∀ (gl : Glob) (g h : Bool) (xs rd : List (List AV)) (k t f a b c code : Int) (nm : ByteArray), NrsP xs ∧ RdsP rd → fnK Tryd.prog { glob := gl, spec := lk [(33, rfind_s), (18, rcheck_s), (42, rcLook_s)], specH := lk [], nowf := true } { nt := 49, drop := drp [(1, 1032192), (2, 1048576), (4, 532676608), (5, 549218942976), (6, 17042430230528), (8, 527765581332480)] } (fun _ _ => none) 6 Tryd.f21 [.agg [.sl 5 g xs], .agg [.int .i64 k, .str nm, .int .i64 t, .int .i64 f, .int .i64 a, .int .i64 b, .int .i64 c, .sl 2 h rd], .int .i64 code] (.tup [.int .i64 (farV xs rd t f a b c code), .bool (farB xs rd t f a b c code)])
set_option maxRecDepth 100000 in
theorem rfar_e : rfar_T = rfar_S := by kernel_rfl
theorem rfar_v : rfar_S := @Eq.mp (rfar_T) (rfar_S) (rfar_e) rfar_P
theorem rfar_ok (gl : Glob) : SOK Tryd.prog gl 21 rfar_s := by
  refine ⟨fok Tryd.func21 (by kernel_rfl) (by kernel_rfl), ?_⟩
  intro xs pre r h hp
  unfold rfar_s at h
  split at h
  · simp only [Option.some.injEq, Prod.mk.injEq] at h
    obtain ⟨h1, h2⟩ := h
    subst h1 h2
    exact fnK_sound tyNil (by exact specOK rfl rfl ⟨(rfind_ok gl), (rcheck_ok gl), (rcLook_ok gl), trivial⟩ trivial) (by kernel_rfl) Tryd.func21 rfl (rfar_v gl _ _ _ _ _ _ _ _ _ _ _ _ hp)
  · cases h
end Go.Proofs.YtceknalhogbbnaaDoor
