/- Climates: the reference's Learn, by what it promises. -/
import Derived.Test.YtceknalhogbbnaaDoorSeC
namespace Go.Proofs.YtceknalhogbbnaaDoor
open Go
set_option linter.unusedVariables false
set_option linter.unusedSimpArgs false

def rfloor_s : Sp
  | [.int .i64 a, .int .i64 b] => some (1 ≤ b ∧ b ≤ 1000000 ∧ -1000000000000 ≤ a ∧ a ≤ 1000000000000, .int .i64 (a / b))
  | _ => none
set_option maxRecDepth 100000 in
def rfloor_T : Prop :=
  ∀ (gl : Glob) (a b : Int), (1 : Int) ≤ b ∧ b ≤ (1000000 : Int) ∧ (-1000000000000 : Int) ≤ a ∧ a ≤ (1000000000000 : Int) → (-9223372036854775808 : Int) ≤ a ∧ a ≤
  (9223372036854775807 : Int) → (-9223372036854775808 : Int) ≤ b ∧ b ≤ (9223372036854775807 : Int) → bif decide ¬b = (0 : Int) then bif decide (rng IntKind.i64 (a.tdiv b)) then bif
  decide ¬b = (0 : Int) then bif decide (a.tmod b < (0 : Int)) then bif decide (rng IntKind.i64 (a.tdiv b - (1 : Int))) then a.tdiv b - (1 : Int) = a / b else False else a.tdiv b = a
  / b else False else False else False
set_option maxRecDepth 100000 in
theorem rfloor_P : rfloor_T := by
  unfold rfloor_T
  intro gl a b ⟨h1, h2, h3, h4⟩ _ _
  have q1 : -1000000000000 ≤ a.tdiv b ∧ a.tdiv b ≤ 1000000000000 := by
    have : (a.tdiv b).natAbs ≤ a.natAbs := by rw [Int.natAbs_tdiv]; exact Nat.div_le_self _ _
    omega
  have hd := Int.mul_tdiv_add_tmod a b
  have hm := Int.tmod_lt_of_pos a (b := b) (by omega)
  have hm2 : 0 ≤ a → 0 ≤ a.tmod b := fun h => Int.tmod_nonneg b h
  have hm3 : -b < a.tmod b := by
    have := Int.tmod_lt_of_pos (-a) (b := b) (by omega)
    rw [Int.neg_tmod] at this; omega
  refine cd1 (by omega) (cdI (by omega) (cd1 (by omega) (cs (fun q => cdI (by omega) ?_) (fun q => ?_))))
  · have e : a = b * (a.tdiv b - 1) + (a.tmod b + b) := by rw [Int.mul_sub]; omega
    have := Int.ediv_emod_unique (a := a) (b := b) (r := a.tmod b + b) (q := a.tdiv b - 1) (by omega)
    exact (this.2 ⟨by omega, by omega, by omega⟩).1.symm
  · have := Int.ediv_emod_unique (a := a) (b := b) (r := a.tmod b) (q := a.tdiv b) (by omega)
    exact (this.2 ⟨by omega, by omega, by omega⟩).1.symm
def rfloor_S : Prop := ∀ (gl : Glob) (a b : Int), 1 ≤ b ∧ b ≤ 1000000 ∧ -1000000000000 ≤ a ∧ a ≤ 1000000000000 → fnK Tryd.prog { glob := gl, spec := lk [], specH := lk [], nowf := true } { nt := 16, drop := drp [(1, 448), (2, 3584), (3, 24576), (4, 32768)] } (fun _ _ => none) 6 Tryd.f34 [.int .i64 a, .int .i64 b] (.int .i64 (a / b))
set_option maxRecDepth 100000 in
theorem rfloor_e : rfloor_T = rfloor_S := by kernel_rfl
theorem rfloor_v : rfloor_S := @Eq.mp (rfloor_T) (rfloor_S) (rfloor_e) rfloor_P
theorem rfloor_ok (gl : Glob) : SOK Tryd.prog gl 34 rfloor_s := by
  refine ⟨fok Tryd.func34 (by kernel_rfl) (by kernel_rfl), ?_⟩
  intro xs pre r h hp
  unfold rfloor_s at h
  split at h
  · simp only [Option.some.injEq, Prod.mk.injEq] at h
    obtain ⟨h1, h2⟩ := h
    subst h1 h2
    exact fnK_sound tyNil (by exact specOK rfl rfl trivial trivial) (by kernel_rfl) Tryd.func34 rfl (rfloor_v gl _ _ hp)
  · cases h
/-! What is read of a report. -/
def rpT (r : List AV) : Int := nC 2 r
def rpF (r : List AV) : Int := nC 3 r
def rpR (r : List AV) : List (List AV) := match r.drop 7 with
  | [.sl _ _ xs] => xs
  | _ => []
def ltK (c f m c' f' m' : Int) : Prop := c < c' ∨ (c = c' ∧ (f < f' ∨ (f = f' ∧ m < m')))
/-- The normal of a reading e, v is there. -/
def HasN (ys : List (List AV)) (e f m v : Int) : Prop := ∃ k, k < ys.length ∧ mtP e f m (ys.getD k []) = true ∧ v - nC 3 (ys.getD k []) ≤ nC 4 (ys.getD k []) ∧ nC 3 (ys.getD k []) - v ≤ nC 4 (ys.getD k [])
structure LrnN (ys : List (List AV)) (c f m : Int) : Prop where
  frow : ∀ i, i < ys.length → ∃ e g q a s : Int, ys.getD i [] = [.int .i64 e, .int .i64 g, .int .i64 q, .int .i64 a, .int .i64 s] ∧ (1 ≤ e ∧ e ≤ 11) ∧ (0 ≤ g ∧ g < 20) ∧ (1 ≤ q ∧ q ≤ 12) ∧ (-1000 ≤ a ∧ a ≤ 11000) ∧ (0 ≤ s ∧ s ≤ 12000) ∧ ltK e g q c f m
  ford : ordN ys = true
  flen : (ys.length : Int) ≤ (c - 1) * 240 + f * 12 + (m - 1)
/-- All readings of which the key is less have their normals. -/
structure LrnC (rs ys : List (List AV)) (c f m : Int) : Prop where
  fc : ∀ i, i < rs.length → ∀ j, j < (rpR (rs.getD i [])).length → ltK (rE ((rpR (rs.getD i [])).getD j [])) (rpF (rs.getD i [])) (dtM (rpT (rs.getD i []))) c f m → HasN ys (rE ((rpR (rs.getD i [])).getD j [])) (rpF (rs.getD i [])) (dtM (rpT (rs.getD i []))) (rV ((rpR (rs.getD i [])).getD j []))
structure LrnP (rs ys : List (List AV)) (c f m : Int) : Prop where
  fc : 1 ≤ c ∧ c ≤ 12
  ff : 0 ≤ f ∧ f ≤ 20
  fm : 1 ≤ m ∧ m ≤ 13
  fn : LrnN ys c f m
  fv : LrnC rs ys c f m
structure Lrn1 (rs : List (List AV)) (i : Int) : Prop where
  flo : 0 ≤ i
  fhi : i ≤ rs.length
structure Lrn2 (rs : List (List AV)) (x : Int × List (List AV)) : Prop where
  fp : LrnP rs x.2 x.1 0 1
structure Lrn3 (rs : List (List AV)) (c : Int) (x : Int × List (List AV)) : Prop where
  fp : LrnP rs x.2 c x.1 1
  fc : c ≤ 11
structure Lrn4 (rs : List (List AV)) (c f : Int) (x : Int × List (List AV)) : Prop where
  fp : LrnP rs x.2 c f x.1
  fc : c ≤ 11
  ff : f < 20
/-- The values of the first i reports at one key. -/
structure Vals (rs vs : List (List AV)) (c f m i s : Int) : Prop where
  flo : 0 ≤ i
  fhi : i ≤ rs.length
  fl : (vs.length : Int) ≤ i
  fb : ∀ q, q < vs.length → ∃ v : Int, vs.getD q [] = [.int .i64 v] ∧ -1000 ≤ v ∧ v ≤ 11000
  fs : -1000 * vs.length ≤ s ∧ s ≤ 11000 * vs.length
  fc : ∀ k : Nat, (k : Int) < i → fdB (rpR (rs.getD k [])) c = true → rpF (rs.getD k []) = f → dtM (rpT (rs.getD k [])) = m → ∃ q, q < vs.length ∧ vs.getD q [] = [.int .i64 (fdV (rpR (rs.getD k [])) c)]
structure Lrn5 (rs : List (List AV)) (c f m : Int) (x : Int × Int × List (List AV)) : Prop where
  fv : Vals rs x.2.2 c f m x.1 x.2.1
structure Lrn6 (vs : List (List AV)) (a : Int) (x : Int × Int) : Prop where
  flo : 0 ≤ x.1
  fhi : x.1 ≤ vs.length
  fs : 0 ≤ x.2 ∧ x.2 ≤ 12000
  fc : ∀ q : Nat, (q : Int) < x.1 → cellI (vs.getD q []) - a ≤ x.2 ∧ a - cellI (vs.getD q []) ≤ x.2
def l1J (g : Bool) (rs : List (List AV)) : LInv := ⟨Int, fun i => ⟨[(0, .sl 8 g rs), (2, .ptr 1002 0), (3, .int .i64 0), (22, .sl 8 g rs), (23, .int .i64 rs.length), (24, .int .i64 i)], [(1002, .cells [.nils])]⟩, Lrn1 rs, fun i => (rs.length - i).toNat, none⟩
def lBl (ys : List (List AV)) : List (Nat × Blk) := [(1002, .cells [.nils]), (1007, .cells [.rw 1500 5 ys.length]), (1500, .row 43 5 ys)]
def l2J (g : Bool) (rs : List (List AV)) : LInv := ⟨Int × List (List AV), fun x => ⟨[(0, .sl 8 g rs), (2, .ptr 1002 0), (3, .int .i64 0), (7, .ptr 1007 0), (8, .int .i64 x.1)], lBl x.2⟩, Lrn2 rs, fun x => (12 - x.1).toNat, none⟩
def l3J (g : Bool) (rs : List (List AV)) (c : Int) : LInv := ⟨Int × List (List AV), fun x => ⟨[(0, .sl 8 g rs), (2, .ptr 1002 0), (3, .int .i64 0), (7, .ptr 1007 0), (8, .int .i64 c), (9, .int .i64 x.1)], lBl x.2⟩, Lrn3 rs c, fun x => (20 - x.1).toNat, none⟩
def l4J (g : Bool) (rs : List (List AV)) (c f : Int) : LInv := ⟨Int × List (List AV), fun x => ⟨[(0, .sl 8 g rs), (2, .ptr 1002 0), (3, .int .i64 0), (7, .ptr 1007 0), (8, .int .i64 c), (9, .int .i64 f), (10, .int .i64 x.1)], lBl x.2⟩, Lrn4 rs c f, fun x => (13 - x.1).toNat, none⟩
def l5J (g : Bool) (rs : List (List AV)) (c f m : Int) (ys : List (List AV)) : LInv := ⟨Int × Int × List (List AV), fun x => ⟨[(0, .sl 8 g rs), (2, .ptr 1002 0), (3, .int .i64 0), (7, .ptr 1007 0), (8, .int .i64 c), (9, .int .i64 f), (10, .int .i64 m), (11, .rw 1600 1 x.2.2.length), (12, .int .i64 x.2.1), (59, .sl 8 g rs), (60, .int .i64 rs.length), (61, .int .i64 x.1)], [(1002, .cells [.nils]), (1007, .cells [.rw 1500 5 ys.length]), (1500, .row 43 5 ys), (1600, .row 3 1 x.2.2)]⟩, Lrn5 rs c f m, fun x => (rs.length - x.1).toNat, none⟩
def l6J (g : Bool) (rs : List (List AV)) (c f m a : Int) (ys vs : List (List AV)) : LInv := ⟨Int × Int, fun x => ⟨[(0, .sl 8 g rs), (2, .ptr 1002 0), (3, .int .i64 0), (7, .ptr 1007 0), (8, .int .i64 c), (9, .int .i64 f), (10, .int .i64 m), (19, .ptr 1019 0), (111, .rw 1600 1 vs.length), (112, .int .i64 vs.length), (113, .int .i64 x.1)], [(1002, .cells [.nils]), (1007, .cells [.rw 1500 5 ys.length]), (1019, .cells [.int .i64 c, .int .i64 f, .int .i64 m, .int .i64 a, .int .i64 x.2]), (1500, .row 43 5 ys), (1600, .row 3 1 vs)]⟩, Lrn6 vs a, fun x => (vs.length - x.1).toNat, none⟩
def lrnJ (g : Bool) (rs : List (List AV)) (id : Nat) (st : St) : Option LInv :=
  cond (Nat.beq id 2) (some (l1J g rs)) (cond (Nat.beq id 12) (some (l2J g rs)) (cond (Nat.beq id 15) (match lk st.tmps 8 with
    | some (.int _ c) => some (l3J g rs c)
    | _ => none) (cond (Nat.beq id 18) (match lk st.tmps 8, lk st.tmps 9 with
    | some (.int _ c), some (.int _ f) => some (l4J g rs c f)
    | _, _ => none) (cond (Nat.beq id 23) (match lk st.tmps 8, lk st.tmps 9, lk st.tmps 10, lk st.heap 1500 with
    | some (.int _ c), some (.int _ f), some (.int _ m), some (.row _ _ ys) => some (l5J g rs c f m ys)
    | _, _, _, _ => none) (cond (Nat.beq id 34) (match lk st.heap 1019, lk st.heap 1500, lk st.heap 1600 with
    | some (.cells [.int _ c, .int _ f, .int _ m, .int _ a, _]), some (.row _ _ ys), some (.row _ _ vs) => some (l6J g rs c f m a ys vs)
    | _, _, _ => none) none)))))
structure LrnQ (rs ys : List (List AV)) (e : Int) : Prop where
  fe : e = 0 ∨ (e = 2 ∧ ys = [])
  fl : ys.length ≤ 200
  fn : LrnN ys 12 0 1
  fc : e = 0 → LrnC rs ys 12 0 1
theorem dtM_bd {t : Int} (h : 0 ≤ t ∧ t ≤ 52595999) : 1 ≤ dtM t ∧ dtM t ≤ 12 := by
  have := (moF_spec h).1
  unfold dtM
  omega
theorem rdV_ok {rd : List (List AV)} (h : RdV 12 rd) : RdsP rd ∧ vdE rd = 0 := by
  have hp : RdsP rd := by
    refine ⟨fun i hi => ?_, by have := h.flen; omega⟩
    obtain ⟨e, v, h1, h2, h3⟩ := h.frow i hi
    have b := in_bd (c := e) (by omega)
    exact ⟨e, v, h1, by show _ ∧ _; omega, by show _ ∧ _; omega⟩
  refine ⟨hp, ?_⟩
  have k4 : ckA 4 rd = false := any_no fun j hj => by
    obtain ⟨e, v, h1, h2, h3⟩ := h.frow j hj
    rw [h1]
    refine decide_eq_false fun q => ?_
    have q : ck e v = 4 := q
    unfold ck at q
    have ho : okC e = true := decide_eq_true (by omega)
    rw [ho, if_pos rfl, if_neg (by omega)] at q
    omega
  have k1 : ckA 1 rd = false := any_no fun j hj => by
    obtain ⟨e, v, h1, h2, h3⟩ := h.frow j hj
    rw [h1]
    refine decide_eq_false fun q => ?_
    have q : ck e v = 1 := q
    unfold ck at q
    have ho : okC e = true := decide_eq_true (by omega)
    rw [ho, if_pos rfl, if_neg (by omega)] at q
    omega
  have ka : ascB rd = true := decide_eq_true fun j hj => by
    rcases Nat.eq_zero_or_pos j with h0 | h0
    · exact .inl h0
    · exact .inr (h.fasc (j - 1) j (by omega) hj)
  unfold vdE
  rw [k4, k1, ka]; rfl
theorem find_at {rd : List (List AV)} (h : RdV 12 rd) {j : Nat} (hj : j < rd.length) : fdB rd (rE (rd.getD j [])) = true ∧ fdV rd (rE (rd.getD j [])) = rV (rd.getD j []) := by
  have e : (j : Int) = cdI' (rE (rd.getD j [])) rd := idx_some (p := cdP (rE (rd.getD j []))) hj (decide_eq_true rfl) (fun k hk => decide_eq_false (by have := h.fasc k j hk hj; omega))
  have hb : fdB rd (rE (rd.getD j [])) = true := decide_eq_true (by omega)
  refine ⟨hb, ?_⟩
  unfold fdV
  rw [if_pos hb, ← e]
  rfl
theorem rps_row {rs : List (List AV)} (h : RpsV rs) {i : Nat} (hi : i < rs.length) : (0 ≤ rpT (rs.getD i []) ∧ rpT (rs.getD i []) ≤ 52595999) ∧ (0 ≤ rpF (rs.getD i []) ∧ rpF (rs.getD i []) < 20) ∧ RdV 12 (rpR (rs.getD i [])) := by
  obtain ⟨k, nm, t, f, a, b, c, rd, he, hr⟩ := h.frow i hi
  rw [he]
  exact ⟨hr.ft, hr.fv.face, hr.fr⟩
theorem ltK_tr {c f m c' f' m' c2 f2 m2 : Int} (h : ltK c f m c' f' m') (k : ltK c' f' m' c2 f2 m2) : ltK c f m c2 f2 m2 := by
  unfold ltK at *; omega
theorem lrnN_up {ys : List (List AV)} {c f m c' f' m' : Int} (h : LrnN ys c f m) (k : ltK c f m c' f' m') (hl : (c - 1) * 240 + f * 12 + (m - 1) ≤ (c' - 1) * 240 + f' * 12 + (m' - 1)) : LrnN ys c' f' m' :=
  ⟨fun i hi => by obtain ⟨e, g, q, a, s, h1, h2, h3, h4, h5, h6, h7⟩ := h.frow i hi; exact ⟨e, g, q, a, s, h1, h2, h3, h4, h5, h6, ltK_tr h7 k⟩, h.ford, by have := h.flen; omega⟩
theorem lrn_f {rs ys : List (List AV)} {c f : Int} (hr : RpsV rs) (h : LrnP rs ys c f 13) (hf : f < 20) : LrnP rs ys c (f + 1) 1 := by
  refine ⟨h.fc, by have := h.ff; omega, by decide, lrnN_up h.fn (by unfold ltK; omega) (by omega), ⟨fun i hi j hj hk => h.fv.fc i hi j hj ?_⟩⟩
  have := dtM_bd (rps_row hr hi).1
  unfold ltK at *
  omega
theorem lrn_c {rs ys : List (List AV)} {c : Int} (hr : RpsV rs) (h : LrnP rs ys c 20 1) (hc : c ≤ 11) : LrnP rs ys (c + 1) 0 1 := by
  refine ⟨by have := h.fc; omega, by decide, by decide, lrnN_up h.fn (by unfold ltK; omega) (by omega), ⟨fun i hi j hj hk => h.fv.fc i hi j hj ?_⟩⟩
  have r1 := (rps_row hr hi).2.1
  have r2 := dtM_bd (rps_row hr hi).1
  unfold ltK at *
  omega
theorem lrn_m0 {rs ys : List (List AV)} {c f m s : Int} (hr : RpsV rs) (h : LrnP rs ys c f m) (hm : m ≤ 12) (hv : Vals rs [] c f m rs.length s) : LrnP rs ys c f (m + 1) := by
  refine ⟨h.fc, h.ff, by have := h.fm; omega, lrnN_up h.fn (by unfold ltK; omega) (by omega), ⟨fun i hi j hj hk => ?_⟩⟩
  by_cases he : rE ((rpR (rs.getD i [])).getD j []) = c ∧ rpF (rs.getD i []) = f ∧ dtM (rpT (rs.getD i [])) = m
  · obtain ⟨e1, e2, e3⟩ := he
    obtain ⟨b1, b2⟩ := find_at (rps_row hr hi).2.2 hj
    rw [e1] at b1
    obtain ⟨q, hq, _⟩ := hv.fc i (by omega) b1 e2 e3
    simp at hq
  · exact h.fv.fc i hi j hj (by unfold ltK at *; omega)
theorem hasN_app {ys : List (List AV)} {r : List AV} {e f m v : Int} (h : HasN ys e f m v) : HasN (ys ++ [r]) e f m v := by
  obtain ⟨k, h1, h2⟩ := h
  exact ⟨k, by simp; omega, by rw [gD_app, if_pos h1]; exact h2⟩
theorem lrn_m1 {rs ys vs : List (List AV)} {c f m s a d : Int} (hr : RpsV rs) (h : LrnP rs ys c f m) (hc : c ≤ 11) (hf : f < 20) (hm : m ≤ 12) (hv : Vals rs vs c f m rs.length s) (ha : -1000 ≤ a ∧ a ≤ 11000) (hd : Lrn6 vs a (vs.length, d)) :
    LrnP rs (ys ++ [[.int .i64 c, .int .i64 f, .int .i64 m, .int .i64 a, .int .i64 d]]) c f (m + 1) := by
  have hcc := h.fc
  have hff := h.ff
  have hmm := h.fm
  have hds : 0 ≤ d ∧ d ≤ 12000 := hd.fs
  have len : (ys ++ [[AV.int .i64 c, .int .i64 f, .int .i64 m, .int .i64 a, .int .i64 d]]).length = ys.length + 1 := by simp
  have last : (ys ++ [[AV.int .i64 c, .int .i64 f, .int .i64 m, .int .i64 a, .int .i64 d]]).getD ys.length [] = [.int .i64 c, .int .i64 f, .int .i64 m, .int .i64 a, .int .i64 d] := by rw [gD_app, if_neg (by omega), Nat.sub_self]; rfl
  refine ⟨hcc, hff, by omega, ⟨fun i hi => ?_, decide_eq_true fun j hj => ?_, by have := h.fn.flen; rw [len]; omega⟩, ⟨fun i hi j hj hk => ?_⟩⟩
  · rw [len] at hi
    by_cases hl : i < ys.length
    · rw [gD_app, if_pos hl]
      obtain ⟨e, g, q, a, s, h1, h2, h3, h4, h5, h6, h7⟩ := h.fn.frow i hl
      exact ⟨e, g, q, a, s, h1, h2, h3, h4, h5, h6, ltK_tr h7 (by unfold ltK; omega)⟩
    · rw [show i = ys.length by omega, last]
      exact ⟨c, f, m, a, d, rfl, by omega, by omega, by omega, ha, hds, by unfold ltK; omega⟩
  · rw [len] at hj
    rcases Nat.eq_zero_or_pos j with h0 | h0
    · exact .inl h0
    · right
      by_cases hl : j < ys.length
      · rw [gD_app, gD_app, if_pos hl, if_pos (by omega)]
        exact (of_decide_eq_true h.fn.ford j hl).resolve_left (by omega)
      · have hj' : j = ys.length := by omega
        subst hj'
        rw [last, gD_app, if_pos (by omega)]
        obtain ⟨e, g, q, a', s', h1, h2, h3, h4, h5, h6, h7⟩ := h.fn.frow (ys.length - 1) (by omega)
        rw [h1]
        exact (cmp3_neg _ _ _ _ _ _).2 h7
  · by_cases he : rE ((rpR (rs.getD i [])).getD j []) = c ∧ rpF (rs.getD i []) = f ∧ dtM (rpT (rs.getD i [])) = m
    · obtain ⟨e1, e2, e3⟩ := he
      obtain ⟨b1, b2⟩ := find_at (rps_row hr hi).2.2 hj
      rw [e1] at b1 b2
      obtain ⟨q, hq, hqv⟩ := hv.fc i (by omega) b1 e2 e3
      have hs := hd.fc q (by simp only; omega)
      rw [hqv, b2] at hs
      simp only [cellI] at hs
      refine ⟨ys.length, by omega, ?_, ?_, ?_⟩
      · rw [last, e1, e2, e3]; exact decide_eq_true ⟨rfl, rfl, rfl⟩
      · rw [last]; exact hs.1
      · rw [last]; exact hs.2
    · exact hasN_app (h.fv.fc i hi j hj (by unfold ltK at *; omega))
theorem vals_nil {rs : List (List AV)} {c f m : Int} : Vals rs [] c f m 0 0 := ⟨by decide, by omega, by simp, fun q h => by simp at h, by simp, fun k h => by omega⟩
theorem vals_no {rs vs : List (List AV)} {c f m i s : Int} (h : Vals rs vs c f m i s) (hi : i < rs.length) (hn : ¬ (fdB (rpR (rs.getD i.toNat [])) c = true ∧ rpF (rs.getD i.toNat []) = f ∧ dtM (rpT (rs.getD i.toNat [])) = m)) : Vals rs vs c f m (i + 1) s := by
  have h0 := h.flo
  refine ⟨by omega, by omega, by have := h.fl; omega, h.fb, h.fs, fun k hk h1 h2 h3 => ?_⟩
  rcases Nat.lt_or_ge k i.toNat with q | q
  · exact h.fc k (by omega) h1 h2 h3
  · rw [show k = i.toNat by omega] at h1 h2 h3
    exact absurd ⟨h1, h2, h3⟩ hn
theorem vals_add {rs vs : List (List AV)} {c f m i s : Int} (hr : RpsV rs) (h : Vals rs vs c f m i s) (hi : i < rs.length) (hb : fdB (rpR (rs.getD i.toNat [])) c = true) : Vals rs (vs ++ [[.int .i64 (fdV (rpR (rs.getD i.toNat [])) c)]]) c f m (i + 1) (s + fdV (rpR (rs.getD i.toNat [])) c) := by
  have h0 := h.flo
  have bd := fd_bd (rdV_ok (rps_row hr (i := i.toNat) (by omega)).2.2).2 hb
  have hs := h.fs
  refine ⟨by omega, by omega, by have := h.fl; simp; omega, fun q hq => ?_, by simp only [List.length_append, List.length_singleton]; omega, fun k hk h1 h2 h3 => ?_⟩
  · rw [List.length_append, List.length_singleton] at hq
    rw [gD_app]
    by_cases hl : q < vs.length
    · rw [if_pos hl]; exact h.fb q hl
    · rw [if_neg hl, show q - vs.length = 0 by omega]
      exact ⟨_, rfl, bd⟩
  · rcases Nat.lt_or_ge k i.toNat with q | q
    · obtain ⟨p, h4, h5⟩ := h.fc k (by omega) h1 h2 h3
      exact ⟨p, by simp; omega, by rw [gD_app, if_pos h4]; exact h5⟩
    · refine ⟨vs.length, by simp, ?_⟩
      rw [gD_app, if_neg (by omega), Nat.sub_self, show k = i.toNat by omega]
      rfl
theorem lrn_start {rs : List (List AV)} (hr : RpsV rs) : LrnP rs [] 1 0 1 := by
  refine ⟨by decide, by decide, by decide, ⟨fun i h => by simp at h, rfl, by simp⟩, ⟨fun i hi j hj hk => ?_⟩⟩
  have r := rps_row hr hi
  obtain ⟨e, v, h1, h2, _⟩ := r.2.2.frow j hj
  have e1 : rE ((rpR (rs.getD i [])).getD j []) = e := by rw [h1]; rfl
  have m := dtM_bd r.1
  rw [e1] at hk
  unfold ltK at hk
  omega
def qlearn_s : SpQ
  | [.sl 8 g rs], [] => some (fun K => (RpsV rs ∧ rs.length ≤ 1000) ∧ (∀ (ys : List (List AV)) (e : Int), (LrnQ rs ys e) → K (.tup [.agg [.rw 0 5 ys.length], .int .i64 e]) [.row 43 5 ys]))
  | _, _ => none
set_option maxRecDepth 100000 in
def qlearn_T : Prop :=
  ∀ (gl : Glob) (g : Bool) (rs : List (List AV)), RpsV rs ∧ rs.length ≤ (1000 : Nat) → (∃ x, Lrn1 rs x ∧ (((bif g then g = true else True) ∧ rs = rs) ∧ (0 : Nat) = (0 : Nat) ∧ (0 :
  Int) = (0 : Int) ∧ ((bif g then g = true else True) ∧ rs = rs) ∧ (↑rs.length : Int) = (↑rs.length : Int) ∧ (0 : Int) = x ∧ True) ∧ (True ∧ True) ∧ True) ∧ ∀ (x : Int), Lrn1 rs x →
  bif decide (x < (↑rs.length : Int)) then bif decide ((0 : Int) ≤ x ∧ x < (↑rs.length : Int)) then ∃ n s n_1 n_2 n_3 n_4 n_5 xs, List.take [AV.int IntKind.i64 n, AV.str s, AV.int
  IntKind.i64 n_1, AV.int IntKind.i64 n_2, AV.int IntKind.i64 n_3, AV.int IntKind.i64 n_4, AV.int IntKind.i64 n_5, AV.sl (2 : Nat) false xs].length (rs.getD x.toNat []) = [AV.int
  IntKind.i64 n, AV.str s, AV.int IntKind.i64 n_1, AV.int IntKind.i64 n_2, AV.int IntKind.i64 n_3, AV.int IntKind.i64 n_4, AV.int IntKind.i64 n_5, AV.sl (2 : Nat) false xs] ∧ True ∧
  bif !isN n_2 n_3 n_4 n_5 then ∃ ys e, LrnQ rs ys e ∧ (((0 : Nat) = ys.length ∧ True) ∧ (1 : Int) = e ∧ True) ∧ [] = ys ∧ True else True ∧ bif !inB n_1 then ∃ ys e, LrnQ rs ys e ∧
  (((0 : Nat) = ys.length ∧ True) ∧ (1 : Int) = e ∧ True) ∧ [] = ys ∧ True else RdsP xs ∧ bif decide ¬vdE xs = (0 : Int) then ∃ ys e, LrnQ rs ys e ∧ (((0 : Nat) = ys.length ∧ True) ∧
  vdE xs = e ∧ True) ∧ [] = ys ∧ True else bif decide (rng IntKind.i64 (x + (1 : Int))) then ∃ y, Lrn1 rs y ∧ (l1J g rs).m y < (l1J g rs).m x ∧ (((bif g then g = true else True) ∧ rs
  = rs) ∧ (0 : Nat) = (0 : Nat) ∧ (0 : Int) = (0 : Int) ∧ ((bif g then g = true else True) ∧ rs = rs) ∧ (↑rs.length : Int) = (↑rs.length : Int) ∧ x + (1 : Int) = y ∧ True) ∧ (True ∧
  True) ∧ True else False else False else (∃ x, Lrn2 rs x ∧ (((bif g then g = true else True) ∧ rs = rs) ∧ (0 : Nat) = (0 : Nat) ∧ (0 : Int) = (0 : Int) ∧ (0 : Nat) = (0 : Nat) ∧ (1
  : Int) = x.fst ∧ True) ∧ (True ∧ True) ∧ ((0 : Nat) = x.snd.length ∧ True) ∧ [] = x.snd ∧ True) ∧ ∀ (x : Int × List (List AV)), Lrn2 rs x → bif decide (x.fst ≤ (11 : Int)) then (∃
  x_1, Lrn3 rs x.fst x_1 ∧ (((bif g then g = true else True) ∧ rs = rs) ∧ (0 : Nat) = (0 : Nat) ∧ (0 : Int) = (0 : Int) ∧ (0 : Nat) = (0 : Nat) ∧ x.fst = x.fst ∧ (0 : Int) = x_1.fst
  ∧ True) ∧ (True ∧ True) ∧ (x.snd.length = x_1.snd.length ∧ True) ∧ x.snd = x_1.snd ∧ True) ∧ ∀ (x_1 : Int × List (List AV)), Lrn3 rs x.fst x_1 → bif decide (x_1.fst < (20 : Int))
  then (∃ x_2, Lrn4 rs x.fst x_1.fst x_2 ∧ (((bif g then g = true else True) ∧ rs = rs) ∧ (0 : Nat) = (0 : Nat) ∧ (0 : Int) = (0 : Int) ∧ (0 : Nat) = (0 : Nat) ∧ x.fst = x.fst ∧
  x_1.fst = x_1.fst ∧ (1 : Int) = x_2.fst ∧ True) ∧ (True ∧ True) ∧ (x_1.snd.length = x_2.snd.length ∧ True) ∧ x_1.snd = x_2.snd ∧ True) ∧ ∀ (x_2 : Int × List (List AV)), Lrn4 rs
  x.fst x_1.fst x_2 → bif decide (x_2.fst ≤ (12 : Int)) then (∃ x_3, Lrn5 rs x.fst x_1.fst x_2.fst x_3 ∧ (((bif g then g = true else True) ∧ rs = rs) ∧ (0 : Nat) = (0 : Nat) ∧ (0 :
  Int) = (0 : Int) ∧ (0 : Nat) = (0 : Nat) ∧ x.fst = x.fst ∧ x_1.fst = x_1.fst ∧ x_2.fst = x_2.fst ∧ (0 : Nat) = x_3.snd.snd.length ∧ (0 : Int) = x_3.snd.fst ∧ ((bif g then g = true
  else True) ∧ rs = rs) ∧ (↑rs.length : Int) = (↑rs.length : Int) ∧ (0 : Int) = x_3.fst ∧ True) ∧ (True ∧ True) ∧ (x_2.snd.length = x_2.snd.length ∧ True) ∧ x_2.snd = x_2.snd ∧ [] =
  x_3.snd.snd ∧ True) ∧ ∀ (x_3 : Int × Int × List (List AV)), Lrn5 rs x.fst x_1.fst x_2.fst x_3 → bif decide (x_3.fst < (↑rs.length : Int)) then bif decide ((0 : Int) ≤ x_3.fst ∧
  x_3.fst < (↑rs.length : Int)) then ∃ n s n_1 n_2 n_3 n_4 n_5 xs, List.take [AV.int IntKind.i64 n, AV.str s, AV.int IntKind.i64 n_1, AV.int IntKind.i64 n_2, AV.int IntKind.i64 n_3,
  AV.int IntKind.i64 n_4, AV.int IntKind.i64 n_5, AV.sl (2 : Nat) false xs].length (rs.getD x_3.fst.toNat []) = [AV.int IntKind.i64 n, AV.str s, AV.int IntKind.i64 n_1, AV.int
  IntKind.i64 n_2, AV.int IntKind.i64 n_3, AV.int IntKind.i64 n_4, AV.int IntKind.i64 n_5, AV.sl (2 : Nat) false xs] ∧ True ∧ RdsP xs ∧ bif fdB xs x.fst then bif decide (n_2 =
  x_1.fst) then bif decide ((if inB n_1 = true then dtM n_1 else (0 : Int)) = x_2.fst) then bif decide (x_3.snd.snd.length = x_3.snd.snd.length ∧ x_3.snd.snd.length + [[AV.int
  IntKind.i64 (fdV xs x.fst)]].length ≤ (9223372036854775807 : Nat) ∧ (x_3.snd.snd.length + [[AV.int IntKind.i64 (fdV xs x.fst)]].length) * (8 : Nat) ≤ (140737488355328 : Nat)) then
  bif decide (rng IntKind.i64 (x_3.snd.fst + fdV xs x.fst)) then bif decide (rng IntKind.i64 (x_3.fst + (1 : Int))) then ∃ y, Lrn5 rs x.fst x_1.fst x_2.fst y ∧ (l5J g rs x.fst
  x_1.fst x_2.fst x_2.snd).m y < (l5J g rs x.fst x_1.fst x_2.fst x_2.snd).m x_3 ∧ (((bif g then g = true else True) ∧ rs = rs) ∧ (0 : Nat) = (0 : Nat) ∧ (0 : Int) = (0 : Int) ∧ (0 :
  Nat) = (0 : Nat) ∧ x.fst = x.fst ∧ x_1.fst = x_1.fst ∧ x_2.fst = x_2.fst ∧ (x_3.snd.snd ++ [[AV.int IntKind.i64 (fdV xs x.fst)]]).length = y.snd.snd.length ∧ x_3.snd.fst + fdV xs
  x.fst = y.snd.fst ∧ ((bif g then g = true else True) ∧ rs = rs) ∧ (↑rs.length : Int) = (↑rs.length : Int) ∧ x_3.fst + (1 : Int) = y.fst ∧ True) ∧ (True ∧ True) ∧ (x_2.snd.length =
  x_2.snd.length ∧ True) ∧ x_2.snd = x_2.snd ∧ x_3.snd.snd ++ [[AV.int IntKind.i64 (fdV xs x.fst)]] = y.snd.snd ∧ True else False else False else False else bif decide (rng
  IntKind.i64 (x_3.fst + (1 : Int))) then ∃ y, Lrn5 rs x.fst x_1.fst x_2.fst y ∧ (l5J g rs x.fst x_1.fst x_2.fst x_2.snd).m y < (l5J g rs x.fst x_1.fst x_2.fst x_2.snd).m x_3 ∧
  (((bif g then g = true else True) ∧ rs = rs) ∧ (0 : Nat) = (0 : Nat) ∧ (0 : Int) = (0 : Int) ∧ (0 : Nat) = (0 : Nat) ∧ x.fst = x.fst ∧ x_1.fst = x_1.fst ∧ x_2.fst = x_2.fst ∧
  x_3.snd.snd.length = y.snd.snd.length ∧ x_3.snd.fst = y.snd.fst ∧ ((bif g then g = true else True) ∧ rs = rs) ∧ (↑rs.length : Int) = (↑rs.length : Int) ∧ x_3.fst + (1 : Int) =
  y.fst ∧ True) ∧ (True ∧ True) ∧ (x_2.snd.length = x_2.snd.length ∧ True) ∧ x_2.snd = x_2.snd ∧ x_3.snd.snd = y.snd.snd ∧ True else False else bif decide (rng IntKind.i64 (x_3.fst +
  (1 : Int))) then ∃ y, Lrn5 rs x.fst x_1.fst x_2.fst y ∧ (l5J g rs x.fst x_1.fst x_2.fst x_2.snd).m y < (l5J g rs x.fst x_1.fst x_2.fst x_2.snd).m x_3 ∧ (((bif g then g = true else
  True) ∧ rs = rs) ∧ (0 : Nat) = (0 : Nat) ∧ (0 : Int) = (0 : Int) ∧ (0 : Nat) = (0 : Nat) ∧ x.fst = x.fst ∧ x_1.fst = x_1.fst ∧ x_2.fst = x_2.fst ∧ x_3.snd.snd.length =
  y.snd.snd.length ∧ x_3.snd.fst = y.snd.fst ∧ ((bif g then g = true else True) ∧ rs = rs) ∧ (↑rs.length : Int) = (↑rs.length : Int) ∧ x_3.fst + (1 : Int) = y.fst ∧ True) ∧ (True ∧
  True) ∧ (x_2.snd.length = x_2.snd.length ∧ True) ∧ x_2.snd = x_2.snd ∧ x_3.snd.snd = y.snd.snd ∧ True else False else bif decide (rng IntKind.i64 (x_3.fst + (1 : Int))) then ∃ y,
  Lrn5 rs x.fst x_1.fst x_2.fst y ∧ (l5J g rs x.fst x_1.fst x_2.fst x_2.snd).m y < (l5J g rs x.fst x_1.fst x_2.fst x_2.snd).m x_3 ∧ (((bif g then g = true else True) ∧ rs = rs) ∧ (0
  : Nat) = (0 : Nat) ∧ (0 : Int) = (0 : Int) ∧ (0 : Nat) = (0 : Nat) ∧ x.fst = x.fst ∧ x_1.fst = x_1.fst ∧ x_2.fst = x_2.fst ∧ x_3.snd.snd.length = y.snd.snd.length ∧ x_3.snd.fst =
  y.snd.fst ∧ ((bif g then g = true else True) ∧ rs = rs) ∧ (↑rs.length : Int) = (↑rs.length : Int) ∧ x_3.fst + (1 : Int) = y.fst ∧ True) ∧ (True ∧ True) ∧ (x_2.snd.length =
  x_2.snd.length ∧ True) ∧ x_2.snd = x_2.snd ∧ x_3.snd.snd = y.snd.snd ∧ True else False else False else bif decide ((↑x_3.snd.snd.length : Int) = (0 : Int)) then bif decide (rng
  IntKind.i64 (x_2.fst + (1 : Int))) then ∃ y, Lrn4 rs x.fst x_1.fst y ∧ (l4J g rs x.fst x_1.fst).m y < (l4J g rs x.fst x_1.fst).m x_2 ∧ (((bif g then g = true else True) ∧ rs = rs)
  ∧ (0 : Nat) = (0 : Nat) ∧ (0 : Int) = (0 : Int) ∧ (0 : Nat) = (0 : Nat) ∧ x.fst = x.fst ∧ x_1.fst = x_1.fst ∧ x_2.fst + (1 : Int) = y.fst ∧ True) ∧ (True ∧ True) ∧ (x_2.snd.length
  = y.snd.length ∧ True) ∧ x_2.snd = y.snd ∧ True else False else ((1 : Int) ≤ (↑x_3.snd.snd.length : Int) ∧ (↑x_3.snd.snd.length : Int) ≤ (1000000 : Int) ∧ (-1000000000000 : Int) ≤
  x_3.snd.fst ∧ x_3.snd.fst ≤ (1000000000000 : Int)) ∧ (∃ x_4, Lrn6 x_3.snd.snd (x_3.snd.fst / (↑x_3.snd.snd.length : Int)) x_4 ∧ (((bif g then g = true else True) ∧ rs = rs) ∧ (0 :
  Nat) = (0 : Nat) ∧ (0 : Int) = (0 : Int) ∧ (0 : Nat) = (0 : Nat) ∧ x.fst = x.fst ∧ x_1.fst = x_1.fst ∧ x_2.fst = x_2.fst ∧ (0 : Nat) = (0 : Nat) ∧ x_3.snd.snd.length =
  x_3.snd.snd.length ∧ (↑x_3.snd.snd.length : Int) = (↑x_3.snd.snd.length : Int) ∧ (0 : Int) = x_4.fst ∧ True) ∧ (True ∧ True) ∧ (x_2.snd.length = x_2.snd.length ∧ True) ∧ (x.fst =
  x.fst ∧ x_1.fst = x_1.fst ∧ x_2.fst = x_2.fst ∧ x_3.snd.fst / (↑x_3.snd.snd.length : Int) = x_3.snd.fst / (↑x_3.snd.snd.length : Int) ∧ (0 : Int) = x_4.snd ∧ True) ∧ x_2.snd =
  x_2.snd ∧ x_3.snd.snd = x_3.snd.snd ∧ True) ∧ ∀ (x_4 : Int × Int), Lrn6 x_3.snd.snd (x_3.snd.fst / (↑x_3.snd.snd.length : Int)) x_4 → bif decide (x_4.fst < (↑x_3.snd.snd.length :
  Int)) then bif decide ((0 : Int) ≤ x_4.fst ∧ x_4.fst < (↑x_3.snd.snd.length : Int)) then bif decide (x_3.snd.snd.length = x_3.snd.snd.length ∧ x_4.fst.toNat < x_3.snd.snd.length)
  then ∃ n, List.take [AV.int IntKind.i64 n].length (List.drop (0 : Nat) (x_3.snd.snd.getD x_4.fst.toNat [])) = [AV.int IntKind.i64 n] ∧ bif decide (rng IntKind.i64 (n - x_3.snd.fst
  / (↑x_3.snd.snd.length : Int))) then bif decide (rng IntKind.i64 (x_3.snd.fst / (↑x_3.snd.snd.length : Int) - n)) then bif decide (rng IntKind.i64 (x_4.fst + (1 : Int))) then ∃ y,
  Lrn6 x_3.snd.snd (x_3.snd.fst / (↑x_3.snd.snd.length : Int)) y ∧ (l6J g rs x.fst x_1.fst x_2.fst (x_3.snd.fst / (↑x_3.snd.snd.length : Int)) x_2.snd x_3.snd.snd).m y < (l6J g rs
  x.fst x_1.fst x_2.fst (x_3.snd.fst / (↑x_3.snd.snd.length : Int)) x_2.snd x_3.snd.snd).m x_4 ∧ (((bif g then g = true else True) ∧ rs = rs) ∧ (0 : Nat) = (0 : Nat) ∧ (0 : Int) = (0
  : Int) ∧ (0 : Nat) = (0 : Nat) ∧ x.fst = x.fst ∧ x_1.fst = x_1.fst ∧ x_2.fst = x_2.fst ∧ (0 : Nat) = (0 : Nat) ∧ x_3.snd.snd.length = x_3.snd.snd.length ∧ (↑x_3.snd.snd.length :
  Int) = (↑x_3.snd.snd.length : Int) ∧ x_4.fst + (1 : Int) = y.fst ∧ True) ∧ (True ∧ True) ∧ (x_2.snd.length = x_2.snd.length ∧ True) ∧ (x.fst = x.fst ∧ x_1.fst = x_1.fst ∧ x_2.fst =
  x_2.fst ∧ x_3.snd.fst / (↑x_3.snd.snd.length : Int) = x_3.snd.fst / (↑x_3.snd.snd.length : Int) ∧ max (max x_4.snd (n - x_3.snd.fst / (↑x_3.snd.snd.length : Int))) (x_3.snd.fst /
  (↑x_3.snd.snd.length : Int) - n) = y.snd ∧ True) ∧ x_2.snd = x_2.snd ∧ x_3.snd.snd = x_3.snd.snd ∧ True else False else False else False else False else False else bif decide
  (x_2.snd.length = x_2.snd.length ∧ x_2.snd.length + [[AV.int IntKind.i64 x.fst, AV.int IntKind.i64 x_1.fst, AV.int IntKind.i64 x_2.fst, AV.int IntKind.i64 (x_3.snd.fst /
  (↑x_3.snd.snd.length : Int)), AV.int IntKind.i64 x_4.snd]].length ≤ (9223372036854775807 : Nat) ∧ (x_2.snd.length + [[AV.int IntKind.i64 x.fst, AV.int IntKind.i64 x_1.fst, AV.int
  IntKind.i64 x_2.fst, AV.int IntKind.i64 (x_3.snd.fst / (↑x_3.snd.snd.length : Int)), AV.int IntKind.i64 x_4.snd]].length) * (40 : Nat) ≤ (140737488355328 : Nat)) then bif decide
  (rng IntKind.i64 (x_2.fst + (1 : Int))) then ∃ y, Lrn4 rs x.fst x_1.fst y ∧ (l4J g rs x.fst x_1.fst).m y < (l4J g rs x.fst x_1.fst).m x_2 ∧ (((bif g then g = true else True) ∧ rs =
  rs) ∧ (0 : Nat) = (0 : Nat) ∧ (0 : Int) = (0 : Int) ∧ (0 : Nat) = (0 : Nat) ∧ x.fst = x.fst ∧ x_1.fst = x_1.fst ∧ x_2.fst + (1 : Int) = y.fst ∧ True) ∧ (True ∧ True) ∧ ((x_2.snd ++
  [[AV.int IntKind.i64 x.fst, AV.int IntKind.i64 x_1.fst, AV.int IntKind.i64 x_2.fst, AV.int IntKind.i64 (x_3.snd.fst / (↑x_3.snd.snd.length : Int)), AV.int IntKind.i64
  x_4.snd]]).length = y.snd.length ∧ True) ∧ x_2.snd ++ [[AV.int IntKind.i64 x.fst, AV.int IntKind.i64 x_1.fst, AV.int IntKind.i64 x_2.fst, AV.int IntKind.i64 (x_3.snd.fst /
  (↑x_3.snd.snd.length : Int)), AV.int IntKind.i64 x_4.snd]] = y.snd ∧ True else False else False else bif decide (rng IntKind.i64 (x_1.fst + (1 : Int))) then ∃ y, Lrn3 rs x.fst y ∧
  (l3J g rs x.fst).m y < (l3J g rs x.fst).m x_1 ∧ (((bif g then g = true else True) ∧ rs = rs) ∧ (0 : Nat) = (0 : Nat) ∧ (0 : Int) = (0 : Int) ∧ (0 : Nat) = (0 : Nat) ∧ x.fst = x.fst
  ∧ x_1.fst + (1 : Int) = y.fst ∧ True) ∧ (True ∧ True) ∧ (x_2.snd.length = y.snd.length ∧ True) ∧ x_2.snd = y.snd ∧ True else False else bif decide (rng IntKind.i64 (x.fst + (1 :
  Int))) then ∃ y, Lrn2 rs y ∧ (l2J g rs).m y < (l2J g rs).m x ∧ (((bif g then g = true else True) ∧ rs = rs) ∧ (0 : Nat) = (0 : Nat) ∧ (0 : Int) = (0 : Int) ∧ (0 : Nat) = (0 : Nat)
  ∧ x.fst + (1 : Int) = y.fst ∧ True) ∧ (True ∧ True) ∧ (x_1.snd.length = y.snd.length ∧ True) ∧ x_1.snd = y.snd ∧ True else False else bif decide ((200 : Int) < (↑x.snd.length :
  Int)) then ∃ ys e, LrnQ rs ys e ∧ (((0 : Nat) = ys.length ∧ True) ∧ (2 : Int) = e ∧ True) ∧ [] = ys ∧ True else ∃ ys e, LrnQ rs ys e ∧ ((x.snd.length = ys.length ∧ True) ∧ (0 :
  Int) = e ∧ True) ∧ x.snd = ys ∧ True
set_option maxRecDepth 100000 in
theorem qlearn_P : qlearn_T := by
  unfold qlearn_T
  intro gl g rs ⟨hr, hl⟩
  have bg : cond g (g = true) True := by cases g <;> trivial
  refine ⟨⟨0, ⟨by decide, by omega⟩, ⟨⟨bg, rfl⟩, rfl, rfl, ⟨bg, rfl⟩, rfl, rfl, trivial⟩, ⟨trivial, trivial⟩, trivial⟩, ?_⟩
  rintro i ⟨h0, h1⟩
  refine cs (fun hi => ?_) (fun _ => ?_)
  · obtain ⟨k, nm, t, f, a, b, c, rd, he, hq⟩ := hr.frow i.toNat (by omega)
    obtain ⟨d1, d2⟩ := rdV_ok hq.fr
    have hin : inB t = true := decide_eq_true hq.ft
    refine cd1 (by omega) ⟨k, nm, t, f, a, b, c, rd, by rw [he]; rfl, trivial, ?_⟩
    rw [hq.fi, hin, d2]
    refine ⟨trivial, d1, cs (fun q => absurd rfl q) (fun _ => cdI (by omega) ⟨i + 1, ⟨by omega, by omega⟩, by simp only [l1J]; omega, ⟨⟨bg, rfl⟩, rfl, rfl, ⟨bg, rfl⟩, rfl, rfl, trivial⟩, ⟨trivial, trivial⟩, trivial⟩)⟩
  refine ⟨⟨(1, []), ⟨lrn_start hr⟩, ⟨⟨bg, rfl⟩, rfl, rfl, rfl, rfl, trivial⟩, ⟨trivial, trivial⟩, ⟨rfl, trivial⟩, rfl, trivial⟩, ?_⟩
  rintro ⟨c, ys⟩ ⟨hP⟩
  simp only at hP
  dsimp only
  refine cs (fun hc => ?_) (fun hc => ?_)
  · refine ⟨⟨(0, ys), ⟨hP, hc⟩, ⟨⟨bg, rfl⟩, rfl, rfl, rfl, rfl, rfl, trivial⟩, ⟨trivial, trivial⟩, ⟨rfl, trivial⟩, rfl, trivial⟩, ?_⟩
    clear hP
    rintro ⟨f, ys⟩ ⟨hP, hc⟩
    simp only at hP
    dsimp only
    refine cs (fun hf => ?_) (fun hf => ?_)
    · refine ⟨⟨(1, ys), ⟨hP, hc, hf⟩, ⟨⟨bg, rfl⟩, rfl, rfl, rfl, rfl, rfl, rfl, trivial⟩, ⟨trivial, trivial⟩, ⟨rfl, trivial⟩, rfl, trivial⟩, ?_⟩
      clear hP hf
      rintro ⟨m, ys⟩ ⟨hP, hc, hf⟩
      simp only at hP
      dsimp only
      have hyl := hP.fn.flen
      refine cs (fun hm => ?_) (fun hm => ?_)
      · refine ⟨⟨(0, 0, []), ⟨vals_nil⟩, ⟨⟨bg, rfl⟩, rfl, rfl, rfl, rfl, rfl, rfl, rfl, rfl, ⟨bg, rfl⟩, rfl, rfl, trivial⟩, ⟨trivial, trivial⟩, ⟨rfl, trivial⟩, rfl, rfl, trivial⟩, ?_⟩
        rintro ⟨i, s, vs⟩ ⟨hv⟩
        simp only at hv
        dsimp only
        have vl := hv.fl
        have vi := hv.fhi
        have v0 := hv.flo
        have vsb := hv.fs
        refine cs (fun hi => ?_) (fun hi => ?_)
        · obtain ⟨k, nm, t, f', a, b, c', rd, he, hq⟩ := hr.frow i.toNat (by omega)
          obtain ⟨d1, d2⟩ := rdV_ok hq.fr
          have hin : inB t = true := decide_eq_true hq.ft
          have e1 : rpR (rs.getD i.toNat []) = rd := by rw [he]; rfl
          have e2 : rpF (rs.getD i.toNat []) = f' := by rw [he]; rfl
          have e3 : rpT (rs.getD i.toNat []) = t := by rw [he]; rfl
          have no := vals_no hv hi
          have ad := vals_add hr hv hi
          rw [e1, e2, e3] at no
          rw [e1] at ad
          refine cd1 (by omega) ⟨k, nm, t, f', a, b, c', rd, by rw [he]; rfl, trivial, d1, ?_⟩
          rw [hin, if_pos rfl]
          refine csplit (fun hb => cs (fun hf' => cs (fun hm' => ?_) (fun hm' => ?_)) (fun hf' => ?_)) (fun hb => ?_)
          · have bd := fd_bd d2 hb
            refine cd1 ⟨rfl, by simp; omega, by simp; omega⟩ (cdI (by omega) (cdI (by omega) ⟨(i + 1, s + fdV rd c, vs ++ [[.int .i64 (fdV rd c)]]), ⟨ad hb⟩, by simp only [l5J]; omega, ⟨⟨bg, rfl⟩, rfl, rfl, rfl, rfl, rfl, rfl, rfl, rfl, ⟨bg, rfl⟩, rfl, rfl, trivial⟩, ⟨trivial, trivial⟩, ⟨rfl, trivial⟩, rfl, rfl, trivial⟩))
          · exact cdI (by omega) ⟨(i + 1, s, vs), ⟨no fun z => hm' z.2.2⟩, by simp only [l5J]; omega, ⟨⟨bg, rfl⟩, rfl, rfl, rfl, rfl, rfl, rfl, rfl, rfl, ⟨bg, rfl⟩, rfl, rfl, trivial⟩, ⟨trivial, trivial⟩, ⟨rfl, trivial⟩, rfl, rfl, trivial⟩
          · exact cdI (by omega) ⟨(i + 1, s, vs), ⟨no fun z => hf' z.2.1⟩, by simp only [l5J]; omega, ⟨⟨bg, rfl⟩, rfl, rfl, rfl, rfl, rfl, rfl, rfl, rfl, ⟨bg, rfl⟩, rfl, rfl, trivial⟩, ⟨trivial, trivial⟩, ⟨rfl, trivial⟩, rfl, rfl, trivial⟩
          · exact cdI (by omega) ⟨(i + 1, s, vs), ⟨no fun z => by rw [z.1] at hb; cases hb⟩, by simp only [l5J]; omega, ⟨⟨bg, rfl⟩, rfl, rfl, rfl, rfl, rfl, rfl, rfl, rfl, ⟨bg, rfl⟩, rfl, rfl, trivial⟩, ⟨trivial, trivial⟩, ⟨rfl, trivial⟩, rfl, rfl, trivial⟩
        · have hie : i = rs.length := by omega
          subst hie
          refine cs (fun hz => ?_) (fun hz => ?_)
          · have : vs = [] := List.eq_nil_of_length_eq_zero (by omega)
            subst this
            exact cdI (by omega) ⟨(m + 1, ys), ⟨lrn_m0 hr hP hm hv, hc, hf⟩, by simp only [l4J]; omega, ⟨⟨bg, rfl⟩, rfl, rfl, rfl, rfl, rfl, rfl, trivial⟩, ⟨trivial, trivial⟩, ⟨rfl, trivial⟩, rfl, trivial⟩
          · have hpos : (0 : Int) < vs.length := by omega
            have ha : -1000 ≤ s / (vs.length : Int) ∧ s / (vs.length : Int) ≤ 11000 := by
              refine ⟨(Int.le_ediv_iff_mul_le hpos).2 (by omega), ?_⟩
              have := (Int.ediv_lt_iff_lt_mul hpos (a := s) (b := 11001)).2 (by omega)
              omega
            generalize s / (vs.length : Int) = q at *
            refine ⟨by omega, ⟨(0, 0), ⟨by simp, by simp, by simp, fun p h => by simp only at h; omega⟩, ⟨⟨bg, rfl⟩, rfl, rfl, rfl, rfl, rfl, rfl, rfl, rfl, rfl, rfl, trivial⟩, ⟨trivial, trivial⟩, ⟨rfl, trivial⟩, ⟨rfl, rfl, rfl, rfl, rfl, trivial⟩, rfl, rfl, trivial⟩, ?_⟩
            rintro ⟨p, d⟩ ⟨p0, p1, p2, p3⟩
            simp only at p0 p1 p2 p3
            dsimp only
            refine cs (fun hp => ?_) (fun hp => ?_)
            · obtain ⟨v, hv1, hv2⟩ := hv.fb p.toNat (by omega)
              refine cd1 (by omega) (cd1 ⟨rfl, by omega⟩ ⟨v, by rw [hv1]; rfl, cdI (by omega) (cdI (by omega) (cdI (by omega) ⟨(p + 1, max (max d (v - q)) (q - v)), ⟨by simp only; omega, by simp only; omega, by simp only; omega, fun z hz => ?_⟩, by simp only [l6J]; omega, ⟨⟨bg, rfl⟩, rfl, rfl, rfl, rfl, rfl, rfl, rfl, rfl, rfl, rfl, trivial⟩, ⟨trivial, trivial⟩, ⟨rfl, trivial⟩, ⟨rfl, rfl, rfl, rfl, rfl, trivial⟩, rfl, rfl, trivial⟩))⟩)
              simp only at hz ⊢
              rcases Nat.lt_or_ge z p.toNat with k | k
              · have := p3 z (by omega); omega
              · rw [show z = p.toNat by omega, hv1]
                simp only [cellI]
                omega
            · have hpe : p = vs.length := by omega
              subst hpe
              refine cd1 ⟨rfl, by simp; omega, by simp; omega⟩ (cdI (by omega) ⟨(m + 1, ys ++ [[.int .i64 c, .int .i64 f, .int .i64 m, .int .i64 q, .int .i64 d]]), ⟨lrn_m1 hr hP hc hf hm hv ha ⟨p0, p1, p2, p3⟩, hc, hf⟩, by simp only [l4J]; omega, ⟨⟨bg, rfl⟩, rfl, rfl, rfl, rfl, rfl, rfl, trivial⟩, ⟨trivial, trivial⟩, ⟨rfl, trivial⟩, rfl, trivial⟩)
      · have hme : m = 13 := by have := hP.fm; omega
        subst hme
        exact cdI (by omega) ⟨(f + 1, ys), ⟨lrn_f hr hP hf, hc⟩, by simp only [l3J]; omega, ⟨⟨bg, rfl⟩, rfl, rfl, rfl, rfl, rfl, trivial⟩, ⟨trivial, trivial⟩, ⟨rfl, trivial⟩, rfl, trivial⟩
    · have hfe : f = 20 := by have := hP.ff; omega
      subst hfe
      have hcc := hP.fc
      exact cdI (by omega) ⟨(c + 1, ys), ⟨lrn_c hr hP hc⟩, by simp only [l2J]; omega, ⟨⟨bg, rfl⟩, rfl, rfl, rfl, rfl, trivial⟩, ⟨trivial, trivial⟩, ⟨rfl, trivial⟩, rfl, trivial⟩
  · have hce : c = 12 := by have := hP.fc; omega
    subst hce
    refine cs (fun h2 => ⟨[], 2, ⟨.inr ⟨rfl, rfl⟩, by simp, ⟨fun i h => by simp at h, rfl, by simp⟩, fun h => by omega⟩, ⟨⟨rfl, trivial⟩, rfl, trivial⟩, rfl, trivial⟩) (fun h2 => ⟨ys, 0, ⟨.inl rfl, by omega, hP.fn, fun _ => hP.fv⟩, ⟨⟨rfl, trivial⟩, rfl, trivial⟩, rfl, trivial⟩)
def qlearn_S : Prop := ∀ (gl : Glob) (g : Bool) (rs : List (List AV)), RpsV rs ∧ rs.length ≤ 1000 → fnQ Tryd.prog { glob := gl, spec := lk [(29, (rIsN_s Go.Proofs.YtceknalhogbbnaaDoor.nrm Go.Proofs.YtceknalhogbbnaaDoor.vld Go.Proofs.YtceknalhogbbnaaDoor.isN)), (30, (rIn_s Go.Proofs.YtceknalhogbbnaaDoor.inB)), (31, (rvalid_s Go.Proofs.YtceknalhogbbnaaDoor.vdE)), (32, (rDate_s Go.Proofs.YtceknalhogbbnaaDoor.inB Go.Proofs.YtceknalhogbbnaaDoor.dtY Go.Proofs.YtceknalhogbbnaaDoor.dtM Go.Proofs.YtceknalhogbbnaaDoor.dtD Go.Proofs.YtceknalhogbbnaaDoor.dtH Go.Proofs.YtceknalhogbbnaaDoor.dtI Go.Proofs.YtceknalhogbbnaaDoor.dtR)), (33, rfind_s), (34, rfloor_s)], specH := lk [], shape := [27, 64, 116], slz := [(27, [2]), (64, [2])], nowf := true } { nt := 142, drop := drp [(3, 201326592), (4, 137170518016), (5, 274877906944), (6, 3848290697216), (7, 4398046511104), (8, 52776558133248), (9, 70368744177664), (12, 140737488355328), (13, 1688849860263936), (15, 2251799813685248), (16, 27021597764222976), (18, 36028797018963968), (19, 432345564227567616), (24, 27670116110564327424), (25, 2324289753287403503616), (26, 299870271662222471069696), (27, 2475577847115856892504571904), (28, 74276402357122816493947453440), (29, 554597137599850363154807652352), (30, 633825300114114700748351602688), (31, 3802951800684688204490109616128), (32, 2586007224465587979053274538967040), (35, 124615124604835863084731911901282304), (36, 680398580342403812442636238981001379840), (37, 680564733841876926926749214863536422912), (38, 85751156464076492792770401072805589286912), (39, 609786001522321726526367296517728634929152), (40, 1393796574908163946345982392040522594123776), (41, 2787593149816327892691964784081045188247552)], fr := 1000, kp := [], emp := fun id => cond (Nat.beq id 11) [(1100700, 1500, 43, 5)] (cond (Nat.beq id 21) [(11, 1600, 3, 1)] (cond (Nat.beq id 900000) [(1100200, 1700, 43, 5)] [])), own := true } (lrnJ g rs) 6 Tryd.f12 [.sl 8 g rs] [] (fun r2 bs2 => ∃ (ys : List (List AV)) (e : Int), (LrnQ rs ys e) ∧ le r2 (.tup [.agg [.rw 0 5 ys.length], .int .i64 e]) ∧ leBs bs2 [.row 43 5 ys])
set_option maxRecDepth 100000 in
theorem qlearn_e : qlearn_T = qlearn_S := by kernel_rfl
theorem qlearn_v : qlearn_S := @Eq.mp (qlearn_T) (qlearn_S) (qlearn_e) qlearn_P
theorem qlearn_ok (gl : Glob) : QOK Tryd.prog gl 12 qlearn_s := by
  refine ⟨fok Tryd.func12 (by kernel_rfl) (by kernel_rfl), ?_⟩
  intro xs bs T h K hT
  unfold qlearn_s at h
  split at h
  · simp only [Option.some.injEq] at h
    subst h
    obtain ⟨hp, hK⟩ := hT
    obtain ⟨r, bs2, ⟨o0, o1, hq, hl, hb⟩, hC⟩ := fnQ_sound tyNil (by exact specOK rfl rfl ⟨(rIsN_ok gl), (rIn_ok gl), (rvalid_ok gl), (rDate_ok gl), (rfind_ok gl), (rfloor_ok gl), trivial⟩ trivial) (by kernel_rfl) Tryd.func12 (qlearn_v gl _ _ hp)
    exact ⟨_, _, hK o0 o1 hq, hC.le hl hb⟩
  · cases h
end Go.Proofs.YtceknalhogbbnaaDoor
