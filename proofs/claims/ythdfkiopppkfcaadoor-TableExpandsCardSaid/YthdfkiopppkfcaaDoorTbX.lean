/- Tables: the expander. -/
import Derived.Test.YthdfkiopppkfcaaDoorTbV
namespace Go.Proofs.YthdfkiopppkfcaaDoor
open Go
set_option linter.unusedVariables false
set_option linter.unusedSimpArgs false

abbrev LLA := List (List AV)
abbrev Rs := Int × LLA × Int
def enErr (es : LLA) (c n : Int) : Int := if idxP (hcP c) es < 0 then 6 else if 60 ≤ n then 2 else 0
def enOut (es : LLA) (c : Int) (out : LLA) : LLA := if enErr es c out.length = 0 then out ++ [es.getD (idxP (hcP c) es).toNat []] else out
def sqR (A : LLA → Int → LLA → Int → Rs) (ss : LLA) (c d : Int) (out : LLA) (k : Int) : Rs := if idxP (hcP c) ss < 0 then (6, out, k) else if 20 < d then (2, out, k) else A (sqC (ss.getD (idxP (hcP c) ss).toNat [])) (d + 1) out k
def rpR (A : LLA → Int → LLA → Int → Rs) (cs : LLA) (d : Int) : Nat → LLA → Int → Rs
  | 0, out, k => (0, out, k)
  | t + 1, out, k => if (A cs d out k).1 = 0 then rpR A cs d t (A cs d out k).2.1 (A cs d out k).2.2 else A cs d out k
def fiR (A : LLA → Int → LLA → Int → Rs) (es ss cs : LLA) (d : Int) (out : LLA) (k : Int) : LLA × Rs :=
  if 500 < k + 1 then ([], 2, out, k + 1)
  else if knd (cellI (cs.getD 0 [])) = 1 then (cs.drop 1, enErr es (cellI (cs.getD 0 [])) out.length, enOut es (cellI (cs.getD 0 [])) out, k + 1)
  else if knd (cellI (cs.getD 0 [])) = 2 then (cs.drop 1, sqR A ss (cellI (cs.getD 0 [])) d out (k + 1))
  else if knd (cellI (cs.getD 0 [])) = 3 then
    if ((cs.drop 1).length : Int) < rpX (cellI (cs.getD 0 [])) then ([], 11, out, k + 1)
    else if (rpR A ((cs.drop 1).take (rpX (cellI (cs.getD 0 []))).toNat) d (rpY (cellI (cs.getD 0 []))).toNat out (k + 1)).1 = 0 then ((cs.drop 1).drop (rpX (cellI (cs.getD 0 []))).toNat, rpR A ((cs.drop 1).take (rpX (cellI (cs.getD 0 []))).toNat) d (rpY (cellI (cs.getD 0 []))).toNat out (k + 1))
    else ([], rpR A ((cs.drop 1).take (rpX (cellI (cs.getD 0 []))).toNat) d (rpY (cellI (cs.getD 0 []))).toNat out (k + 1))
  else ([], 1, out, k + 1)
def alL (F : LLA → LLA → Int → LLA × Rs) : Nat → LLA → LLA → Int → Rs
  | 0, _, out, k => (0, out, k)
  | n + 1, cs, out, k => if cs.length = 0 then (0, out, k) else if (F cs out k).2.1 = 0 then alL F n (F cs out k).1 (F cs out k).2.2.1 (F cs out k).2.2.2 else (F cs out k).2
def alR (es ss : LLA) : Nat → LLA → Int → LLA → Int → Rs
  | 0, _, _, out, k => (0, out, k)
  | m + 1, cs, d, out, k => alL (fun cs out k => fiR (alR es ss m) es ss cs d out k) cs.length cs out k
def alE (m : Nat) (es ss cs : LLA) (d : Int) (out : LLA) (k : Int) : Int := (alR es ss m cs d out k).1
def alO (m : Nat) (es ss cs : LLA) (d : Int) (out : LLA) (k : Int) : LLA := (alR es ss m cs d out k).2.1
def alK (m : Nat) (es ss cs : LLA) (d : Int) (out : LLA) (k : Int) : Int := (alR es ss m cs d out k).2.2
def sqE (m : Nat) (es ss : LLA) (c d : Int) (out : LLA) (k : Int) : Int := (sqR (alR es ss m) ss c d out k).1
def sqO (m : Nat) (es ss : LLA) (c d : Int) (out : LLA) (k : Int) : LLA := (sqR (alR es ss m) ss c d out k).2.1
def sqK (m : Nat) (es ss : LLA) (c d : Int) (out : LLA) (k : Int) : Int := (sqR (alR es ss m) ss c d out k).2.2
def fi1 (m : Nat) (es ss cs : LLA) (d : Int) (out : LLA) (k : Int) : LLA := (fiR (alR es ss m) es ss cs d out k).1
def fiE (m : Nat) (es ss cs : LLA) (d : Int) (out : LLA) (k : Int) : Int := (fiR (alR es ss m) es ss cs d out k).2.1
def fiO (m : Nat) (es ss cs : LLA) (d : Int) (out : LLA) (k : Int) : LLA := (fiR (alR es ss m) es ss cs d out k).2.2.1
def fiK (m : Nat) (es ss cs : LLA) (d : Int) (out : LLA) (k : Int) : Int := (fiR (alR es ss m) es ss cs d out k).2.2.2
/-- What the expander may be in: q the number that k must not leave behind. -/
structure ExP (q : Int) (es ss : LLA) (d : Int) (out : LLA) (k : Int) : Prop where
  fe : EnsP es
  fs : SqsP ss
  fo : out.length ≤ 60
  f0 : 0 ≤ k
  f5 : k ≤ 500
  fm : 500 - k < q
  fd : 0 ≤ d ∧ d ≤ 21
theorem CdsP.drop {cs : LLA} (h : CdsP cs) (a : Nat) : CdsP (cs.drop a) := ⟨fun i hi => by
  rw [List.length_drop] at hi
  obtain ⟨c, h1, h2⟩ := h.fr (a + i) (by omega)
  refine ⟨c, ?_, h2⟩
  rw [List.getD_eq_getElem?_getD, List.getElem?_drop, ← List.getD_eq_getElem?_getD]; exact h1, by have := h.fl; rw [List.length_drop]; omega⟩
theorem CdsP.take {cs : LLA} (h : CdsP cs) (a : Nat) : CdsP (cs.take a) := ⟨fun i hi => by
  rw [List.length_take] at hi
  obtain ⟨c, h1, h2⟩ := h.fr i (by omega)
  refine ⟨c, ?_, h2⟩
  rw [List.getD_eq_getElem?_getD, List.getElem?_take, if_pos (by omega), ← List.getD_eq_getElem?_getD]; exact h1, by have := h.fl; rw [List.length_take]; omega⟩
theorem CdsP.nil : CdsP [] := ⟨fun i hi => by simp at hi, by simp⟩
theorem idx_lt {p : List AV → Bool} {xs : LLA} (h : ¬ idxP p xs < 0) : (idxP p xs).toNat < xs.length ∧ idxP p xs < xs.length := by
  unfold idxP at h ⊢
  cases hb : xs.any p with
  | false => rw [hb, if_neg (by simp)] at h; exact absurd (by decide) h
  | true =>
    rw [if_pos rfl]
    obtain ⟨x, hx, hp⟩ := List.any_eq_true.1 hb
    have := List.findIdx_lt_length_of_exists ⟨x, hx, hp⟩
    omega
structure OkR (k : Int) (r : Rs) : Prop where
  fo : r.2.1.length ≤ 60
  fk : k ≤ r.2.2
  f5 : r.2.2 ≤ 501
  fz : r.1 = 0 → r.2.2 ≤ 500
def GA (es ss : LLA) (q : Int) (A : LLA → Int → LLA → Int → Rs) : Prop := ∀ cs d out k, ExP q es ss d out k → CdsP cs → OkR k (A cs d out k)
theorem enOut_len {es out : LLA} {c : Int} (h : out.length ≤ 60) : (enOut es c out).length ≤ 60 := by
  unfold enOut
  split
  · rename_i e
    unfold enErr at e
    split at e
    · cases e
    · split at e
      · cases e
      · rw [List.length_append]; simp; omega
  · exact h
theorem ExP.next {q k k' : Int} {es ss out out' : LLA} {d : Int} (h : ExP q es ss d out k) (ho : out'.length ≤ 60) (hk : k ≤ k') (h5 : k' ≤ 500) : ExP q es ss d out' k' :=
  ⟨h.fe, h.fs, ho, by have := h.f0; omega, h5, by have := h.fm; omega, h.fd⟩
theorem sqR_ok {es ss out : LLA} {q c d k : Int} {A : LLA → Int → LLA → Int → Rs} (hA : GA es ss q A) (h : ExP q es ss d out k) : OkR k (sqR A ss c d out k) := by
  have h0 := h.f5
  unfold sqR
  split
  · exact ⟨h.fo, Int.le_refl _, by simp only; omega, fun e => by cases e⟩
  · rename_i hi
    split
    · exact ⟨h.fo, Int.le_refl _, by simp only; omega, fun e => by cases e⟩
    · obtain ⟨h1, h2⟩ := idx_lt hi
      obtain ⟨c', cs, e, _, hc⟩ := h.fs.fr _ h1
      refine hA _ _ _ _ ⟨h.fe, h.fs, h.fo, h.f0, h.f5, h.fm, by have := h.fd; omega⟩ ?_
      rw [e]; exact hc
theorem rpR_ok {es ss cs : LLA} {q d : Int} {A : LLA → Int → LLA → Int → Rs} (hA : GA es ss q A) (hc : CdsP cs) : ∀ (t : Nat) (out : LLA) (k : Int), ExP q es ss d out k → OkR k (rpR A cs d t out k)
  | 0, out, k, h => ⟨h.fo, Int.le_refl _, by have := h.f5; simp only [rpR]; omega, fun _ => h.f5⟩
  | t + 1, out, k, h => by
    have h1 := hA cs d out k h hc
    unfold rpR
    split
    · rename_i e
      have h2 := rpR_ok hA hc t _ _ (h.next h1.fo h1.fk (h1.fz e))
      exact ⟨h2.fo, Int.le_trans h1.fk h2.fk, h2.f5, h2.fz⟩
    · exact h1
section
variable {A : LLA → Int → LLA → Int → Rs} {es ss cs out : LLA} {d k : Int}
theorem fi_big (h : 500 < k + 1) : fiR A es ss cs d out k = ([], 2, out, k + 1) := by unfold fiR; rw [if_pos h]
theorem fi_1 (h : ¬ 500 < k + 1) (h1 : knd (cellI (cs.getD 0 [])) = 1) : fiR A es ss cs d out k = (cs.drop 1, enErr es (cellI (cs.getD 0 [])) out.length, enOut es (cellI (cs.getD 0 [])) out, k + 1) := by unfold fiR; rw [if_neg h, if_pos h1]
theorem fi_2 (h : ¬ 500 < k + 1) (h1 : knd (cellI (cs.getD 0 [])) = 2) : fiR A es ss cs d out k = (cs.drop 1, sqR A ss (cellI (cs.getD 0 [])) d out (k + 1)) := by unfold fiR; rw [if_neg h, if_neg (by omega), if_pos h1]
theorem fi_3s (h : ¬ 500 < k + 1) (h1 : knd (cellI (cs.getD 0 [])) = 3) (h2 : ((cs.drop 1).length : Int) < rpX (cellI (cs.getD 0 []))) : fiR A es ss cs d out k = ([], 11, out, k + 1) := by unfold fiR; rw [if_neg h, if_neg (by omega), if_neg (by omega), if_pos h1, if_pos h2]
theorem fi_3 (h : ¬ 500 < k + 1) (h1 : knd (cellI (cs.getD 0 [])) = 3) (h2 : ¬ ((cs.drop 1).length : Int) < rpX (cellI (cs.getD 0 []))) : fiR A es ss cs d out k = (if (rpR A ((cs.drop 1).take (rpX (cellI (cs.getD 0 []))).toNat) d (rpY (cellI (cs.getD 0 []))).toNat out (k + 1)).1 = 0 then ((cs.drop 1).drop (rpX (cellI (cs.getD 0 []))).toNat, rpR A ((cs.drop 1).take (rpX (cellI (cs.getD 0 []))).toNat) d (rpY (cellI (cs.getD 0 []))).toNat out (k + 1)) else ([], rpR A ((cs.drop 1).take (rpX (cellI (cs.getD 0 []))).toNat) d (rpY (cellI (cs.getD 0 []))).toNat out (k + 1))) := by unfold fiR; rw [if_neg h, if_neg (by omega), if_neg (by omega), if_pos h1, if_neg h2]
theorem fi_0 (h : ¬ 500 < k + 1) (h1 : ¬ knd (cellI (cs.getD 0 [])) = 1) (h2 : ¬ knd (cellI (cs.getD 0 [])) = 2) (h3 : ¬ knd (cellI (cs.getD 0 [])) = 3) : fiR A es ss cs d out k = ([], 1, out, k + 1) := by unfold fiR; rw [if_neg h, if_neg h1, if_neg h2, if_neg h3]
end
structure OkF (cs : LLA) (k : Int) (r : LLA × Rs) : Prop where
  fr : OkR k r.2
  fc : CdsP r.1
  fl : r.1.length < cs.length
theorem fiR_ok {es ss cs out : LLA} {q d k : Int} {A : LLA → Int → LLA → Int → Rs} (hA : GA es ss q A) (h : ExP (q + 1) es ss d out k) (hc : CdsP cs) (hl : 0 < cs.length) : OkF cs k (fiR A es ss cs d out k) := by
  have h5 := h.f5
  by_cases hb : 500 < k + 1
  · rw [fi_big hb]
    exact ⟨⟨h.fo, by simp only; omega, by simp only; omega, fun e => by cases e⟩, CdsP.nil, hl⟩
  have hn : ExP q es ss d out (k + 1) := ⟨h.fe, h.fs, h.fo, by have := h.f0; omega, by omega, by have := h.fm; omega, h.fd⟩
  have up : ∀ {r : Rs}, OkR (k + 1) r → OkR k r := fun g => ⟨g.fo, by have := g.fk; omega, g.f5, g.fz⟩
  by_cases h1 : knd (cellI (cs.getD 0 [])) = 1
  · rw [fi_1 hb h1]
    exact ⟨⟨enOut_len h.fo, by simp only; omega, by simp only; omega, fun _ => by simp only; omega⟩, hc.drop 1, by simp only [List.length_drop]; omega⟩
  by_cases h2 : knd (cellI (cs.getD 0 [])) = 2
  · rw [fi_2 hb h2]
    exact ⟨up (sqR_ok hA hn), hc.drop 1, by simp only [List.length_drop]; omega⟩
  by_cases h3 : knd (cellI (cs.getD 0 [])) = 3
  · by_cases h4 : ((cs.drop 1).length : Int) < rpX (cellI (cs.getD 0 []))
    · rw [fi_3s hb h3 h4]
      exact ⟨⟨h.fo, by simp only; omega, by simp only; omega, fun e => by cases e⟩, CdsP.nil, hl⟩
    · rw [fi_3 hb h3 h4]
      have hr := up (rpR_ok hA ((hc.drop 1).take (rpX (cellI (cs.getD 0 []))).toNat) (rpY (cellI (cs.getD 0 []))).toNat out (k + 1) hn)
      split
      · exact ⟨hr, (hc.drop 1).drop _, by simp only [List.length_drop]; omega⟩
      · exact ⟨hr, CdsP.nil, hl⟩
  · rw [fi_0 hb h1 h2 h3]
    exact ⟨⟨h.fo, by simp only; omega, by simp only; omega, fun e => by cases e⟩, CdsP.nil, hl⟩
theorem alL_ok {es ss : LLA} {q d : Int} {F : LLA → LLA → Int → LLA × Rs} (hF : ∀ cs out k, ExP q es ss d out k → CdsP cs → 0 < cs.length → OkF cs k (F cs out k)) : ∀ (n : Nat) (cs out : LLA) (k : Int), ExP q es ss d out k → CdsP cs → OkR k (alL F n cs out k)
  | 0, cs, out, k, h, _ => ⟨h.fo, Int.le_refl _, by have := h.f5; simp only [alL]; omega, fun _ => h.f5⟩
  | n + 1, cs, out, k, h, hc => by
    unfold alL
    split
    · exact ⟨h.fo, Int.le_refl _, by have := h.f5; simp only; omega, fun _ => h.f5⟩
    · have h1 := hF cs out k h hc (by omega)
      split
      · rename_i e
        have h2 := alL_ok hF n _ _ _ (h.next h1.fr.fo h1.fr.fk (h1.fr.fz e)) h1.fc
        exact ⟨h2.fo, Int.le_trans h1.fr.fk h2.fk, h2.f5, h2.fz⟩
      · exact h1.fr
theorem alR_ok (es ss : LLA) : ∀ m : Nat, GA es ss m (alR es ss m)
  | 0 => fun cs d out k h _ => ⟨h.fo, Int.le_refl _, by have := h.f5; simp only [alR]; omega, fun _ => h.f5⟩
  | m + 1 => fun cs d out k h hc => by
    unfold alR
    exact alL_ok (q := ((m + 1 : Nat) : Int)) (fun cs out k h hc hl => fiR_ok (alR_ok es ss m) (by simpa using h) hc hl) _ _ _ _ h hc
theorem alL_end {F : LLA → LLA → Int → LLA × Rs} {n : Nat} {cs out : LLA} {k : Int} (h : cs.length = 0) : alL F n cs out k = (0, out, k) := by
  cases n with
  | zero => rfl
  | succ n => unfold alL; rw [if_pos h]
def xen1_s : SpH
  | [.agg [.int .i64 c, .int .i64 e, .int .i64 w, .int .i64 sc, .int .i64 l], .ptr 0 0], [.cells [.int .i64 code]] => some (True, .bool (decide (c = code)), [.cells [.int .i64 code]])
  | _, _ => none
set_option maxRecDepth 100000 in
def xen1_T : Prop :=
  ∀ (gl : Glob) (c e w sc l code : Int), ((-9223372036854775808 : Int) ≤ c ∧ c ≤ (9223372036854775807 : Int)) ∧ ((-9223372036854775808 : Int) ≤ e ∧ e ≤ (9223372036854775807 : Int)) ∧
  ((-9223372036854775808 : Int) ≤ w ∧ w ≤ (9223372036854775807 : Int)) ∧ ((-9223372036854775808 : Int) ≤ sc ∧ sc ≤ (9223372036854775807 : Int)) ∧ ((-9223372036854775808 : Int) ≤ l ∧
  l ≤ (9223372036854775807 : Int)) ∧ True → True → (-9223372036854775808 : Int) ≤ code ∧ code ≤ (9223372036854775807 : Int) → decide (c = code) = decide (c = code) ∧ (code = code ∧
  True) ∧ True
set_option maxRecDepth 100000 in
theorem xen1_P : xen1_T := by
  unfold xen1_T
  intro gl c e w sc l code h
  intros
  exact ⟨rfl, ⟨rfl, trivial⟩, trivial⟩
def xen1_S : Prop := ∀ (gl : Glob) (c e w sc l code : Int), fnH Tryd.prog { glob := gl, spec := lk [], specH := lk [], nowf := true } { nt := 8, drop := drp [(1, 240)], fr := 1000, kp := [0] } (fun _ _ => none) 6 Tryd.f66 [.agg [.int .i64 c, .int .i64 e, .int .i64 w, .int .i64 sc, .int .i64 l], .ptr 0 0] [.cells [.int .i64 code]] (.bool (decide (c = code))) [.cells [.int .i64 code]]
set_option maxRecDepth 100000 in
theorem xen1_e : xen1_T = xen1_S := by kernel_rfl
theorem xen1_v : xen1_S := @Eq.mp (xen1_T) (xen1_S) (xen1_e) (xen1_P)
theorem xen1_ok (gl : Glob) : HOK Tryd.prog gl 66 xen1_s := by
  refine ⟨fok Tryd.func66 (by kernel_rfl) (by kernel_rfl), ?_⟩
  intro xs bs pre r bs2 h hp
  unfold xen1_s at h
  split at h
  · simp only [Option.some.injEq, Prod.mk.injEq] at h
    obtain ⟨h1, h2, h3⟩ := h
    subst h1 h2 h3
    exact fnH_sound tyNil (by exact specOK rfl rfl trivial trivial) (by kernel_rfl) Tryd.func66 (xen1_v gl _ _ _ _ _ _)
  · cases h
def xsq1_s : SpH
  | [.agg [.int .i64 c, .sl 1 false cs], .ptr 0 0], [.cells [.int .i64 code]] => some (True, .bool (decide (c = code)), [.cells [.int .i64 code]])
  | _, _ => none
set_option maxRecDepth 100000 in
def xsq1_T : Prop :=
  ∀ (gl : Glob) (c code : Int) (cs : List (List AV)), ((-9223372036854775808 : Int) ≤ c ∧ c ≤ (9223372036854775807 : Int)) ∧ True ∧ True → True → (-9223372036854775808 : Int) ≤ code
  ∧ code ≤ (9223372036854775807 : Int) → decide (c = code) = decide (c = code) ∧ (code = code ∧ True) ∧ True
set_option maxRecDepth 100000 in
theorem xsq1_P : xsq1_T := by
  unfold xsq1_T
  intro gl c code cs h
  intros
  exact ⟨rfl, ⟨rfl, trivial⟩, trivial⟩
def xsq1_S : Prop := ∀ (gl : Glob) (c code : Int) (cs : List (List AV)), fnH Tryd.prog { glob := gl, spec := lk [], specH := lk [], nowf := true } { nt := 8, drop := drp [(1, 240)], fr := 1000, kp := [0] } (fun _ _ => none) 6 Tryd.f67 [.agg [.int .i64 c, .sl 1 false cs], .ptr 0 0] [.cells [.int .i64 code]] (.bool (decide (c = code))) [.cells [.int .i64 code]]
set_option maxRecDepth 100000 in
theorem xsq1_e : xsq1_T = xsq1_S := by kernel_rfl
theorem xsq1_v : xsq1_S := @Eq.mp (xsq1_T) (xsq1_S) (xsq1_e) (xsq1_P)
theorem xsq1_ok (gl : Glob) : HOK Tryd.prog gl 67 xsq1_s := by
  refine ⟨fok Tryd.func67 (by kernel_rfl) (by kernel_rfl), ?_⟩
  intro xs bs pre r bs2 h hp
  unfold xsq1_s at h
  split at h
  · simp only [Option.some.injEq, Prod.mk.injEq] at h
    obtain ⟨h1, h2, h3⟩ := h
    subst h1 h2 h3
    exact fnH_sound tyNil (by exact specOK rfl rfl trivial trivial) (by kernel_rfl) Tryd.func67 (xsq1_v gl _ _ _)
  · cases h
def xenX_s : SpH
  | [.sl 5 f xs, .fn 66 [.ptr 0 0]], [.cells [.int .i64 code]] => some (EnsP xs, .int .i64 (idxP (hcP code) xs), [.cells [.int .i64 code]])
  | _, _ => none
set_option maxRecDepth 100000 in
def xenX_T : Prop :=
  ∀ (gl : Glob) (f : Bool) (xs : List (List AV)) (code : Int), EnsP xs → True → True → (-9223372036854775808 : Int) ≤ code ∧ code ≤ (9223372036854775807 : Int) → (∃ x, IdxI (hcP
  code) xs x ∧ (((bif f then f = true else True) ∧ xs = xs) ∧ ((0 : Nat) = (0 : Nat) ∧ True) ∧ (↑xs.length : Int) = (↑xs.length : Int) ∧ (0 : Int) = x ∧ True) ∧ (code = code ∧ True)
  ∧ True) ∧ ∀ (x : Int), IdxI (hcP code) xs x → bif decide (x < (↑xs.length : Int)) then bif decide ((0 : Int) ≤ x ∧ x < (↑xs.length : Int)) then ∃ n n_1 n_2 n_3 n_4, List.take
  [AV.int IntKind.i64 n, AV.int IntKind.i64 n_1, AV.int IntKind.i64 n_2, AV.int IntKind.i64 n_3, AV.int IntKind.i64 n_4].length (xs.getD x.toNat []) = [AV.int IntKind.i64 n, AV.int
  IntKind.i64 n_1, AV.int IntKind.i64 n_2, AV.int IntKind.i64 n_3, AV.int IntKind.i64 n_4] ∧ True ∧ bif decide (n = code) then x = idxP (hcP code) xs ∧ (code = code ∧ True) ∧ True
  else bif decide (rng IntKind.i64 (x + (1 : Int))) then ∃ y, IdxI (hcP code) xs y ∧ (ixL (66 : Nat) (5 : Nat) (hcP code) f xs [AV.ptr (0 : Nat) (0 : Nat)] [((0 : Nat), Blk.cells
  [AV.int IntKind.i64 code])]).m y < (ixL (66 : Nat) (5 : Nat) (hcP code) f xs [AV.ptr (0 : Nat) (0 : Nat)] [((0 : Nat), Blk.cells [AV.int IntKind.i64 code])]).m x ∧ (((bif f then f
  = true else True) ∧ xs = xs) ∧ ((0 : Nat) = (0 : Nat) ∧ True) ∧ (↑xs.length : Int) = (↑xs.length : Int) ∧ x + (1 : Int) = y ∧ True) ∧ (code = code ∧ True) ∧ True else False else
  False else (-1 : Int) = idxP (hcP code) xs ∧ (code = code ∧ True) ∧ True
set_option maxRecDepth 100000 in
theorem xenX_P : xenX_T := by
  unfold xenX_T
  intro gl f xs code hp
  intros
  have bf : cond f (f = true) True := by cases f <;> trivial
  have hs := hp.fl
  refine ⟨⟨0, ⟨by decide, by omega, fun j h => by omega⟩, ⟨⟨bf, rfl⟩, ⟨rfl, trivial⟩, rfl, rfl, trivial⟩, ⟨rfl, trivial⟩, trivial⟩, ?_⟩
  rintro i ⟨h0, h1, hn⟩
  have ei : ((i.toNat : Nat) : Int) = i := by omega
  refine cs (fun hl => ?_) (fun hl => ?_)
  · obtain ⟨c, e, w, sc, l, he, hq⟩ := hp.fr i.toNat (by omega)
    refine cd1 ⟨h0, hl⟩ ⟨c, e, w, sc, l, by rw [he]; rfl, trivial, csplit (fun q => ?_) (fun q => ?_)⟩
    · have := idx_some (p := (hcP code)) (xs := xs) (i := i.toNat) (by omega) (by rw [he]; exact q) (fun j hj => hn j (by omega))
      exact ⟨ei.symm.trans this, ⟨rfl, trivial⟩, trivial⟩
    · refine cdI (by omega) ⟨i + 1, ⟨by omega, by omega, fun j hj => ?_⟩, by simp only [ixL]; omega, ⟨⟨bf, rfl⟩, ⟨rfl, trivial⟩, rfl, rfl, trivial⟩, ⟨rfl, trivial⟩, trivial⟩
      rcases Nat.lt_or_ge j i.toNat with k | k
      · exact hn j (by omega)
      · rw [show j = i.toNat by omega, he]; exact q
  · exact ⟨idx_none fun j hj => hn j (by omega), ⟨rfl, trivial⟩, trivial⟩
def xenX_S : Prop := ∀ (gl : Glob) (f : Bool) (xs : List (List AV)) (code : Int), EnsP xs → fnH Tryd.prog { glob := gl, spec := lk [], specH := lk [(66, xen1_s)], shape := [15], nowf := true } { nt := 19, drop := drp [(1, 64), (3, 1024), (4, 63488), (5, 131072), (6, 262144)], fr := 1000, kp := [0] } (invs [(2, ixL 66 5 (hcP code) f xs [.ptr 0 0] [(0, .cells [.int .i64 code])])]) 6 Tryd.f58 [.sl 5 f xs, .fn 66 [.ptr 0 0]] [.cells [.int .i64 code]] (.int .i64 (idxP (hcP code) xs)) [.cells [.int .i64 code]]
set_option maxRecDepth 100000 in
theorem xenX_e : xenX_T = xenX_S := by kernel_rfl
theorem xenX_v : xenX_S := @Eq.mp (xenX_T) (xenX_S) (xenX_e) (xenX_P)
theorem xenX_ok (gl : Glob) : HOK Tryd.prog gl 58 xenX_s := by
  refine ⟨fok Tryd.func58 (by kernel_rfl) (by kernel_rfl), ?_⟩
  intro xs bs pre r bs2 h hp
  unfold xenX_s at h
  split at h
  · simp only [Option.some.injEq, Prod.mk.injEq] at h
    obtain ⟨h1, h2, h3⟩ := h
    subst h1 h2 h3
    exact fnH_sound tyNil (by exact specOK rfl rfl trivial ⟨(xen1_ok gl), trivial⟩) (by kernel_rfl) Tryd.func58 (xenX_v gl _ _ _ hp)
  · cases h
def xsqX_s : SpH
  | [.sl 2 f xs, .fn 67 [.ptr 0 0]], [.cells [.int .i64 code]] => some (SqsP xs, .int .i64 (idxP (hcP code) xs), [.cells [.int .i64 code]])
  | _, _ => none
set_option maxRecDepth 100000 in
def xsqX_T : Prop :=
  ∀ (gl : Glob) (f : Bool) (xs : List (List AV)) (code : Int), SqsP xs → True → True → (-9223372036854775808 : Int) ≤ code ∧ code ≤ (9223372036854775807 : Int) → (∃ x, IdxI (hcP
  code) xs x ∧ (((bif f then f = true else True) ∧ xs = xs) ∧ ((0 : Nat) = (0 : Nat) ∧ True) ∧ (↑xs.length : Int) = (↑xs.length : Int) ∧ (0 : Int) = x ∧ True) ∧ (code = code ∧ True)
  ∧ True) ∧ ∀ (x : Int), IdxI (hcP code) xs x → bif decide (x < (↑xs.length : Int)) then bif decide ((0 : Int) ≤ x ∧ x < (↑xs.length : Int)) then ∃ n xs_1, List.take [AV.int
  IntKind.i64 n, AV.sl (1 : Nat) false xs_1].length (xs.getD x.toNat []) = [AV.int IntKind.i64 n, AV.sl (1 : Nat) false xs_1] ∧ True ∧ bif decide (n = code) then x = idxP (hcP code)
  xs ∧ (code = code ∧ True) ∧ True else bif decide (rng IntKind.i64 (x + (1 : Int))) then ∃ y, IdxI (hcP code) xs y ∧ (ixL (67 : Nat) (2 : Nat) (hcP code) f xs [AV.ptr (0 : Nat) (0 :
  Nat)] [((0 : Nat), Blk.cells [AV.int IntKind.i64 code])]).m y < (ixL (67 : Nat) (2 : Nat) (hcP code) f xs [AV.ptr (0 : Nat) (0 : Nat)] [((0 : Nat), Blk.cells [AV.int IntKind.i64
  code])]).m x ∧ (((bif f then f = true else True) ∧ xs = xs) ∧ ((0 : Nat) = (0 : Nat) ∧ True) ∧ (↑xs.length : Int) = (↑xs.length : Int) ∧ x + (1 : Int) = y ∧ True) ∧ (code = code ∧
  True) ∧ True else False else False else (-1 : Int) = idxP (hcP code) xs ∧ (code = code ∧ True) ∧ True
set_option maxRecDepth 100000 in
theorem xsqX_P : xsqX_T := by
  unfold xsqX_T
  intro gl f xs code hp
  intros
  have bf : cond f (f = true) True := by cases f <;> trivial
  have hs := hp.fl
  refine ⟨⟨0, ⟨by decide, by omega, fun j h => by omega⟩, ⟨⟨bf, rfl⟩, ⟨rfl, trivial⟩, rfl, rfl, trivial⟩, ⟨rfl, trivial⟩, trivial⟩, ?_⟩
  rintro i ⟨h0, h1, hn⟩
  have ei : ((i.toNat : Nat) : Int) = i := by omega
  refine cs (fun hl => ?_) (fun hl => ?_)
  · obtain ⟨c, cs, he, hq⟩ := hp.fr i.toNat (by omega)
    refine cd1 ⟨h0, hl⟩ ⟨c, cs, by rw [he]; rfl, trivial, csplit (fun q => ?_) (fun q => ?_)⟩
    · have := idx_some (p := (hcP code)) (xs := xs) (i := i.toNat) (by omega) (by rw [he]; exact q) (fun j hj => hn j (by omega))
      exact ⟨ei.symm.trans this, ⟨rfl, trivial⟩, trivial⟩
    · refine cdI (by omega) ⟨i + 1, ⟨by omega, by omega, fun j hj => ?_⟩, by simp only [ixL]; omega, ⟨⟨bf, rfl⟩, ⟨rfl, trivial⟩, rfl, rfl, trivial⟩, ⟨rfl, trivial⟩, trivial⟩
      rcases Nat.lt_or_ge j i.toNat with k | k
      · exact hn j (by omega)
      · rw [show j = i.toNat by omega, he]; exact q
  · exact ⟨idx_none fun j hj => hn j (by omega), ⟨rfl, trivial⟩, trivial⟩
def xsqX_S : Prop := ∀ (gl : Glob) (f : Bool) (xs : List (List AV)) (code : Int), SqsP xs → fnH Tryd.prog { glob := gl, spec := lk [], specH := lk [(67, xsq1_s)], shape := [15], slz := [(15, [1])], nowf := true } { nt := 19, drop := drp [(1, 64), (3, 1024), (4, 63488), (5, 131072), (6, 262144)], fr := 1000, kp := [0] } (invs [(2, ixL 67 2 (hcP code) f xs [.ptr 0 0] [(0, .cells [.int .i64 code])])]) 6 Tryd.f57 [.sl 2 f xs, .fn 67 [.ptr 0 0]] [.cells [.int .i64 code]] (.int .i64 (idxP (hcP code) xs)) [.cells [.int .i64 code]]
set_option maxRecDepth 100000 in
theorem xsqX_e : xsqX_T = xsqX_S := by kernel_rfl
theorem xsqX_v : xsqX_S := @Eq.mp (xsqX_T) (xsqX_S) (xsqX_e) (xsqX_P)
theorem xsqX_ok (gl : Glob) : HOK Tryd.prog gl 57 xsqX_s := by
  refine ⟨fok Tryd.func57 (by kernel_rfl) (by kernel_rfl), ?_⟩
  intro xs bs pre r bs2 h hp
  unfold xsqX_s at h
  split at h
  · simp only [Option.some.injEq, Prod.mk.injEq] at h
    obtain ⟨h1, h2, h3⟩ := h
    subst h1 h2 h3
    exact fnH_sound tyNil (by exact specOK rfl rfl trivial ⟨(xsq1_ok gl), trivial⟩) (by kernel_rfl) Tryd.func57 (xsqX_v gl _ _ _ hp)
  · cases h
def xentry_s : SpH
  | [.ptr 0 0, .int .i64 c], [.cells [.int .i64 v, .sl 5 f es, .sl 2 g ss, .rw 1 5 n, .int .i64 k], .row 23 5 out] => some ((EnsP es ∧ out.length ≤ 60) ∧ n = out.length, .int .i64 (enErr es c out.length), [.cells [.int .i64 v, .sl 5 f es, .sl 2 g ss, .rw 1 5 (enOut es c out).length, .int .i64 (k)], .row 23 5 (enOut es c out)])
  | _, _ => none
set_option maxRecDepth 100000 in
def xentry_T : Prop :=
  ∀ (gl : Glob) (es ss out : List (List AV)) (v c k : Int) (f g : Bool) (n : Nat), (EnsP es ∧ out.length ≤ (60 : Nat)) ∧ n = out.length → True → (-9223372036854775808 : Int) ≤ c ∧ c
  ≤ (9223372036854775807 : Int) → (-9223372036854775808 : Int) ≤ v ∧ v ≤ (9223372036854775807 : Int) → True → True → True → (-9223372036854775808 : Int) ≤ k ∧ k ≤
  (9223372036854775807 : Int) → EnsP es ∧ bif decide (idxP (hcP c) es < (0 : Int)) then (6 : Int) = enErr es c (↑out.length : Int) ∧ (v = v ∧ ((bif f then f = true else True) ∧ es =
  es) ∧ ((bif g then g = true else True) ∧ ss = ss) ∧ n = List.length (enOut es c out) ∧ k = k ∧ True) ∧ out = enOut es c out ∧ True else bif decide ((60 : Int) ≤ (↑n : Int)) then (2
  : Int) = enErr es c (↑out.length : Int) ∧ (v = v ∧ ((bif f then f = true else True) ∧ es = es) ∧ ((bif g then g = true else True) ∧ ss = ss) ∧ n = List.length (enOut es c out) ∧ k
  = k ∧ True) ∧ out = enOut es c out ∧ True else bif decide ((0 : Int) ≤ idxP (hcP c) es ∧ idxP (hcP c) es < (↑es.length : Int)) then ∃ n_1 n_2 n_3 n_4 n_5, List.take [AV.int
  IntKind.i64 n_1, AV.int IntKind.i64 n_2, AV.int IntKind.i64 n_3, AV.int IntKind.i64 n_4, AV.int IntKind.i64 n_5].length (es.getD (idxP (hcP c) es).toNat []) = [AV.int IntKind.i64
  n_1, AV.int IntKind.i64 n_2, AV.int IntKind.i64 n_3, AV.int IntKind.i64 n_4, AV.int IntKind.i64 n_5] ∧ bif decide (n = out.length ∧ out.length + [[AV.int IntKind.i64 n_1, AV.int
  IntKind.i64 n_2, AV.int IntKind.i64 n_3, AV.int IntKind.i64 n_4, AV.int IntKind.i64 n_5]].length ≤ (9223372036854775807 : Nat) ∧ (out.length + [[AV.int IntKind.i64 n_1, AV.int
  IntKind.i64 n_2, AV.int IntKind.i64 n_3, AV.int IntKind.i64 n_4, AV.int IntKind.i64 n_5]].length) * (40 : Nat) ≤ (140737488355328 : Nat)) then (0 : Int) = enErr es c (↑out.length :
  Int) ∧ (v = v ∧ ((bif f then f = true else True) ∧ es = es) ∧ ((bif g then g = true else True) ∧ ss = ss) ∧ (out ++ [[AV.int IntKind.i64 n_1, AV.int IntKind.i64 n_2, AV.int
  IntKind.i64 n_3, AV.int IntKind.i64 n_4, AV.int IntKind.i64 n_5]]).length = List.length (enOut es c out) ∧ k = k ∧ True) ∧ out ++ [[AV.int IntKind.i64 n_1, AV.int IntKind.i64 n_2,
  AV.int IntKind.i64 n_3, AV.int IntKind.i64 n_4, AV.int IntKind.i64 n_5]] = enOut es c out ∧ True else False else False
set_option maxRecDepth 100000 in
theorem xentry_P : xentry_T := by
  unfold xentry_T
  intro gl es ss out v c k f g n ⟨⟨he, ho⟩, hn⟩
  intros
  subst hn
  have bf : cond f (f = true) True := by cases f <;> trivial
  have bg : cond g (g = true) True := by cases g <;> trivial
  have no : ∀ e : Int, ¬ e = 0 → enErr es c out.length = e → e = enErr es c out.length ∧ (v = v ∧ (cond f (f = true) True ∧ es = es) ∧ (cond g (g = true) True ∧ ss = ss) ∧ out.length = (enOut es c out).length ∧ k = k ∧ True) ∧ out = enOut es c out ∧ True := by
    intro e h1 h2
    have : enOut es c out = out := by unfold enOut; rw [if_neg (by rw [h2]; exact h1)]
    rw [this]
    exact ⟨h2.symm, ⟨rfl, ⟨bf, rfl⟩, ⟨bg, rfl⟩, rfl, rfl, trivial⟩, rfl, trivial⟩
  refine ⟨he, csx (fun h => no 6 (by decide) (by unfold enErr; rw [if_pos h])) (fun h => csx (fun h2 => no 2 (by decide) (by unfold enErr; rw [if_neg h, if_pos h2])) (fun h2 => ?_))⟩
  obtain ⟨h3, h4⟩ := idx_lt h
  have h0 : enErr es c out.length = 0 := by unfold enErr; rw [if_neg h, if_neg h2]
  have ho2 : enOut es c out = out ++ [es.getD (idxP (hcP c) es).toNat []] := by unfold enOut; rw [if_pos h0]
  obtain ⟨a1, a2, a3, a4, a5, hr, _⟩ := he.fr _ h3
  refine cd1 (by omega) ⟨a1, a2, a3, a4, a5, by rw [hr]; rfl, cd1 ⟨rfl, by simp; omega, by simp; omega⟩ ?_⟩
  rw [ho2, hr]
  exact ⟨h0.symm, ⟨rfl, ⟨bf, rfl⟩, ⟨bg, rfl⟩, rfl, rfl, trivial⟩, rfl, trivial⟩
def xentry_S : Prop := ∀ (gl : Glob) (es ss out : List (List AV)) (v c k : Int) (f g : Bool) (n : Nat), (EnsP es ∧ out.length ≤ 60) ∧ n = out.length → fnH Tryd.prog { glob := gl, spec := lk [], specH := lk [(58, xenX_s)], shape := [33], nowf := true } { nt := 38, drop := drp [(1, 8128), (2, 8192), (4, 1015808), (6, 274875809792)], fr := 1000, kp := [0, 1] } (fun _ _ => none) 6 Tryd.f63 [.ptr 0 0, .int .i64 c] [.cells [.int .i64 v, .sl 5 f es, .sl 2 g ss, .rw 1 5 n, .int .i64 k], .row 23 5 out] (.int .i64 (enErr es c out.length)) [.cells [.int .i64 v, .sl 5 f es, .sl 2 g ss, .rw 1 5 (enOut es c out).length, .int .i64 (k)], .row 23 5 (enOut es c out)]
set_option maxRecDepth 100000 in
theorem xentry_e : xentry_T = xentry_S := by kernel_rfl
theorem xentry_v : xentry_S := @Eq.mp (xentry_T) (xentry_S) (xentry_e) (xentry_P)
theorem xentry_ok (gl : Glob) : HOK Tryd.prog gl 63 xentry_s := by
  refine ⟨fok Tryd.func63 (by kernel_rfl) (by kernel_rfl), ?_⟩
  intro xs bs pre r bs2 h hp
  unfold xentry_s at h
  split at h
  · simp only [Option.some.injEq, Prod.mk.injEq] at h
    obtain ⟨h1, h2, h3⟩ := h
    subst h1 h2 h3
    exact fnH_sound tyNil (by exact specOK rfl rfl trivial ⟨(xenX_ok gl), trivial⟩) (by kernel_rfl) Tryd.func63 (xentry_v gl _ _ _ _ _ _ _ _ _ hp)
  · cases h
variable (m : Nat)
--KIND tall H (*synoptic/table.expander).all
--KIND tsequence H (*synoptic/table.expander).sequence
--KIND tfirst H (*synoptic/table.expander).first
def tall_s (alE : Nat → LLA → LLA → LLA → Int → LLA → Int → Int) (alO : Nat → LLA → LLA → LLA → Int → LLA → Int → LLA) (alK : Nat → LLA → LLA → LLA → Int → LLA → Int → Int) (m : Nat) : SpH
  | [.ptr 0 0, .sl 1 h cs, .int .i64 d], [.cells [.int .i64 v, .sl 5 f es, .sl 2 g ss, .rw 1 5 n, .int .i64 k], .row 23 5 out] => some ((ExP m es ss d out k ∧ CdsP cs) ∧ n = out.length, .int .i64 (alE m es ss cs d out k), [.cells [.int .i64 v, .sl 5 f es, .sl 2 g ss, .rw 1 5 (alO m es ss cs d out k).length, .int .i64 (alK m es ss cs d out k)], .row 23 5 (alO m es ss cs d out k)])
  | _, _ => none
def tsequence_s (sqE : Nat → LLA → LLA → Int → Int → LLA → Int → Int) (sqO : Nat → LLA → LLA → Int → Int → LLA → Int → LLA) (sqK : Nat → LLA → LLA → Int → Int → LLA → Int → Int) (m : Nat) : SpH
  | [.ptr 0 0, .int .i64 c, .int .i64 d], [.cells [.int .i64 v, .sl 5 f es, .sl 2 g ss, .rw 1 5 n, .int .i64 k], .row 23 5 out] => some (ExP m es ss d out k ∧ n = out.length, .int .i64 (sqE m es ss c d out k), [.cells [.int .i64 v, .sl 5 f es, .sl 2 g ss, .rw 1 5 (sqO m es ss c d out k).length, .int .i64 (sqK m es ss c d out k)], .row 23 5 (sqO m es ss c d out k)])
  | _, _ => none
def tfirst_s (fi1 : Nat → LLA → LLA → LLA → Int → LLA → Int → LLA) (fiE : Nat → LLA → LLA → LLA → Int → LLA → Int → Int) (fiO : Nat → LLA → LLA → LLA → Int → LLA → Int → LLA) (fiK : Nat → LLA → LLA → LLA → Int → LLA → Int → Int) (m : Nat) : SpH
  | [.ptr 0 0, .sl 1 h cs, .int .i64 d], [.cells [.int .i64 v, .sl 5 f es, .sl 2 g ss, .rw 1 5 n, .int .i64 k], .row 23 5 out] => some (((ExP (m + 1) es ss d out k ∧ CdsP cs) ∧ 0 < cs.length) ∧ n = out.length, .tup [.sl 1 false (fi1 m es ss cs d out k), .int .i64 (fiE m es ss cs d out k)], [.cells [.int .i64 v, .sl 5 f es, .sl 2 g ss, .rw 1 5 (fiO m es ss cs d out k).length, .int .i64 (fiK m es ss cs d out k)], .row 23 5 (fiO m es ss cs d out k)])
  | _, _ => none
set_option maxRecDepth 100000 in
def gsequence_T (m : Nat) (alE : Nat → LLA → LLA → LLA → Int → LLA → Int → Int) (alO : Nat → LLA → LLA → LLA → Int → LLA → Int → LLA) (alK : Nat → LLA → LLA → LLA → Int → LLA → Int → Int) (sqE : Nat → LLA → LLA → Int → Int → LLA → Int → Int) (sqO : Nat → LLA → LLA → Int → Int → LLA → Int → LLA) (sqK : Nat → LLA → LLA → Int → Int → LLA → Int → Int) : Prop :=
  ∀ (gl : Glob) (es ss out : List (List AV)) (v c d k : Int) (f g : Bool) (n : Nat), ExP (↑m : Int) es ss d out k ∧ n = out.length → True → (-9223372036854775808 : Int) ≤ c ∧ c ≤
  (9223372036854775807 : Int) → (-9223372036854775808 : Int) ≤ d ∧ d ≤ (9223372036854775807 : Int) → (-9223372036854775808 : Int) ≤ v ∧ v ≤ (9223372036854775807 : Int) → True → True
  → True → (-9223372036854775808 : Int) ≤ k ∧ k ≤ (9223372036854775807 : Int) → SqsP ss ∧ bif decide (idxP (hcP c) ss < (0 : Int)) then (6 : Int) = sqE m es ss c d out k ∧ (v = v ∧
  ((bif f then f = true else True) ∧ es = es) ∧ ((bif g then g = true else True) ∧ ss = ss) ∧ n = List.length (sqO m es ss c d out k) ∧ k = sqK m es ss c d out k ∧ True) ∧ out = sqO
  m es ss c d out k ∧ True else bif decide ((20 : Int) < d) then (2 : Int) = sqE m es ss c d out k ∧ (v = v ∧ ((bif f then f = true else True) ∧ es = es) ∧ ((bif g then g = true else
  True) ∧ ss = ss) ∧ n = List.length (sqO m es ss c d out k) ∧ k = sqK m es ss c d out k ∧ True) ∧ out = sqO m es ss c d out k ∧ True else bif decide ((0 : Int) ≤ idxP (hcP c) ss ∧
  idxP (hcP c) ss < (↑ss.length : Int)) then ∃ xs, List.take [AV.sl (1 : Nat) false xs].length (List.drop (1 : Nat) (ss.getD (idxP (hcP c) ss).toNat [])) = [AV.sl (1 : Nat) false xs]
  ∧ bif decide (rng IntKind.i64 (d + (1 : Int))) then ((ExP (↑m : Int) es ss (d + (1 : Int)) out k ∧ CdsP xs) ∧ n = out.length) ∧ alE m es ss xs (d + (1 : Int)) out k = sqE m es ss c
  d out k ∧ (v = v ∧ ((bif f then f = true else True) ∧ es = es) ∧ ((bif g then g = true else True) ∧ ss = ss) ∧ List.length (alO m es ss xs (d + (1 : Int)) out k) = List.length (sqO
  m es ss c d out k) ∧ alK m es ss xs (d + (1 : Int)) out k = sqK m es ss c d out k ∧ True) ∧ alO m es ss xs (d + (1 : Int)) out k = sqO m es ss c d out k ∧ True else False else
  False
set_option maxRecDepth 100000 in
theorem gsequence_P : gsequence_T m alE alO alK sqE sqO sqK := by
  unfold gsequence_T
  intro gl es ss out v c d k f g n ⟨hp, hn⟩
  intros
  subst hn
  have bf : cond f (f = true) True := by cases f <;> trivial
  have bg : cond g (g = true) True := by cases g <;> trivial
  have no : ∀ e : Int, sqR (alR es ss m) ss c d out k = (e, out, k) → e = sqE m es ss c d out k ∧ (v = v ∧ (cond f (f = true) True ∧ es = es) ∧ (cond g (g = true) True ∧ ss = ss) ∧ out.length = (sqO m es ss c d out k).length ∧ k = sqK m es ss c d out k ∧ True) ∧ out = sqO m es ss c d out k ∧ True := by
    intro e h1
    unfold sqE sqO sqK
    rw [h1]
    exact ⟨rfl, ⟨rfl, ⟨bf, rfl⟩, ⟨bg, rfl⟩, rfl, rfl, trivial⟩, rfl, trivial⟩
  refine ⟨hp.fs, csx (fun h => no 6 (by unfold sqR; rw [if_pos h])) (fun h => csx (fun h2 => no 2 (by unfold sqR; rw [if_neg h, if_pos h2])) (fun h2 => ?_))⟩
  obtain ⟨h3, h4⟩ := idx_lt h
  obtain ⟨c', xs, hr, _, hc⟩ := hp.fs.fr _ h3
  have e : sqR (alR es ss m) ss c d out k = alR es ss m xs (d + 1) out k := by unfold sqR; rw [if_neg h, if_neg h2, hr]; rfl
  have hd := hp.fd
  refine cd1 (by omega) ⟨xs, by rw [hr]; rfl, cdI (by omega) ⟨⟨⟨⟨hp.fe, hp.fs, hp.fo, hp.f0, hp.f5, hp.fm, by omega⟩, hc⟩, rfl⟩, ?_⟩⟩
  unfold sqE sqO sqK
  rw [e]
  exact ⟨rfl, ⟨rfl, ⟨bf, rfl⟩, ⟨bg, rfl⟩, rfl, rfl, trivial⟩, rfl, trivial⟩
def gsequence_S (m : Nat) (alE : Nat → LLA → LLA → LLA → Int → LLA → Int → Int) (alO : Nat → LLA → LLA → LLA → Int → LLA → Int → LLA) (alK : Nat → LLA → LLA → LLA → Int → LLA → Int → Int) (sqE : Nat → LLA → LLA → Int → Int → LLA → Int → Int) (sqO : Nat → LLA → LLA → Int → Int → LLA → Int → LLA) (sqK : Nat → LLA → LLA → Int → Int → LLA → Int → Int) : Prop := ∀ (gl : Glob) (es ss out : List (List AV)) (v c d k : Int) (f g : Bool) (n : Nat), ExP m es ss d out k ∧ n = out.length → fnH Tryd.prog { glob := gl, spec := lk [], specH := lk [(57, xsqX_s), (37, (tall_s alE alO alK m))], shape := [28], slz := [(28, [1])], nowf := true } { nt := 32, drop := drp [(1, 32512), (2, 32768), (4, 131072), (6, 4294443008)], fr := 1000, kp := [0, 1] } (fun _ _ => none) 6 Tryd.f64 [.ptr 0 0, .int .i64 c, .int .i64 d] [.cells [.int .i64 v, .sl 5 f es, .sl 2 g ss, .rw 1 5 n, .int .i64 k], .row 23 5 out] (.int .i64 (sqE m es ss c d out k)) [.cells [.int .i64 v, .sl 5 f es, .sl 2 g ss, .rw 1 5 (sqO m es ss c d out k).length, .int .i64 (sqK m es ss c d out k)], .row 23 5 (sqO m es ss c d out k)]
set_option maxRecDepth 100000 in
theorem gsequence_e (m : Nat) (alE : Nat → LLA → LLA → LLA → Int → LLA → Int → Int) (alO : Nat → LLA → LLA → LLA → Int → LLA → Int → LLA) (alK : Nat → LLA → LLA → LLA → Int → LLA → Int → Int) (sqE : Nat → LLA → LLA → Int → Int → LLA → Int → Int) (sqO : Nat → LLA → LLA → Int → Int → LLA → Int → LLA) (sqK : Nat → LLA → LLA → Int → Int → LLA → Int → Int) : gsequence_T m alE alO alK sqE sqO sqK = gsequence_S m alE alO alK sqE sqO sqK := by kernel_rfl
theorem gsequence_v : gsequence_S m alE alO alK sqE sqO sqK := @Eq.mp (gsequence_T m alE alO alK sqE sqO sqK) (gsequence_S m alE alO alK sqE sqO sqK) (gsequence_e m alE alO alK sqE sqO sqK) (gsequence_P m)
structure RpP (A : LLA → Int → LLA → Int → Rs) (q : Int) (es ss cs : LLA) (d : Int) (t : Nat) (R : Rs) (x : Int × LLA × Int) : Prop where
  flo : 0 ≤ x.1
  fhi : x.1 ≤ t
  fx : ExP q es ss d x.2.1 x.2.2
  fr : rpR A cs d (t - x.1.toNat) x.2.1 x.2.2 = R
def firI (es ss cs : LLA) (f g : Bool) (v d c a b : Int) (m : Nat) (R : Rs) : LInv := ⟨Int × LLA × Int, fun x => ⟨[(0, .ptr 0 0), (2, .int .i64 d), (8, .int .i64 c), (9, .sl 1 false cs), (10, .int .i64 a), (11, .int .i64 b), (56, .int .i64 b), (57, .int .i64 x.1)], [(0, .cells [.int .i64 v, .sl 5 f es, .sl 2 g ss, .rw 1 5 x.2.1.length, .int .i64 x.2.2]), (1, .row 23 5 x.2.1)]⟩, RpP (alR es ss m) m es ss (cs.take a.toNat) d b.toNat R, fun x => (b - x.1).toNat, none⟩
set_option maxRecDepth 100000 in
def gfirst_T (m : Nat) (alE : Nat → LLA → LLA → LLA → Int → LLA → Int → Int) (alO : Nat → LLA → LLA → LLA → Int → LLA → Int → LLA) (alK : Nat → LLA → LLA → LLA → Int → LLA → Int → Int) (sqE : Nat → LLA → LLA → Int → Int → LLA → Int → Int) (sqO : Nat → LLA → LLA → Int → Int → LLA → Int → LLA) (sqK : Nat → LLA → LLA → Int → Int → LLA → Int → Int) (fi1 : Nat → LLA → LLA → LLA → Int → LLA → Int → LLA) (fiE : Nat → LLA → LLA → LLA → Int → LLA → Int → Int) (fiO : Nat → LLA → LLA → LLA → Int → LLA → Int → LLA) (fiK : Nat → LLA → LLA → LLA → Int → LLA → Int → Int) : Prop :=
  ∀ (gl : Glob) (es ss cs out : List (List AV)) (v d k : Int) (h f g : Bool) (n : Nat), ((ExP ((↑m : Int) + (1 : Int)) es ss d out k ∧ CdsP cs) ∧ (0 : Nat) < cs.length) ∧ n =
  out.length → True → True → (-9223372036854775808 : Int) ≤ d ∧ d ≤ (9223372036854775807 : Int) → (-9223372036854775808 : Int) ≤ v ∧ v ≤ (9223372036854775807 : Int) → True → True →
  True → (-9223372036854775808 : Int) ≤ k ∧ k ≤ (9223372036854775807 : Int) → bif decide (rng IntKind.i64 (k + (1 : Int))) then bif decide ((500 : Int) < k + (1 : Int)) then (fi1 m
  es ss cs d out k = [] ∧ (2 : Int) = fiE m es ss cs d out k ∧ True) ∧ (v = v ∧ ((bif f then f = true else True) ∧ es = es) ∧ ((bif g then g = true else True) ∧ ss = ss) ∧ n =
  List.length (fiO m es ss cs d out k) ∧ k + (1 : Int) = fiK m es ss cs d out k ∧ True) ∧ out = fiO m es ss cs d out k ∧ True else bif decide ((0 : Int) ≤ (0 : Int) ∧ (0 : Int) <
  (↑cs.length : Int)) then ∃ n_1, List.take [AV.int IntKind.i64 n_1].length (cs.getD (0 : Nat) []) = [AV.int IntKind.i64 n_1] ∧ bif decide ((0 : Int) ≤ (↑cs.length : Int) ∧
  (↑cs.length : Int) ≤ (↑cs.length : Int)) then bif decide ((0 : Int) ≤ (1 : Int) ∧ (1 : Int) ≤ (↑cs.length : Int)) then True ∧ bif decide (knd n_1 = (1 : Int)) then ((EnsP es ∧
  out.length ≤ (60 : Nat)) ∧ n = out.length) ∧ ((True ∧ List.drop (1 : Nat) (List.take (↑cs.length : Int).toNat cs) = fi1 m es ss cs d out k) ∧ enErr es n_1 (↑out.length : Int) = fiE
  m es ss cs d out k ∧ True) ∧ (v = v ∧ ((bif f then f = true else True) ∧ es = es) ∧ ((bif g then g = true else True) ∧ ss = ss) ∧ List.length (enOut es n_1 out) = List.length (fiO
  m es ss cs d out k) ∧ k + (1 : Int) = fiK m es ss cs d out k ∧ True) ∧ enOut es n_1 out = fiO m es ss cs d out k ∧ True else bif decide (knd n_1 = (2 : Int)) then (ExP (↑m : Int)
  es ss d out (k + (1 : Int)) ∧ n = out.length) ∧ ((True ∧ List.drop (1 : Nat) (List.take (↑cs.length : Int).toNat cs) = fi1 m es ss cs d out k) ∧ sqE m es ss n_1 d out (k + (1 :
  Int)) = fiE m es ss cs d out k ∧ True) ∧ (v = v ∧ ((bif f then f = true else True) ∧ es = es) ∧ ((bif g then g = true else True) ∧ ss = ss) ∧ List.length (sqO m es ss n_1 d out (k
  + (1 : Int))) = List.length (fiO m es ss cs d out k) ∧ sqK m es ss n_1 d out (k + (1 : Int)) = fiK m es ss cs d out k ∧ True) ∧ sqO m es ss n_1 d out (k + (1 : Int)) = fiO m es ss
  cs d out k ∧ True else bif decide (knd n_1 = (3 : Int)) then (20000 : Int) ≤ n_1 ∧ bif decide ((↑(List.drop (1 : Nat) (List.take (↑cs.length : Int).toNat cs)).length : Int) < rpX
  n_1) then (fi1 m es ss cs d out k = [] ∧ (11 : Int) = fiE m es ss cs d out k ∧ True) ∧ (v = v ∧ ((bif f then f = true else True) ∧ es = es) ∧ ((bif g then g = true else True) ∧ ss
  = ss) ∧ n = List.length (fiO m es ss cs d out k) ∧ k + (1 : Int) = fiK m es ss cs d out k ∧ True) ∧ out = fiO m es ss cs d out k ∧ True else (∃ x, RpP (alR es ss m) (↑m : Int) es
  ss (List.take (rpX (cellI (cs.getD (0 : Nat) []))).toNat (List.drop (1 : Nat) cs)) d (rpY (cellI (cs.getD (0 : Nat) []))).toNat (rpR (alR es ss m) (List.take (rpX (cellI (cs.getD
  (0 : Nat) []))).toNat (List.drop (1 : Nat) cs)) d (rpY (cellI (cs.getD (0 : Nat) []))).toNat out (k + (1 : Int))) x ∧ ((0 : Nat) = (0 : Nat) ∧ d = d ∧ n_1 = cellI (cs.getD (0 :
  Nat) []) ∧ (True ∧ List.drop (1 : Nat) (List.take (↑cs.length : Int).toNat cs) = List.drop (1 : Nat) cs) ∧ rpX n_1 = rpX (cellI (cs.getD (0 : Nat) [])) ∧ rpY n_1 = rpY (cellI
  (cs.getD (0 : Nat) [])) ∧ rpY n_1 = rpY (cellI (cs.getD (0 : Nat) [])) ∧ (0 : Int) = x.fst ∧ True) ∧ (v = v ∧ ((bif f then f = true else True) ∧ es = es) ∧ ((bif g then g = true
  else True) ∧ ss = ss) ∧ n = List.length x.snd.fst ∧ k + (1 : Int) = x.snd.snd ∧ True) ∧ out = x.snd.fst ∧ True) ∧ ∀ (x : Int × LLA × Int), RpP (alR es ss m) (↑m : Int) es ss
  (List.take (rpX (cellI (cs.getD (0 : Nat) []))).toNat (List.drop (1 : Nat) cs)) d (rpY (cellI (cs.getD (0 : Nat) []))).toNat (rpR (alR es ss m) (List.take (rpX (cellI (cs.getD (0 :
  Nat) []))).toNat (List.drop (1 : Nat) cs)) d (rpY (cellI (cs.getD (0 : Nat) []))).toNat out (k + (1 : Int))) x → bif decide (x.fst < rpY (cellI (cs.getD (0 : Nat) []))) then bif
  decide ((0 : Int) ≤ rpX (cellI (cs.getD (0 : Nat) [])) ∧ rpX (cellI (cs.getD (0 : Nat) [])) ≤ (↑(List.drop (1 : Nat) cs).length : Int)) then bif decide ((0 : Int) ≤ (0 : Int) ∧ (0
  : Int) ≤ rpX (cellI (cs.getD (0 : Nat) []))) then ((ExP (↑m : Int) es ss d x.snd.fst x.snd.snd ∧ CdsP (List.drop (0 : Nat) (List.take (rpX (cellI (cs.getD (0 : Nat) []))).toNat
  (List.drop (1 : Nat) cs)))) ∧ List.length x.snd.fst = List.length x.snd.fst) ∧ bif decide ¬alE m es ss (List.drop (0 : Nat) (List.take (rpX (cellI (cs.getD (0 : Nat) []))).toNat
  (List.drop (1 : Nat) cs))) d x.snd.fst x.snd.snd = (0 : Int) then (fi1 m es ss cs d out k = [] ∧ alE m es ss (List.drop (0 : Nat) (List.take (rpX (cellI (cs.getD (0 : Nat)
  []))).toNat (List.drop (1 : Nat) cs))) d x.snd.fst x.snd.snd = fiE m es ss cs d out k ∧ True) ∧ (v = v ∧ ((bif f then f = true else True) ∧ es = es) ∧ ((bif g then g = true else
  True) ∧ ss = ss) ∧ List.length (alO m es ss (List.drop (0 : Nat) (List.take (rpX (cellI (cs.getD (0 : Nat) []))).toNat (List.drop (1 : Nat) cs))) d x.snd.fst x.snd.snd) =
  List.length (fiO m es ss cs d out k) ∧ alK m es ss (List.drop (0 : Nat) (List.take (rpX (cellI (cs.getD (0 : Nat) []))).toNat (List.drop (1 : Nat) cs))) d x.snd.fst x.snd.snd = fiK
  m es ss cs d out k ∧ True) ∧ alO m es ss (List.drop (0 : Nat) (List.take (rpX (cellI (cs.getD (0 : Nat) []))).toNat (List.drop (1 : Nat) cs))) d x.snd.fst x.snd.snd = fiO m es ss
  cs d out k ∧ True else bif decide (rng IntKind.i64 (x.fst + (1 : Int))) then ∃ y, RpP (alR es ss m) (↑m : Int) es ss (List.take (rpX (cellI (cs.getD (0 : Nat) []))).toNat
  (List.drop (1 : Nat) cs)) d (rpY (cellI (cs.getD (0 : Nat) []))).toNat (rpR (alR es ss m) (List.take (rpX (cellI (cs.getD (0 : Nat) []))).toNat (List.drop (1 : Nat) cs)) d (rpY
  (cellI (cs.getD (0 : Nat) []))).toNat out (k + (1 : Int))) y ∧ (firI es ss (List.drop (1 : Nat) cs) f g v d (cellI (cs.getD (0 : Nat) [])) (rpX (cellI (cs.getD (0 : Nat) []))) (rpY
  (cellI (cs.getD (0 : Nat) []))) m (rpR (alR es ss m) (List.take (rpX (cellI (cs.getD (0 : Nat) []))).toNat (List.drop (1 : Nat) cs)) d (rpY (cellI (cs.getD (0 : Nat) []))).toNat
  out (k + (1 : Int)))).m y < (firI es ss (List.drop (1 : Nat) cs) f g v d (cellI (cs.getD (0 : Nat) [])) (rpX (cellI (cs.getD (0 : Nat) []))) (rpY (cellI (cs.getD (0 : Nat) []))) m
  (rpR (alR es ss m) (List.take (rpX (cellI (cs.getD (0 : Nat) []))).toNat (List.drop (1 : Nat) cs)) d (rpY (cellI (cs.getD (0 : Nat) []))).toNat out (k + (1 : Int)))).m x ∧ ((0 :
  Nat) = (0 : Nat) ∧ d = d ∧ cellI (cs.getD (0 : Nat) []) = cellI (cs.getD (0 : Nat) []) ∧ (True ∧ List.drop (1 : Nat) cs = List.drop (1 : Nat) cs) ∧ rpX (cellI (cs.getD (0 : Nat)
  [])) = rpX (cellI (cs.getD (0 : Nat) [])) ∧ rpY (cellI (cs.getD (0 : Nat) [])) = rpY (cellI (cs.getD (0 : Nat) [])) ∧ rpY (cellI (cs.getD (0 : Nat) [])) = rpY (cellI (cs.getD (0 :
  Nat) [])) ∧ x.fst + (1 : Int) = y.fst ∧ True) ∧ (v = v ∧ ((bif f then f = true else True) ∧ es = es) ∧ ((bif g then g = true else True) ∧ ss = ss) ∧ List.length (alO m es ss
  (List.drop (0 : Nat) (List.take (rpX (cellI (cs.getD (0 : Nat) []))).toNat (List.drop (1 : Nat) cs))) d x.snd.fst x.snd.snd) = List.length y.snd.fst ∧ alK m es ss (List.drop (0 :
  Nat) (List.take (rpX (cellI (cs.getD (0 : Nat) []))).toNat (List.drop (1 : Nat) cs))) d x.snd.fst x.snd.snd = y.snd.snd ∧ True) ∧ alO m es ss (List.drop (0 : Nat) (List.take (rpX
  (cellI (cs.getD (0 : Nat) []))).toNat (List.drop (1 : Nat) cs))) d x.snd.fst x.snd.snd = y.snd.fst ∧ True else False else False else False else bif decide ((0 : Int) ≤ (↑(List.drop
  (1 : Nat) cs).length : Int) ∧ (↑(List.drop (1 : Nat) cs).length : Int) ≤ (↑(List.drop (1 : Nat) cs).length : Int)) then bif decide ((0 : Int) ≤ rpX (cellI (cs.getD (0 : Nat) [])) ∧
  rpX (cellI (cs.getD (0 : Nat) [])) ≤ (↑(List.drop (1 : Nat) cs).length : Int)) then ((True ∧ List.drop (rpX (cellI (cs.getD (0 : Nat) []))).toNat (List.take (↑(List.drop (1 : Nat)
  cs).length : Int).toNat (List.drop (1 : Nat) cs)) = fi1 m es ss cs d out k) ∧ (0 : Int) = fiE m es ss cs d out k ∧ True) ∧ (v = v ∧ ((bif f then f = true else True) ∧ es = es) ∧
  ((bif g then g = true else True) ∧ ss = ss) ∧ List.length x.snd.fst = List.length (fiO m es ss cs d out k) ∧ x.snd.snd = fiK m es ss cs d out k ∧ True) ∧ x.snd.fst = fiO m es ss cs
  d out k ∧ True else False else False else (fi1 m es ss cs d out k = [] ∧ (1 : Int) = fiE m es ss cs d out k ∧ True) ∧ (v = v ∧ ((bif f then f = true else True) ∧ es = es) ∧ ((bif g
  then g = true else True) ∧ ss = ss) ∧ n = List.length (fiO m es ss cs d out k) ∧ k + (1 : Int) = fiK m es ss cs d out k ∧ True) ∧ out = fiO m es ss cs d out k ∧ True else False
  else False else False else False
set_option maxRecDepth 100000 in
theorem gfirst_P : gfirst_T m alE alO alK sqE sqO sqK fi1 fiE fiO fiK := by
  unfold gfirst_T
  intro gl es ss cs out v d k h f g n ⟨⟨⟨hp, hc⟩, hl⟩, hn⟩
  intros
  subst hn
  have bf : cond f (f = true) True := by cases f <;> trivial
  have bg : cond g (g = true) True := by cases g <;> trivial
  have h0 := hp.f0
  have h5 := hp.f5
  have hfl := hc.fl
  have fin : ∀ (r : LLA) (e : Int) (o : LLA) (j : Int), fiR (alR es ss m) es ss cs d out k = (r, e, o, j) → (r = fi1 m es ss cs d out k ∧ e = fiE m es ss cs d out k ∧ o = fiO m es ss cs d out k ∧ j = fiK m es ss cs d out k) := by
    intro r e o j hh
    unfold fi1 fiE fiO fiK
    rw [hh]
    exact ⟨rfl, rfl, rfl, rfl⟩
  have nil : ∀ (e : Int) (o : LLA) (j : Int), fiR (alR es ss m) es ss cs d out k = ([], e, o, j) → (fi1 m es ss cs d out k = [] ∧ e = fiE m es ss cs d out k ∧ True) ∧ (v = v ∧ (cond f (f = true) True ∧ es = es) ∧ (cond g (g = true) True ∧ ss = ss) ∧ o.length = (fiO m es ss cs d out k).length ∧ j = fiK m es ss cs d out k ∧ True) ∧ o = fiO m es ss cs d out k ∧ True := by
    intro e o j hh
    obtain ⟨q1, q2, q3, q4⟩ := fin _ _ _ _ hh
    rw [← q1, ← q2, ← q3, ← q4]
    exact ⟨⟨rfl, rfl, trivial⟩, ⟨rfl, ⟨bf, rfl⟩, ⟨bg, rfl⟩, rfl, rfl, trivial⟩, rfl, trivial⟩
  have some : ∀ (r : LLA) (e : Int) (o : LLA) (j : Int), fiR (alR es ss m) es ss cs d out k = (r, e, o, j) → ((True ∧ r = fi1 m es ss cs d out k) ∧ e = fiE m es ss cs d out k ∧ True) ∧ (v = v ∧ (cond f (f = true) True ∧ es = es) ∧ (cond g (g = true) True ∧ ss = ss) ∧ o.length = (fiO m es ss cs d out k).length ∧ j = fiK m es ss cs d out k ∧ True) ∧ o = fiO m es ss cs d out k ∧ True := by
    intro r e o j hh
    obtain ⟨q1, q2, q3, q4⟩ := fin _ _ _ _ hh
    rw [← q1, ← q2, ← q3, ← q4]
    exact ⟨⟨⟨trivial, rfl⟩, rfl, trivial⟩, ⟨rfl, ⟨bf, rfl⟩, ⟨bg, rfl⟩, rfl, rfl, trivial⟩, rfl, trivial⟩
  have tk : List.take ((cs.length : Int)).toNat cs = cs := by rw [Int.toNat_natCast, List.take_length]
  refine cdI (by omega) (csx (fun hb => nil _ _ _ (fi_big hb)) (fun hb => ?_))
  obtain ⟨c0, hr, _⟩ := hc.fr 0 hl
  have hn1 : ExP m es ss d out (k + 1) := ⟨hp.fe, hp.fs, hp.fo, by omega, by omega, by have := hp.fm; omega, hp.fd⟩
  refine cd1 (by omega) ⟨cellI (cs.getD 0 []), by rw [hr]; rfl, cd1 (by omega) (cd1 (by omega) ⟨trivial, ?_⟩)⟩
  rw [tk]
  have hl1 : ((cs.drop 1).length : Int) = cs.length - 1 := by rw [List.length_drop]; omega
  refine csx (fun h1 => ⟨⟨⟨hp.fe, hp.fo⟩, rfl⟩, some _ _ _ _ (fi_1 hb h1)⟩) (fun h1 => csx (fun h2 => ⟨⟨hn1, rfl⟩, some _ _ _ _ (fi_2 hb h2)⟩) (fun h2 => csx (fun h3 => ?_) (fun h3 => nil _ _ _ (fi_0 hb h1 h2 h3))))
  have hk3 : 20000 ≤ cellI (cs.getD 0 []) ∧ 1 ≤ rpX (cellI (cs.getD 0 [])) ∧ rpX (cellI (cs.getD 0 [])) ≤ 20 ∧ 1 ≤ rpY (cellI (cs.getD 0 [])) ∧ rpY (cellI (cs.getD 0 [])) ≤ 20 := by
    unfold knd at h3
    split at h3
    · cases h3
    · split at h3
      · cases h3
      · split at h3
        · cases h3
        · split at h3
          · omega
          · cases h3
  refine ⟨hk3.1, csx (fun h4 => nil _ _ _ (fi_3s hb h3 h4)) (fun h4 => ?_)⟩
  have hR := fi_3 (A := alR es ss m) (es := es) (ss := ss) (cs := cs) (out := out) (d := d) (k := k) hb h3 h4
  generalize rpX (cellI (cs.getD 0 [])) = a at *
  generalize rpY (cellI (cs.getD 0 [])) = b at *
  refine ⟨⟨(0, out, k + 1), ⟨by simp, by simp only; omega, hn1, by simp⟩, ⟨rfl, rfl, rfl, ⟨trivial, rfl⟩, rfl, rfl, rfl, rfl, trivial⟩, ⟨rfl, ⟨bf, rfl⟩, ⟨bg, rfl⟩, rfl, rfl, trivial⟩, rfl, trivial⟩, ?_⟩
  rintro ⟨i, o, j⟩ ⟨i0, i1, ix, ir⟩
  simp only at i0 i1 ix ir
  dsimp only
  refine csx (fun hi => cd1 (by omega) (cd1 (by omega) ?_)) (fun hi => ?_)
  · rw [List.drop_zero]
    have hct := (hc.drop 1).take a.toNat
    have hal := alR_ok es ss m _ d o j ix hct
    refine ⟨⟨⟨ix, hct⟩, rfl⟩, csx (fun he => ?_) (fun he => ?_)⟩
    · have he : ¬ (alR es ss m (List.take a.toNat (List.drop 1 cs)) d o j).1 = 0 := he
      rw [show b.toNat - i.toNat = (b.toNat - (i + 1).toNat) + 1 by omega, rpR, if_neg he] at ir
      rw [← ir, if_neg he] at hR
      exact nil _ _ _ hR
    · have he : (alR es ss m (List.take a.toNat (List.drop 1 cs)) d o j).1 = 0 := Decidable.not_not.1 he
      rw [show b.toNat - i.toNat = (b.toNat - (i + 1).toNat) + 1 by omega, rpR, if_pos he] at ir
      exact cdI (by omega) ⟨(i + 1, _, _), ⟨by simp only; omega, by simp only; omega, ix.next hal.fo hal.fk (hal.fz he), ir⟩, by simp only [firI]; omega, ⟨rfl, rfl, rfl, ⟨trivial, rfl⟩, rfl, rfl, rfl, rfl, trivial⟩, ⟨rfl, ⟨bf, rfl⟩, ⟨bg, rfl⟩, rfl, rfl, trivial⟩, rfl, trivial⟩
  · rw [show b.toNat - i.toNat = 0 by omega, rpR] at ir
    rw [← ir, if_pos rfl] at hR
    refine cd1 (by omega) (cd1 (by omega) ?_)
    rw [show ((cs.drop 1).length : Int).toNat = (cs.drop 1).length from Int.toNat_natCast _, List.take_length]
    exact some _ _ _ _ hR
def gfirst_S (m : Nat) (alE : Nat → LLA → LLA → LLA → Int → LLA → Int → Int) (alO : Nat → LLA → LLA → LLA → Int → LLA → Int → LLA) (alK : Nat → LLA → LLA → LLA → Int → LLA → Int → Int) (sqE : Nat → LLA → LLA → Int → Int → LLA → Int → Int) (sqO : Nat → LLA → LLA → Int → Int → LLA → Int → LLA) (sqK : Nat → LLA → LLA → Int → Int → LLA → Int → Int) (fi1 : Nat → LLA → LLA → LLA → Int → LLA → Int → LLA) (fiE : Nat → LLA → LLA → LLA → Int → LLA → Int → Int) (fiO : Nat → LLA → LLA → LLA → Int → LLA → Int → LLA) (fiK : Nat → LLA → LLA → LLA → Int → LLA → Int → Int) : Prop := ∀ (gl : Glob) (es ss cs out : List (List AV)) (v d k : Int) (h f g : Bool) (n : Nat), ((ExP (m + 1) es ss d out k ∧ CdsP cs) ∧ 0 < cs.length) ∧ n = out.length → fnH Tryd.prog { glob := gl, spec := lk [(55, (tof_s Go.Proofs.YthdfkiopppkfcaaDoor.knd)), (62, (tsplit_s Go.Proofs.YthdfkiopppkfcaaDoor.rpX Go.Proofs.YthdfkiopppkfcaaDoor.rpY))], specH := lk [(63, xentry_s), (37, (tall_s alE alO alK m)), (64, (tsequence_s sqE sqO sqK m))], shape := [27], nowf := true } { nt := 72, drop := drp [(1, 1040384), (2, 15728640), (4, 1040187392), (5, 1073741824), (6, 8589934592), (7, 257698037760), (8, 549755813888), (9, 34084860461056), (10, 70368744177664), (11, 4362862139015168), (12, 31525197391593472), (16, 36317027395115679744), (17, 36893488147419103232), (18, 147573952589676412928), (19, 295147905179352825856), (20, 4132070672510939561984)], fr := 1000, kp := [0, 1] } (invs [(15, firI es ss (cs.drop 1) f g v d (cellI (cs.getD 0 [])) (rpX (cellI (cs.getD 0 []))) (rpY (cellI (cs.getD 0 []))) m (rpR (alR es ss m) ((cs.drop 1).take (rpX (cellI (cs.getD 0 []))).toNat) d (rpY (cellI (cs.getD 0 []))).toNat out (k + 1)))]) 6 Tryd.f56 [.ptr 0 0, .sl 1 h cs, .int .i64 d] [.cells [.int .i64 v, .sl 5 f es, .sl 2 g ss, .rw 1 5 n, .int .i64 k], .row 23 5 out] (.tup [.sl 1 false (fi1 m es ss cs d out k), .int .i64 (fiE m es ss cs d out k)]) [.cells [.int .i64 v, .sl 5 f es, .sl 2 g ss, .rw 1 5 (fiO m es ss cs d out k).length, .int .i64 (fiK m es ss cs d out k)], .row 23 5 (fiO m es ss cs d out k)]
set_option maxRecDepth 100000 in
theorem gfirst_e (m : Nat) (alE : Nat → LLA → LLA → LLA → Int → LLA → Int → Int) (alO : Nat → LLA → LLA → LLA → Int → LLA → Int → LLA) (alK : Nat → LLA → LLA → LLA → Int → LLA → Int → Int) (sqE : Nat → LLA → LLA → Int → Int → LLA → Int → Int) (sqO : Nat → LLA → LLA → Int → Int → LLA → Int → LLA) (sqK : Nat → LLA → LLA → Int → Int → LLA → Int → Int) (fi1 : Nat → LLA → LLA → LLA → Int → LLA → Int → LLA) (fiE : Nat → LLA → LLA → LLA → Int → LLA → Int → Int) (fiO : Nat → LLA → LLA → LLA → Int → LLA → Int → LLA) (fiK : Nat → LLA → LLA → LLA → Int → LLA → Int → Int) : gfirst_T m alE alO alK sqE sqO sqK fi1 fiE fiO fiK = gfirst_S m alE alO alK sqE sqO sqK fi1 fiE fiO fiK := by kernel_rfl
theorem gfirst_v : gfirst_S m alE alO alK sqE sqO sqK fi1 fiE fiO fiK := @Eq.mp (gfirst_T m alE alO alK sqE sqO sqK fi1 fiE fiO fiK) (gfirst_S m alE alO alK sqE sqO sqK fi1 fiE fiO fiK) (gfirst_e m alE alO alK sqE sqO sqK fi1 fiE fiO fiK) (gfirst_P m)
structure AlP (F : LLA → LLA → Int → LLA × Rs) (q : Int) (es ss : LLA) (d : Int) (R : Rs) (x : LLA × LLA × Int) : Prop where
  fx : ExP q es ss d x.2.1 x.2.2
  fc : CdsP x.1
  fr : ∃ n, x.1.length ≤ n ∧ alL F n x.1 x.2.1 x.2.2 = R
def allI (es ss : LLA) (f g : Bool) (v d : Int) (m : Nat) (R : Rs) : LInv := ⟨LLA × LLA × Int, fun x => ⟨[(0, .ptr 0 0), (1, .sl 1 false x.1), (2, .int .i64 d)], [(0, .cells [.int .i64 v, .sl 5 f es, .sl 2 g ss, .rw 1 5 x.2.1.length, .int .i64 x.2.2]), (1, .row 23 5 x.2.1)]⟩, AlP (fun cs out k => fiR (alR es ss m) es ss cs d out k) (m + 1) es ss d R, fun x => x.1.length, none⟩
set_option maxRecDepth 100000 in
def gall_T (m : Nat) (alE : Nat → LLA → LLA → LLA → Int → LLA → Int → Int) (alO : Nat → LLA → LLA → LLA → Int → LLA → Int → LLA) (alK : Nat → LLA → LLA → LLA → Int → LLA → Int → Int) (fi1 : Nat → LLA → LLA → LLA → Int → LLA → Int → LLA) (fiE : Nat → LLA → LLA → LLA → Int → LLA → Int → Int) (fiO : Nat → LLA → LLA → LLA → Int → LLA → Int → LLA) (fiK : Nat → LLA → LLA → LLA → Int → LLA → Int → Int) : Prop :=
  ∀ (gl : Glob) (es ss cs out : List (List AV)) (v d k : Int) (h f g : Bool) (n : Nat), (ExP ((↑m : Int) + (1 : Int)) es ss d out k ∧ CdsP cs) ∧ n = out.length → True → True →
  (-9223372036854775808 : Int) ≤ d ∧ d ≤ (9223372036854775807 : Int) → (-9223372036854775808 : Int) ≤ v ∧ v ≤ (9223372036854775807 : Int) → True → True → True → (-9223372036854775808
  : Int) ≤ k ∧ k ≤ (9223372036854775807 : Int) → (∃ x, AlP (fun cs out k => fiR (alR es ss m) es ss cs d out k) ((↑m : Int) + (1 : Int)) es ss d (alR es ss (m + (1 : Nat)) cs d out
  k) x ∧ ((0 : Nat) = (0 : Nat) ∧ (True ∧ cs = x.fst) ∧ d = d ∧ True) ∧ (v = v ∧ ((bif f then f = true else True) ∧ es = es) ∧ ((bif g then g = true else True) ∧ ss = ss) ∧ n =
  List.length x.snd.fst ∧ k = x.snd.snd ∧ True) ∧ out = x.snd.fst ∧ True) ∧ ∀ (x : LLA × LLA × Int), AlP (fun cs out k => fiR (alR es ss m) es ss cs d out k) ((↑m : Int) + (1 : Int))
  es ss d (alR es ss (m + (1 : Nat)) cs d out k) x → bif decide ((0 : Int) < (↑(List.length x.fst) : Int)) then (((ExP ((↑m : Int) + (1 : Int)) es ss d x.snd.fst x.snd.snd ∧ CdsP
  x.fst) ∧ (0 : Nat) < List.length x.fst) ∧ List.length x.snd.fst = List.length x.snd.fst) ∧ bif decide ¬fiE m es ss x.fst d x.snd.fst x.snd.snd = (0 : Int) then fiE m es ss x.fst d
  x.snd.fst x.snd.snd = alE (m + (1 : Nat)) es ss cs d out k ∧ (v = v ∧ ((bif f then f = true else True) ∧ es = es) ∧ ((bif g then g = true else True) ∧ ss = ss) ∧ List.length (fiO m
  es ss x.fst d x.snd.fst x.snd.snd) = List.length (alO (m + (1 : Nat)) es ss cs d out k) ∧ fiK m es ss x.fst d x.snd.fst x.snd.snd = alK (m + (1 : Nat)) es ss cs d out k ∧ True) ∧
  fiO m es ss x.fst d x.snd.fst x.snd.snd = alO (m + (1 : Nat)) es ss cs d out k ∧ True else ∃ y, AlP (fun cs out k => fiR (alR es ss m) es ss cs d out k) ((↑m : Int) + (1 : Int)) es
  ss d (alR es ss (m + (1 : Nat)) cs d out k) y ∧ (allI es ss f g v d m (alR es ss (m + (1 : Nat)) cs d out k)).m y < (allI es ss f g v d m (alR es ss (m + (1 : Nat)) cs d out k)).m
  x ∧ ((0 : Nat) = (0 : Nat) ∧ (True ∧ fi1 m es ss x.fst d x.snd.fst x.snd.snd = y.fst) ∧ d = d ∧ True) ∧ (v = v ∧ ((bif f then f = true else True) ∧ es = es) ∧ ((bif g then g = true
  else True) ∧ ss = ss) ∧ List.length (fiO m es ss x.fst d x.snd.fst x.snd.snd) = List.length y.snd.fst ∧ fiK m es ss x.fst d x.snd.fst x.snd.snd = y.snd.snd ∧ True) ∧ fiO m es ss
  x.fst d x.snd.fst x.snd.snd = y.snd.fst ∧ True else (0 : Int) = alE (m + (1 : Nat)) es ss cs d out k ∧ (v = v ∧ ((bif f then f = true else True) ∧ es = es) ∧ ((bif g then g = true
  else True) ∧ ss = ss) ∧ List.length x.snd.fst = List.length (alO (m + (1 : Nat)) es ss cs d out k) ∧ x.snd.snd = alK (m + (1 : Nat)) es ss cs d out k ∧ True) ∧ x.snd.fst = alO (m +
  (1 : Nat)) es ss cs d out k ∧ True
set_option maxRecDepth 100000 in
theorem gall_P : gall_T m alE alO alK fi1 fiE fiO fiK := by
  unfold gall_T
  intro gl es ss cs out v d k h f g n ⟨⟨hp, hc⟩, hn⟩
  intros
  subst hn
  have bf : cond f (f = true) True := by cases f <;> trivial
  have bg : cond g (g = true) True := by cases g <;> trivial
  refine ⟨⟨(cs, out, k), ⟨hp, hc, cs.length, Nat.le_refl _, rfl⟩, ⟨rfl, ⟨trivial, rfl⟩, rfl, trivial⟩, ⟨rfl, ⟨bf, rfl⟩, ⟨bg, rfl⟩, rfl, rfl, trivial⟩, rfl, trivial⟩, ?_⟩
  rintro ⟨c1, o1, k1⟩ ⟨hx, hc1, q, hq, hr⟩
  simp only at hx hc1 hq hr
  dsimp only
  unfold alE alO alK
  generalize alR es ss (m + 1) cs d out k = R at *
  refine csx (fun hl => ⟨⟨⟨⟨hx, hc1⟩, by omega⟩, rfl⟩, csx (fun he => ?_) (fun he => ?_)⟩) (fun hl => ?_)
  · obtain ⟨q, rfl⟩ : ∃ q', q = q' + 1 := ⟨q - 1, by omega⟩
    have he : ¬ (fiR (alR es ss m) es ss c1 d o1 k1).2.1 = 0 := he
    rw [alL, if_neg (by omega), if_neg he] at hr
    rw [← hr]
    exact ⟨rfl, ⟨rfl, ⟨bf, rfl⟩, ⟨bg, rfl⟩, rfl, rfl, trivial⟩, rfl, trivial⟩
  · have he := Decidable.not_not.1 he
    obtain ⟨q, rfl⟩ : ∃ q', q = q' + 1 := ⟨q - 1, by omega⟩
    have hF := fiR_ok (alR_ok es ss m) hx hc1 (by omega)
    rw [alL, if_neg (by omega), if_pos (show (fiR (alR es ss m) es ss c1 d o1 k1).2.1 = 0 from he)] at hr
    have hfl := hF.fl
    exact ⟨(_, _, _), ⟨hx.next hF.fr.fo hF.fr.fk (hF.fr.fz he), hF.fc, q, Nat.le_of_lt_succ (Nat.lt_of_lt_of_le hfl hq), hr⟩, by simp only [allI]; exact hfl, ⟨rfl, ⟨trivial, rfl⟩, rfl, trivial⟩, ⟨rfl, ⟨bf, rfl⟩, ⟨bg, rfl⟩, rfl, rfl, trivial⟩, rfl, trivial⟩
  · rw [alL_end (by omega)] at hr
    rw [← hr]
    exact ⟨rfl, ⟨rfl, ⟨bf, rfl⟩, ⟨bg, rfl⟩, rfl, rfl, trivial⟩, rfl, trivial⟩
def gall_S (m : Nat) (alE : Nat → LLA → LLA → LLA → Int → LLA → Int → Int) (alO : Nat → LLA → LLA → LLA → Int → LLA → Int → LLA) (alK : Nat → LLA → LLA → LLA → Int → LLA → Int → Int) (fi1 : Nat → LLA → LLA → LLA → Int → LLA → Int → LLA) (fiE : Nat → LLA → LLA → LLA → Int → LLA → Int → Int) (fiO : Nat → LLA → LLA → LLA → Int → LLA → Int → LLA) (fiK : Nat → LLA → LLA → LLA → Int → LLA → Int → Int) : Prop := ∀ (gl : Glob) (es ss cs out : List (List AV)) (v d k : Int) (h f g : Bool) (n : Nat), (ExP (m + 1) es ss d out k ∧ CdsP cs) ∧ n = out.length → fnH Tryd.prog { glob := gl, spec := lk [], specH := lk [(56, (tfirst_s fi1 fiE fiO fiK m))], nowf := true } { nt := 23, drop := drp [(1, 1536), (2, 520192), (3, 524288), (4, 2097152), (5, 4194304)], fr := 1000, kp := [0, 1] } (invs [(1, allI es ss f g v d m (alR es ss (m + 1) cs d out k))]) 6 Tryd.f37 [.ptr 0 0, .sl 1 h cs, .int .i64 d] [.cells [.int .i64 v, .sl 5 f es, .sl 2 g ss, .rw 1 5 n, .int .i64 k], .row 23 5 out] (.int .i64 (alE (m + 1) es ss cs d out k)) [.cells [.int .i64 v, .sl 5 f es, .sl 2 g ss, .rw 1 5 (alO (m + 1) es ss cs d out k).length, .int .i64 (alK (m + 1) es ss cs d out k)], .row 23 5 (alO (m + 1) es ss cs d out k)]
set_option maxRecDepth 100000 in
theorem gall_e (m : Nat) (alE : Nat → LLA → LLA → LLA → Int → LLA → Int → Int) (alO : Nat → LLA → LLA → LLA → Int → LLA → Int → LLA) (alK : Nat → LLA → LLA → LLA → Int → LLA → Int → Int) (fi1 : Nat → LLA → LLA → LLA → Int → LLA → Int → LLA) (fiE : Nat → LLA → LLA → LLA → Int → LLA → Int → Int) (fiO : Nat → LLA → LLA → LLA → Int → LLA → Int → LLA) (fiK : Nat → LLA → LLA → LLA → Int → LLA → Int → Int) : gall_T m alE alO alK fi1 fiE fiO fiK = gall_S m alE alO alK fi1 fiE fiO fiK := by kernel_rfl
theorem gall_v : gall_S m alE alO alK fi1 fiE fiO fiK := @Eq.mp (gall_T m alE alO alK fi1 fiE fiO fiK) (gall_S m alE alO alK fi1 fiE fiO fiK) (gall_e m alE alO alK fi1 fiE fiO fiK) (gall_P m)
end Go.Proofs.YthdfkiopppkfcaaDoor
