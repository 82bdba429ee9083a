/- Climates: the program's functions. -/
import Derived.Test.YtceknalhogbbnaaDoorCm
import Derived.Test.YtceknalhogbbnaaDoorDv
namespace Go.Proofs.YtceknalhogbbnaaDoor
open Go
set_option linter.unusedVariables false
set_option linter.unusedSimpArgs false

/-! Normals: rows of five numbers. -/
structure NrsP (xs : List (List AV)) : Prop where
  fr : ∀ i, i < xs.length → ∃ e f m a s : Int, xs.getD i [] = [.int .i64 e, .int .i64 f, .int .i64 m, .int .i64 a, .int .i64 s] ∧ (rng .i64 e ∧ rng .i64 f ∧ rng .i64 m ∧ rng .i64 a ∧ rng .i64 s)
  fs : xs.length ≤ 9223372036854775807
def nC (k : Nat) (r : List AV) : Int := cellI ((r.drop k).take 1)
def kdP (r : List AV) : Bool := !okC (nC 0 r)
def rgB (f m a s : Int) : Bool := decide ((0 ≤ f ∧ f < 20) ∧ (1 ≤ m ∧ m ≤ 12) ∧ (-10000 ≤ a ∧ a ≤ 20000) ∧ 0 ≤ s ∧ s ≤ 20000)
def rgP (r : List AV) : Bool := !rgB (nC 1 r) (nC 2 r) (nC 3 r) (nC 4 r)
def cmp3 (e f m e' f' m' : Int) : Int := orI (cmpI e e') (orI (cmpI f f') (cmpI m m'))
def cmpR (r r' : List AV) : Int := cmp3 (nC 0 r) (nC 1 r) (nC 2 r) (nC 0 r') (nC 1 r') (nC 2 r')
def ordN (xs : List (List AV)) : Bool := decide (∀ j, j < xs.length → j = 0 ∨ cmpR (xs.getD (j - 1) []) (xs.getD j []) < 0)
def cvE (xs : List (List AV)) : Int := if 200 < xs.length then 2 else if xs.any kdP then 4 else if xs.any rgP then 1 else if ordN xs then 0 else 8
def cexists_s (okC : Int → Bool) (iL : Int → ByteArray) (inLo : Int → Int) (inHi : Int → Int) (inD : Int → Int) (inE : Int → Int) : Sp
  | [.int .i64 c] => some (True, .bool (okC c))
  | _ => none
set_option maxRecDepth 100000 in
def cexists_T (okC : Int → Bool) (iL : Int → ByteArray) (inLo : Int → Int) (inHi : Int → Int) (inD : Int → Int) (inE : Int → Int) : Prop :=
  ∀ (c : Int), (-9223372036854775808 : Int) ≤ c ∧ c ≤ (9223372036854775807 : Int) → True ∧ decide (inE c = (0 : Int)) = okC c
set_option maxRecDepth 100000 in
theorem cexists_P : cexists_T okC iL inLo inHi inD inE := by
  unfold cexists_T
  intro c h
  refine ⟨trivial, ?_⟩
  unfold inE
  cases hc : okC c with
  | true => rw [if_pos rfl]; rfl
  | false => rw [if_neg (by simp)]; rfl
def cexists_S (okC : Int → Bool) (iL : Int → ByteArray) (inLo : Int → Int) (inHi : Int → Int) (inD : Int → Int) (inE : Int → Int) : Prop := ∀ (c : Int), fnK Tryd.prog { glob := glb, spec := lk [(81, (edesc_s iL inLo inHi inD inE))], specH := lk [], nowf := true } { nt := 12, drop := drp [(1, 1000), (2, 3072)] } (fun _ _ => none) 6 Tryd.f63 [.int .i64 c] (.bool (okC c))
set_option maxRecDepth 100000 in
theorem cexists_e (okC : Int → Bool) (iL : Int → ByteArray) (inLo : Int → Int) (inHi : Int → Int) (inD : Int → Int) (inE : Int → Int) : cexists_T okC iL inLo inHi inD inE = cexists_S okC iL inLo inHi inD inE := by kernel_rfl
theorem cexists_v : cexists_S okC iL inLo inHi inD inE := @Eq.mp (cexists_T okC iL inLo inHi inD inE) (cexists_S okC iL inLo inHi inD inE) (cexists_e okC iL inLo inHi inD inE) cexists_P
theorem cexists_ok : SOK Tryd.prog glb 63 (cexists_s okC iL inLo inHi inD inE) := by
  refine ⟨fok Tryd.func63 (by kernel_rfl) (by kernel_rfl), ?_⟩
  intro xs pre r h hp
  unfold cexists_s at h
  split at h
  · simp only [Option.some.injEq, Prod.mk.injEq] at h
    obtain ⟨h1, h2⟩ := h
    subst h1 h2
    exact fnK_sound tyNil (by exact specOK rfl rfl ⟨(edesc_ok), trivial⟩ trivial) (by kernel_rfl) Tryd.func63 rfl (cexists_v  _)
  · cases h
def cvf1_s (okC : Int → Bool) : Sp
  | [.agg [.int .i64 e, .int .i64 f, .int .i64 m, .int .i64 a, .int .i64 s]] => some (True, .bool (!okC e))
  | _ => none
set_option maxRecDepth 100000 in
def cvf1_T (okC : Int → Bool) (iL : Int → ByteArray) (inLo : Int → Int) (inHi : Int → Int) (inD : Int → Int) (inE : Int → Int) : Prop :=
  ∀ (e f m a s : Int), ((-9223372036854775808 : Int) ≤ e ∧ e ≤ (9223372036854775807 : Int)) ∧ ((-9223372036854775808 : Int) ≤ f ∧ f ≤ (9223372036854775807 : Int)) ∧
  ((-9223372036854775808 : Int) ≤ m ∧ m ≤ (9223372036854775807 : Int)) ∧ ((-9223372036854775808 : Int) ≤ a ∧ a ≤ (9223372036854775807 : Int)) ∧ ((-9223372036854775808 : Int) ≤ s ∧ s
  ≤ (9223372036854775807 : Int)) ∧ True → True ∧ (!okC e) = !okC e
set_option maxRecDepth 100000 in
theorem cvf1_P : cvf1_T okC iL inLo inHi inD inE := by
  unfold cvf1_T
  intro e f m a s h
  exact ⟨trivial, rfl⟩
def cvf1_S (okC : Int → Bool) (iL : Int → ByteArray) (inLo : Int → Int) (inHi : Int → Int) (inD : Int → Int) (inE : Int → Int) : Prop := ∀ (e f m a s : Int), fnK Tryd.prog { glob := glb, spec := lk [(63, (cexists_s okC iL inLo inHi inD inE))], specH := lk [], nowf := true } { nt := 7, drop := drp [(1, 120)] } (fun _ _ => none) 6 Tryd.f62 [.agg [.int .i64 e, .int .i64 f, .int .i64 m, .int .i64 a, .int .i64 s]] (.bool (!okC e))
set_option maxRecDepth 100000 in
theorem cvf1_e (okC : Int → Bool) (iL : Int → ByteArray) (inLo : Int → Int) (inHi : Int → Int) (inD : Int → Int) (inE : Int → Int) : cvf1_T okC iL inLo inHi inD inE = cvf1_S okC iL inLo inHi inD inE := by kernel_rfl
theorem cvf1_v : cvf1_S okC iL inLo inHi inD inE := @Eq.mp (cvf1_T okC iL inLo inHi inD inE) (cvf1_S okC iL inLo inHi inD inE) (cvf1_e okC iL inLo inHi inD inE) cvf1_P
theorem cvf1_ok : SOK Tryd.prog glb 62 (cvf1_s okC) := by
  refine ⟨fok Tryd.func62 (by kernel_rfl) (by kernel_rfl), ?_⟩
  intro xs pre r h hp
  unfold cvf1_s at h
  split at h
  · simp only [Option.some.injEq, Prod.mk.injEq] at h
    obtain ⟨h1, h2⟩ := h
    subst h1 h2
    exact fnK_sound tyNil (by exact specOK rfl rfl ⟨(cexists_ok), trivial⟩ trivial) (by kernel_rfl) Tryd.func62 rfl (cvf1_v  _ _ _ _ _)
  · cases h
def cvalidN_s : Sp
  | [.agg [.int .i64 e, .int .i64 f, .int .i64 m, .int .i64 a, .int .i64 s]] => some (True, .bool (rgB f m a s))
  | _ => none
set_option maxRecDepth 100000 in
def cvalidN_T : Prop :=
  ∀ (gl : Glob) (e f m a s : Int), ((-9223372036854775808 : Int) ≤ e ∧ e ≤ (9223372036854775807 : Int)) ∧ ((-9223372036854775808 : Int) ≤ f ∧ f ≤ (9223372036854775807 : Int)) ∧
  ((-9223372036854775808 : Int) ≤ m ∧ m ≤ (9223372036854775807 : Int)) ∧ ((-9223372036854775808 : Int) ≤ a ∧ a ≤ (9223372036854775807 : Int)) ∧ ((-9223372036854775808 : Int) ≤ s ∧ s
  ≤ (9223372036854775807 : Int)) ∧ True → bif decide ((0 : Int) ≤ f) then bif decide (f < (20 : Int)) then bif decide ((1 : Int) ≤ m) then bif decide (m ≤ (12 : Int)) then bif decide
  ((-10000 : Int) ≤ a) then bif decide (a ≤ (20000 : Int)) then bif decide ((0 : Int) ≤ s) then decide (s ≤ (20000 : Int)) = rgB f m a s else false = rgB f m a s else false = rgB f m
  a s else false = rgB f m a s else false = rgB f m a s else false = rgB f m a s else false = rgB f m a s else false = rgB f m a s
set_option maxRecDepth 100000 in
theorem cvalidN_P : cvalidN_T := by
  unfold cvalidN_T
  intro gl e f m a s h
  unfold rgB
  repeat (first
    | refine cs (fun _ => ?_) (fun k => (decide_eq_false (fun q => k (by omega))).symm)
    | exact decide_eq_decide.2 ⟨fun _ => by omega, fun q => by omega⟩)
def cvalidN_S : Prop := ∀ (gl : Glob) (e f m a s : Int), fnK Tryd.prog { glob := gl, spec := lk [], specH := lk [], nowf := true } { nt := 41, drop := drp [(1, 2199023255544)] } (fun _ _ => none) 6 Tryd.f65 [.agg [.int .i64 e, .int .i64 f, .int .i64 m, .int .i64 a, .int .i64 s]] (.bool (rgB f m a s))
set_option maxRecDepth 100000 in
theorem cvalidN_e : cvalidN_T = cvalidN_S := by kernel_rfl
theorem cvalidN_v : cvalidN_S := @Eq.mp (cvalidN_T) (cvalidN_S) (cvalidN_e) cvalidN_P
theorem cvalidN_ok (gl : Glob) : SOK Tryd.prog gl 65 cvalidN_s := by
  refine ⟨fok Tryd.func65 (by kernel_rfl) (by kernel_rfl), ?_⟩
  intro xs pre r h hp
  unfold cvalidN_s at h
  split at h
  · simp only [Option.some.injEq, Prod.mk.injEq] at h
    obtain ⟨h1, h2⟩ := h
    subst h1 h2
    exact fnK_sound tyNil (by exact specOK rfl rfl trivial trivial) (by kernel_rfl) Tryd.func65 rfl (cvalidN_v gl _ _ _ _ _)
  · cases h
def cvf2_s (rgB : Int → Int → Int → Int → Bool) : Sp
  | [.agg [.int .i64 e, .int .i64 f, .int .i64 m, .int .i64 a, .int .i64 s]] => some (True, .bool (!rgB f m a s))
  | _ => none
set_option maxRecDepth 100000 in
def cvf2_T (rgB : Int → Int → Int → Int → Bool) : Prop :=
  ∀ (gl : Glob) (e f m a s : Int), ((-9223372036854775808 : Int) ≤ e ∧ e ≤ (9223372036854775807 : Int)) ∧ ((-9223372036854775808 : Int) ≤ f ∧ f ≤ (9223372036854775807 : Int)) ∧
  ((-9223372036854775808 : Int) ≤ m ∧ m ≤ (9223372036854775807 : Int)) ∧ ((-9223372036854775808 : Int) ≤ a ∧ a ≤ (9223372036854775807 : Int)) ∧ ((-9223372036854775808 : Int) ≤ s ∧ s
  ≤ (9223372036854775807 : Int)) ∧ True → True ∧ (!YtceknalhogbbnaaDoor.rgB f m a s) = !rgB f m a s
set_option maxRecDepth 100000 in
theorem cvf2_P : cvf2_T rgB := by
  unfold cvf2_T
  intro gl e f m a s h
  exact ⟨trivial, rfl⟩
def cvf2_S (rgB : Int → Int → Int → Int → Bool) : Prop := ∀ (gl : Glob) (e f m a s : Int), fnK Tryd.prog { glob := gl, spec := lk [(65, cvalidN_s)], specH := lk [], nowf := true } { nt := 6, drop := drp [(1, 56)] } (fun _ _ => none) 6 Tryd.f64 [.agg [.int .i64 e, .int .i64 f, .int .i64 m, .int .i64 a, .int .i64 s]] (.bool (!rgB f m a s))
set_option maxRecDepth 100000 in
theorem cvf2_e (rgB : Int → Int → Int → Int → Bool) : cvf2_T rgB = cvf2_S rgB := by kernel_rfl
theorem cvf2_v : cvf2_S rgB := @Eq.mp (cvf2_T rgB) (cvf2_S rgB) (cvf2_e rgB) cvf2_P
theorem cvf2_ok (gl : Glob) : SOK Tryd.prog gl 64 (cvf2_s rgB) := by
  refine ⟨fok Tryd.func64 (by kernel_rfl) (by kernel_rfl), ?_⟩
  intro xs pre r h hp
  unfold cvf2_s at h
  split at h
  · simp only [Option.some.injEq, Prod.mk.injEq] at h
    obtain ⟨h1, h2⟩ := h
    subst h1 h2
    exact fnK_sound tyNil (by exact specOK rfl rfl ⟨(cvalidN_ok gl), trivial⟩ trivial) (by kernel_rfl) Tryd.func64 rfl (cvf2_v gl _ _ _ _ _)
  · cases h
def cmpN_s (cmpI : Int → Int → Int) (orL : List (List AV) → Int) (cmp3 : Int → Int → Int → Int → Int → Int → Int) : Sp
  | [.agg [.int .i64 e, .int .i64 f, .int .i64 m, .int .i64 a, .int .i64 s], .agg [.int .i64 e', .int .i64 f', .int .i64 m', .int .i64 a', .int .i64 s']] => some (True, .int .i64 (cmp3 e f m e' f' m'))
  | _ => none
set_option maxRecDepth 100000 in
def cmpN_T (cmpI : Int → Int → Int) (orL : List (List AV) → Int) (cmp3 : Int → Int → Int → Int → Int → Int → Int) : Prop :=
  ∀ (gl : Glob) (e f m a s e' f' m' a' s' : Int), ((-9223372036854775808 : Int) ≤ e ∧ e ≤ (9223372036854775807 : Int)) ∧ ((-9223372036854775808 : Int) ≤ f ∧ f ≤ (9223372036854775807
  : Int)) ∧ ((-9223372036854775808 : Int) ≤ m ∧ m ≤ (9223372036854775807 : Int)) ∧ ((-9223372036854775808 : Int) ≤ a ∧ a ≤ (9223372036854775807 : Int)) ∧ ((-9223372036854775808 :
  Int) ≤ s ∧ s ≤ (9223372036854775807 : Int)) ∧ True → ((-9223372036854775808 : Int) ≤ e' ∧ e' ≤ (9223372036854775807 : Int)) ∧ ((-9223372036854775808 : Int) ≤ f' ∧ f' ≤
  (9223372036854775807 : Int)) ∧ ((-9223372036854775808 : Int) ≤ m' ∧ m' ≤ (9223372036854775807 : Int)) ∧ ((-9223372036854775808 : Int) ≤ a' ∧ a' ≤ (9223372036854775807 : Int)) ∧
  ((-9223372036854775808 : Int) ≤ s' ∧ s' ≤ (9223372036854775807 : Int)) ∧ True → True ∧ True ∧ True ∧ OrI [[AV.int IntKind.i64 (cmpI e e')], [AV.int IntKind.i64 (cmpI f f')],
  [AV.int IntKind.i64 (cmpI m m')]] (3 : Nat) ∧ orL [[AV.int IntKind.i64 (cmpI e e')], [AV.int IntKind.i64 (cmpI f f')], [AV.int IntKind.i64 (cmpI m m')]] = cmp3 e f m e' f' m'
set_option maxRecDepth 100000 in
theorem cmpN_P : cmpN_T cmpI orL cmp3 := by
  unfold cmpN_T
  intro gl e f m a s e' f' m' a' s' h h'
  exact ⟨trivial, trivial, trivial, orI_ok [cmpI e e', cmpI f f', cmpI m m'] (by simp), or3 _ _ _⟩
def cmpN_S (cmpI : Int → Int → Int) (orL : List (List AV) → Int) (cmp3 : Int → Int → Int → Int → Int → Int → Int) : Prop := ∀ (gl : Glob) (e f m a s e' f' m' a' s' : Int), fnK Tryd.prog { glob := gl, spec := lk [(77, (fcmpI_s cmpI))], specH := lk [(76, (for__s orL))], nowf := true } { nt := 22, drop := drp [(1, 4194272)] } (fun _ _ => none) 6 Tryd.f56 [.agg [.int .i64 e, .int .i64 f, .int .i64 m, .int .i64 a, .int .i64 s], .agg [.int .i64 e', .int .i64 f', .int .i64 m', .int .i64 a', .int .i64 s']] (.int .i64 (cmp3 e f m e' f' m'))
set_option maxRecDepth 100000 in
theorem cmpN_e (cmpI : Int → Int → Int) (orL : List (List AV) → Int) (cmp3 : Int → Int → Int → Int → Int → Int → Int) : cmpN_T cmpI orL cmp3 = cmpN_S cmpI orL cmp3 := by kernel_rfl
theorem cmpN_v : cmpN_S cmpI orL cmp3 := @Eq.mp (cmpN_T cmpI orL cmp3) (cmpN_S cmpI orL cmp3) (cmpN_e cmpI orL cmp3) cmpN_P
theorem cmpN_ok (gl : Glob) : SOK Tryd.prog gl 56 (cmpN_s cmpI orL cmp3) := by
  refine ⟨fok Tryd.func56 (by kernel_rfl) (by kernel_rfl), ?_⟩
  intro xs pre r h hp
  unfold cmpN_s at h
  split at h
  · simp only [Option.some.injEq, Prod.mk.injEq] at h
    obtain ⟨h1, h2⟩ := h
    subst h1 h2
    exact fnK_sound tyNil (by exact specOK rfl rfl ⟨(fcmpI_ok gl), trivial⟩ ⟨(for__ok gl), trivial⟩) (by kernel_rfl) Tryd.func56 rfl (cmpN_v gl _ _ _ _ _ _ _ _ _ _)
  · cases h
def ccf1X_s : Sp
  | [.sl 5 f xs, .fn 62 []] => some (NrsP xs, .int .i64 (idxP kdP xs))
  | _ => none
set_option maxRecDepth 100000 in
def ccf1X_T : Prop :=
  ∀ (f : Bool) (xs : List (List AV)), NrsP xs → True → True → (∃ x, IdxI kdP xs x ∧ (((bif f then f = true else True) ∧ xs = xs) ∧ True ∧ (↑xs.length : Int) = (↑xs.length : Int) ∧ (0
  : Int) = x ∧ True) ∧ True) ∧ ∀ (x : Int), IdxI kdP xs x → bif decide (x < (↑xs.length : Int)) then bif decide ((0 : Int) ≤ x ∧ x < (↑xs.length : Int)) then ∃ n n_1 n_2 n_3 n_4,
  List.take [AV.int IntKind.i64 n, AV.int IntKind.i64 n_1, AV.int IntKind.i64 n_2, AV.int IntKind.i64 n_3, AV.int IntKind.i64 n_4].length (xs.getD x.toNat []) = [AV.int IntKind.i64
  n, AV.int IntKind.i64 n_1, AV.int IntKind.i64 n_2, AV.int IntKind.i64 n_3, AV.int IntKind.i64 n_4] ∧ True ∧ bif !okC n then x = idxP kdP xs else bif decide (rng IntKind.i64 (x + (1
  : Int))) then ∃ y, IdxI kdP xs y ∧ (ixL (62 : Nat) (5 : Nat) kdP f xs [] []).m y < (ixL (62 : Nat) (5 : Nat) kdP f xs [] []).m x ∧ (((bif f then f = true else True) ∧ xs = xs) ∧
  True ∧ (↑xs.length : Int) = (↑xs.length : Int) ∧ x + (1 : Int) = y ∧ True) ∧ True else False else False else (-1 : Int) = idxP kdP xs
set_option maxRecDepth 100000 in
theorem ccf1X_P : ccf1X_T := by
  unfold ccf1X_T
  intro f xs hp
  intros
  have bf : cond f (f = true) True := by cases f <;> trivial
  have hs := hp.fs
  refine ⟨⟨0, ⟨by decide, by omega, fun j h => by omega⟩, ⟨⟨bf, rfl⟩, trivial, rfl, rfl, trivial⟩, trivial⟩, ?_⟩
  rintro i ⟨h0, h1, hn⟩
  have ei : ((i.toNat : Nat) : Int) = i := by omega
  refine cs (fun hl => ?_) (fun hl => ?_)
  · obtain ⟨e, f', m, a, s, he, hq⟩ := hp.fr i.toNat (by omega)
    refine cd1 ⟨h0, hl⟩ ⟨e, f', m, a, s, by rw [he]; rfl, trivial, csplit (fun q => ?_) (fun q => ?_)⟩
    · have := idx_some (p := kdP) (xs := xs) (i := i.toNat) (by omega) (by rw [he]; exact q) (fun j hj => hn j (by omega))
      exact ei.symm.trans this
    · refine cdI (by omega) ⟨i + 1, ⟨by omega, by omega, fun j hj => ?_⟩, by simp only [ixL]; omega, ⟨⟨bf, rfl⟩, trivial, rfl, rfl, trivial⟩, trivial⟩
      rcases Nat.lt_or_ge j i.toNat with k | k
      · exact hn j (by omega)
      · rw [show j = i.toNat by omega, he]; exact q
  · exact idx_none fun j hj => hn j (by omega)
def ccf1X_S : Prop := ∀ (f : Bool) (xs : List (List AV)), NrsP xs → fnK Tryd.prog { glob := glb, spec := lk [(62, (cvf1_s Go.Proofs.YtceknalhogbbnaaDoor.okC))], specH := lk [], shape := [15], nowf := true } { nt := 19, drop := drp [(1, 64), (3, 1024), (4, 63488), (5, 131072), (6, 262144)] } (invs [(2, ixL 62 5 kdP f xs [] [])]) 6 Tryd.f80 [.sl 5 f xs, .fn 62 []] (.int .i64 (idxP kdP xs))
set_option maxRecDepth 100000 in
theorem ccf1X_e : ccf1X_T = ccf1X_S := by kernel_rfl
theorem ccf1X_v : ccf1X_S := @Eq.mp (ccf1X_T) (ccf1X_S) (ccf1X_e) ccf1X_P
theorem ccf1X_ok : SOK Tryd.prog glb 80 ccf1X_s := by
  refine ⟨fok Tryd.func80 (by kernel_rfl) (by kernel_rfl), ?_⟩
  intro xs pre r h hp
  unfold ccf1X_s at h
  split at h
  · simp only [Option.some.injEq, Prod.mk.injEq] at h
    obtain ⟨h1, h2⟩ := h
    subst h1 h2
    exact fnK_sound tyNil (by exact specOK rfl rfl ⟨(cvf1_ok), trivial⟩ trivial) (by kernel_rfl) Tryd.func80 rfl (ccf1X_v  _ _ hp)
  · cases h
def ccf1_s : Sp
  | [.sl 5 f xs, .fn 62 []] => some (NrsP xs, .bool (xs.any kdP))
  | _ => none
set_option maxRecDepth 100000 in
def ccf1_T : Prop :=
  ∀ (f : Bool) (xs : List (List AV)), NrsP xs → True → True → NrsP xs ∧ decide ((0 : Int) ≤ idxP kdP xs) = xs.any kdP
set_option maxRecDepth 100000 in
theorem ccf1_P : ccf1_T := by
  unfold ccf1_T
  intro f xs hp
  intros
  exact ⟨hp, idx_ge⟩
def ccf1_S : Prop := ∀ (f : Bool) (xs : List (List AV)), NrsP xs → fnK Tryd.prog { glob := glb, spec := lk [(80, ccf1X_s)], specH := lk [], nowf := true } { nt := 9, drop := drp [(1, 480)] } (fun _ _ => none) 6 Tryd.f61 [.sl 5 f xs, .fn 62 []] (.bool (xs.any kdP))
set_option maxRecDepth 100000 in
theorem ccf1_e : ccf1_T = ccf1_S := by kernel_rfl
theorem ccf1_v : ccf1_S := @Eq.mp (ccf1_T) (ccf1_S) (ccf1_e) ccf1_P
theorem ccf1_ok : SOK Tryd.prog glb 61 ccf1_s := by
  refine ⟨fok Tryd.func61 (by kernel_rfl) (by kernel_rfl), ?_⟩
  intro xs pre r h hp
  unfold ccf1_s at h
  split at h
  · simp only [Option.some.injEq, Prod.mk.injEq] at h
    obtain ⟨h1, h2⟩ := h
    subst h1 h2
    exact fnK_sound tyNil (by exact specOK rfl rfl ⟨(ccf1X_ok), trivial⟩ trivial) (by kernel_rfl) Tryd.func61 rfl (ccf1_v  _ _ hp)
  · cases h
def ccf2X_s : Sp
  | [.sl 5 f xs, .fn 64 []] => some (NrsP xs, .int .i64 (idxP rgP xs))
  | _ => none
set_option maxRecDepth 100000 in
def ccf2X_T : Prop :=
  ∀ (gl : Glob) (f : Bool) (xs : List (List AV)), NrsP xs → True → True → (∃ x, IdxI rgP xs x ∧ (((bif f then f = true else True) ∧ xs = xs) ∧ True ∧ (↑xs.length : Int) = (↑xs.length
  : Int) ∧ (0 : Int) = x ∧ True) ∧ True) ∧ ∀ (x : Int), IdxI rgP xs x → bif decide (x < (↑xs.length : Int)) then bif decide ((0 : Int) ≤ x ∧ x < (↑xs.length : Int)) then ∃ n n_1 n_2
  n_3 n_4, List.take [AV.int IntKind.i64 n, AV.int IntKind.i64 n_1, AV.int IntKind.i64 n_2, AV.int IntKind.i64 n_3, AV.int IntKind.i64 n_4].length (xs.getD x.toNat []) = [AV.int
  IntKind.i64 n, AV.int IntKind.i64 n_1, AV.int IntKind.i64 n_2, AV.int IntKind.i64 n_3, AV.int IntKind.i64 n_4] ∧ True ∧ bif !rgB n_1 n_2 n_3 n_4 then x = idxP rgP xs else bif
  decide (rng IntKind.i64 (x + (1 : Int))) then ∃ y, IdxI rgP xs y ∧ (ixL (64 : Nat) (5 : Nat) rgP f xs [] []).m y < (ixL (64 : Nat) (5 : Nat) rgP f xs [] []).m x ∧ (((bif f then f =
  true else True) ∧ xs = xs) ∧ True ∧ (↑xs.length : Int) = (↑xs.length : Int) ∧ x + (1 : Int) = y ∧ True) ∧ True else False else False else (-1 : Int) = idxP rgP xs
set_option maxRecDepth 100000 in
theorem ccf2X_P : ccf2X_T := by
  unfold ccf2X_T
  intro gl f xs hp
  intros
  have bf : cond f (f = true) True := by cases f <;> trivial
  have hs := hp.fs
  refine ⟨⟨0, ⟨by decide, by omega, fun j h => by omega⟩, ⟨⟨bf, rfl⟩, trivial, rfl, rfl, trivial⟩, trivial⟩, ?_⟩
  rintro i ⟨h0, h1, hn⟩
  have ei : ((i.toNat : Nat) : Int) = i := by omega
  refine cs (fun hl => ?_) (fun hl => ?_)
  · obtain ⟨e, f', m, a, s, he, hq⟩ := hp.fr i.toNat (by omega)
    refine cd1 ⟨h0, hl⟩ ⟨e, f', m, a, s, by rw [he]; rfl, trivial, csplit (fun q => ?_) (fun q => ?_)⟩
    · have := idx_some (p := rgP) (xs := xs) (i := i.toNat) (by omega) (by rw [he]; exact q) (fun j hj => hn j (by omega))
      exact ei.symm.trans this
    · refine cdI (by omega) ⟨i + 1, ⟨by omega, by omega, fun j hj => ?_⟩, by simp only [ixL]; omega, ⟨⟨bf, rfl⟩, trivial, rfl, rfl, trivial⟩, trivial⟩
      rcases Nat.lt_or_ge j i.toNat with k | k
      · exact hn j (by omega)
      · rw [show j = i.toNat by omega, he]; exact q
  · exact idx_none fun j hj => hn j (by omega)
def ccf2X_S : Prop := ∀ (gl : Glob) (f : Bool) (xs : List (List AV)), NrsP xs → fnK Tryd.prog { glob := gl, spec := lk [(64, (cvf2_s Go.Proofs.YtceknalhogbbnaaDoor.rgB))], specH := lk [], shape := [15], nowf := true } { nt := 19, drop := drp [(1, 64), (3, 1024), (4, 63488), (5, 131072), (6, 262144)] } (invs [(2, ixL 64 5 rgP f xs [] [])]) 6 Tryd.f80 [.sl 5 f xs, .fn 64 []] (.int .i64 (idxP rgP xs))
set_option maxRecDepth 100000 in
theorem ccf2X_e : ccf2X_T = ccf2X_S := by kernel_rfl
theorem ccf2X_v : ccf2X_S := @Eq.mp (ccf2X_T) (ccf2X_S) (ccf2X_e) ccf2X_P
theorem ccf2X_ok (gl : Glob) : SOK Tryd.prog gl 80 ccf2X_s := by
  refine ⟨fok Tryd.func80 (by kernel_rfl) (by kernel_rfl), ?_⟩
  intro xs pre r h hp
  unfold ccf2X_s at h
  split at h
  · simp only [Option.some.injEq, Prod.mk.injEq] at h
    obtain ⟨h1, h2⟩ := h
    subst h1 h2
    exact fnK_sound tyNil (by exact specOK rfl rfl ⟨(cvf2_ok gl), trivial⟩ trivial) (by kernel_rfl) Tryd.func80 rfl (ccf2X_v gl _ _ hp)
  · cases h
def ccf2_s : Sp
  | [.sl 5 f xs, .fn 64 []] => some (NrsP xs, .bool (xs.any rgP))
  | _ => none
set_option maxRecDepth 100000 in
def ccf2_T : Prop :=
  ∀ (gl : Glob) (f : Bool) (xs : List (List AV)), NrsP xs → True → True → NrsP xs ∧ decide ((0 : Int) ≤ idxP rgP xs) = xs.any rgP
set_option maxRecDepth 100000 in
theorem ccf2_P : ccf2_T := by
  unfold ccf2_T
  intro gl f xs hp
  intros
  exact ⟨hp, idx_ge⟩
def ccf2_S : Prop := ∀ (gl : Glob) (f : Bool) (xs : List (List AV)), NrsP xs → fnK Tryd.prog { glob := gl, spec := lk [(80, ccf2X_s)], specH := lk [], nowf := true } { nt := 9, drop := drp [(1, 480)] } (fun _ _ => none) 6 Tryd.f61 [.sl 5 f xs, .fn 64 []] (.bool (xs.any rgP))
set_option maxRecDepth 100000 in
theorem ccf2_e : ccf2_T = ccf2_S := by kernel_rfl
theorem ccf2_v : ccf2_S := @Eq.mp (ccf2_T) (ccf2_S) (ccf2_e) ccf2_P
theorem ccf2_ok (gl : Glob) : SOK Tryd.prog gl 61 ccf2_s := by
  refine ⟨fok Tryd.func61 (by kernel_rfl) (by kernel_rfl), ?_⟩
  intro xs pre r h hp
  unfold ccf2_s at h
  split at h
  · simp only [Option.some.injEq, Prod.mk.injEq] at h
    obtain ⟨h1, h2⟩ := h
    subst h1 h2
    exact fnK_sound tyNil (by exact specOK rfl rfl ⟨(ccf2X_ok gl), trivial⟩ trivial) (by kernel_rfl) Tryd.func61 rfl (ccf2_v gl _ _ hp)
  · cases h
structure CvI (xs : List (List AV)) (i : Int) : Prop where
  flo : 1 ≤ i
  fhi : i ≤ xs.length ∨ i = 1
  fasc : ∀ j : Nat, (j : Int) < i → j < xs.length → j = 0 ∨ cmpR (xs.getD (j - 1) []) (xs.getD j []) < 0
def cvL (f : Bool) (xs : List (List AV)) : LInv := ⟨Int, fun i => ⟨[(1, .ptr 1 0), (3, .int .i64 i)], [(1, .cells [.sl 5 f xs])]⟩, CvI xs, fun i => (xs.length + 1 - i).toNat, none⟩
def cValid_s (kdP : List AV → Bool) (rgP : List AV → Bool) (cmp3 : Int → Int → Int → Int → Int → Int → Int) : Sp
  | [.agg [.sl 5 f xs]] => some (NrsP xs, .int .i64 (cvE xs))
  | _ => none
set_option maxRecDepth 100000 in
def cValid_T (kdP : List AV → Bool) (rgP : List AV → Bool) (cmp3 : Int → Int → Int → Int → Int → Int → Int) (cmpI : Int → Int → Int) (orL : List (List AV) → Int) : Prop :=
  ∀ (f : Bool) (xs : List (List AV)), NrsP xs → True ∧ True → bif decide ((200 : Int) < (↑xs.length : Int)) then (2 : Int) = cvE xs else NrsP xs ∧ bif xs.any YtceknalhogbbnaaDoor.kdP
  then (4 : Int) = cvE xs else NrsP xs ∧ bif xs.any YtceknalhogbbnaaDoor.rgP then (1 : Int) = cvE xs else (∃ x, CvI xs x ∧ ((0 : Nat) = (0 : Nat) ∧ (1 : Int) = x ∧ True) ∧ (((bif f
  then f = true else True) ∧ xs = xs) ∧ True) ∧ True) ∧ ∀ (x : Int), CvI xs x → bif decide (x < (↑xs.length : Int)) then bif decide (rng IntKind.i64 (x - (1 : Int))) then bif decide
  ((0 : Int) ≤ x - (1 : Int) ∧ x - (1 : Int) < (↑xs.length : Int)) then ∃ n n_1 n_2 n_3 n_4, List.take [AV.int IntKind.i64 n, AV.int IntKind.i64 n_1, AV.int IntKind.i64 n_2, AV.int
  IntKind.i64 n_3, AV.int IntKind.i64 n_4].length (xs.getD (x - (1 : Int)).toNat []) = [AV.int IntKind.i64 n, AV.int IntKind.i64 n_1, AV.int IntKind.i64 n_2, AV.int IntKind.i64 n_3,
  AV.int IntKind.i64 n_4] ∧ bif decide ((0 : Int) ≤ x ∧ x < (↑xs.length : Int)) then ∃ n_5 n_6 n_7 n_8 n_9, List.take [AV.int IntKind.i64 n_5, AV.int IntKind.i64 n_6, AV.int
  IntKind.i64 n_7, AV.int IntKind.i64 n_8, AV.int IntKind.i64 n_9].length (xs.getD x.toNat []) = [AV.int IntKind.i64 n_5, AV.int IntKind.i64 n_6, AV.int IntKind.i64 n_7, AV.int
  IntKind.i64 n_8, AV.int IntKind.i64 n_9] ∧ True ∧ bif decide ((0 : Int) ≤ cmp3 n n_1 n_2 n_5 n_6 n_7) then (8 : Int) = cvE xs else bif decide (rng IntKind.i64 (x + (1 : Int))) then
  ∃ y, CvI xs y ∧ (cvL f xs).m y < (cvL f xs).m x ∧ ((0 : Nat) = (0 : Nat) ∧ x + (1 : Int) = y ∧ True) ∧ (((bif f then f = true else True) ∧ xs = xs) ∧ True) ∧ True else False else
  False else False else False else (0 : Int) = cvE xs
set_option maxRecDepth 100000 in
theorem cValid_P : cValid_T kdP rgP cmp3 cmpI orL := by
  unfold cValid_T
  intro f xs hp _
  have bf : cond f (f = true) True := by cases f <;> trivial
  refine cs (fun h => ?_) (fun h => ⟨hp, csplit (fun h4 => ?_) (fun h4 => ⟨hp, csplit (fun h1 => ?_) (fun h1 => ?_)⟩)⟩)
  · unfold cvE; rw [if_pos (by omega)]
  · unfold cvE; rw [if_neg (by omega), h4]; rfl
  · unfold cvE; rw [if_neg (by omega), h4, h1]; rfl
  have hv : cvE xs = if ordN xs then 0 else 8 := by unfold cvE; rw [if_neg (by omega), h4, h1]; rfl
  rw [hv]
  refine ⟨⟨1, ⟨by decide, .inr rfl, fun j hj _ => .inl (by omega)⟩, ⟨rfl, rfl, trivial⟩, ⟨⟨bf, rfl⟩, trivial⟩, trivial⟩, ?_⟩
  rintro i ⟨h0, h2, hn⟩
  refine cs (fun hl => ?_) (fun hl => ?_)
  · obtain ⟨e, f1, m, a, s, he, _⟩ := hp.fr (i - 1).toNat (by omega)
    obtain ⟨e', f2, m', a', s', he', _⟩ := hp.fr i.toNat (by omega)
    have hi : i.toNat - 1 = (i - 1).toNat := by omega
    have q1 : cmpR (xs.getD (i.toNat - 1) []) (xs.getD i.toNat []) = cmp3 e f1 m e' f2 m' := by rw [hi, he, he']; rfl
    refine cdI (by omega) (cd1 (by omega) ⟨e, f1, m, a, s, by rw [he]; rfl, cd1 (by omega) ⟨e', f2, m', a', s', by rw [he']; rfl, trivial, cs (fun q => ?_) (fun q => ?_)⟩⟩)
    · have : ordN xs = false := by
        refine decide_eq_false fun h => ?_
        rcases h i.toNat (by omega) with k | k
        · omega
        · rw [q1] at k; omega
      rw [this]; rfl
    · refine cdI (by omega) ⟨i + 1, ⟨by omega, .inl (by omega), fun j hj hlj => ?_⟩, by simp only [cvL]; omega, ⟨rfl, rfl, trivial⟩, ⟨⟨bf, rfl⟩, trivial⟩, trivial⟩
      rcases Nat.lt_or_ge j i.toNat with k | k
      · exact hn j (by omega) hlj
      · rw [show j = i.toNat by omega, q1]; exact .inr (by omega)
  · have : ordN xs = true := decide_eq_true fun j hj => hn j (by omega) hj
    rw [this]; rfl
def cValid_S (kdP : List AV → Bool) (rgP : List AV → Bool) (cmp3 : Int → Int → Int → Int → Int → Int → Int) (cmpI : Int → Int → Int) (orL : List (List AV) → Int) : Prop := ∀ (f : Bool) (xs : List (List AV)), NrsP xs → fnK Tryd.prog { glob := glb, spec := lk [(61, (orSp ccf1_s ccf2_s)), (56, (cmpN_s cmpI orL cmp3))], specH := lk [], shape := [29, 34], nowf := true } { nt := 37, drop := drp [(1, 480), (3, 7168), (5, 114688), (8, 1966080), (9, 12582912), (10, 68702699520)] } (invs [(8, cvL f xs)]) 6 Tryd.f50 [.agg [.sl 5 f xs]] (.int .i64 (cvE xs))
set_option maxRecDepth 100000 in
theorem cValid_e (kdP : List AV → Bool) (rgP : List AV → Bool) (cmp3 : Int → Int → Int → Int → Int → Int → Int) (cmpI : Int → Int → Int) (orL : List (List AV) → Int) : cValid_T kdP rgP cmp3 cmpI orL = cValid_S kdP rgP cmp3 cmpI orL := by kernel_rfl
theorem cValid_v : cValid_S kdP rgP cmp3 cmpI orL := @Eq.mp (cValid_T kdP rgP cmp3 cmpI orL) (cValid_S kdP rgP cmp3 cmpI orL) (cValid_e kdP rgP cmp3 cmpI orL) cValid_P
theorem cValid_ok : SOK Tryd.prog glb 50 (cValid_s kdP rgP cmp3) := by
  refine ⟨fok Tryd.func50 (by kernel_rfl) (by kernel_rfl), ?_⟩
  intro xs pre r h hp
  unfold cValid_s at h
  split at h
  · simp only [Option.some.injEq, Prod.mk.injEq] at h
    obtain ⟨h1, h2⟩ := h
    subst h1 h2
    exact fnK_sound tyNil (by exact specOK rfl rfl ⟨(SOK.or (ccf1_ok) (ccf2_ok glb)), (cmpN_ok glb), trivial⟩ trivial) (by kernel_rfl) Tryd.func50 rfl (cValid_v  _ _ hp)
  · cases h
theorem cmp3_neg (e f m e' f' m' : Int) : cmp3 e f m e' f' m' < 0 ↔ e < e' ∨ (e = e' ∧ (f < f' ∨ (f = f' ∧ m < m'))) := by
  have a1 := cmp_neg e e'
  have a2 := cmp_zero e e'
  have b1 := cmp_neg f f'
  have b2 := cmp_zero f f'
  have c1 := cmp_neg m m'
  unfold cmp3 orI
  split <;> (try split) <;> omega
theorem cmp3_zero (e f m e' f' m' : Int) : cmp3 e f m e' f' m' = 0 ↔ e = e' ∧ f = f' ∧ m = m' := by
  have a2 := cmp_zero e e'
  have b2 := cmp_zero f f'
  have c2 := cmp_zero m m'
  unfold cmp3 orI
  split <;> (try split) <;> omega
theorem gD2 {xs : List (List AV)} {k : Nat} (h : k < xs.length) : xs.getD k [] = xs[k] := by rw [List.getD_eq_getElem?_getD, List.getElem?_eq_getElem h]; rfl
/-- The first element that is not less than r. -/
def lbN (r : List AV) (xs : List (List AV)) : Nat := xs.findIdx fun x => !decide (cmpR x r < 0)
def fdN (r : List AV) (xs : List (List AV)) : Bool := decide (lbN r xs < xs.length ∧ cmpR (xs.getD (lbN r xs) []) r = 0)
structure BsP (xs : List (List AV)) (r : List AV) : Prop where
  fn : NrsP xs
  fb : xs.length ≤ 1000000
  fm : ∀ i j : Nat, i ≤ j → j < xs.length → cmpR (xs.getD j []) r < 0 → cmpR (xs.getD i []) r < 0
structure BsI (xs : List (List AV)) (r : List AV) (x : Int × Int) : Prop where
  fi : 0 ≤ x.1
  fj : x.1 ≤ x.2
  fn : x.2 ≤ xs.length
  fl : ∀ k : Nat, (k : Int) < x.1 → cmpR (xs.getD k []) r < 0
  fg : ∀ k : Nat, x.2 ≤ k → k < xs.length → ¬ cmpR (xs.getD k []) r < 0
def bsL (f : Bool) (xs : List (List AV)) (e g m a s : Int) : LInv := ⟨Int × Int, fun x => ⟨[(0, .sl 5 f xs), (2, .fn 56 []), (4, .ptr 4 0), (6, .int .i64 0), (7, .bool false), (8, .int .i64 xs.length), (9, .int .i64 x.1), (10, .int .i64 x.2)], [(4, .cells [.int .i64 e, .int .i64 g, .int .i64 m, .int .i64 a, .int .i64 s])]⟩, BsI xs [.int .i64 e, .int .i64 g, .int .i64 m], fun x => (x.2 - x.1).toNat, none⟩
def cbs_s (cmp3 : Int → Int → Int → Int → Int → Int → Int) (lbN : List AV → List (List AV) → Nat) (fdN : List AV → List (List AV) → Bool) : Sp
  | [.sl 5 f xs, .agg [.int .i64 e, .int .i64 g, .int .i64 m, .int .i64 a, .int .i64 s], .fn 56 []] => some (BsP xs [.int .i64 e, .int .i64 g, .int .i64 m], .tup [.int .i64 (lbN [.int .i64 e, .int .i64 g, .int .i64 m] xs), .bool (fdN [.int .i64 e, .int .i64 g, .int .i64 m] xs)])
  | _ => none
set_option maxRecDepth 100000 in
def cbs_T (cmp3 : Int → Int → Int → Int → Int → Int → Int) (lbN : List AV → List (List AV) → Nat) (fdN : List AV → List (List AV) → Bool) : Prop :=
  ∀ (gl : Glob) (f : Bool) (xs : List (List AV)) (e g m a s : Int), BsP xs [AV.int IntKind.i64 e, AV.int IntKind.i64 g, AV.int IntKind.i64 m] → True → ((-9223372036854775808 : Int) ≤
  e ∧ e ≤ (9223372036854775807 : Int)) ∧ ((-9223372036854775808 : Int) ≤ g ∧ g ≤ (9223372036854775807 : Int)) ∧ ((-9223372036854775808 : Int) ≤ m ∧ m ≤ (9223372036854775807 : Int)) ∧
  ((-9223372036854775808 : Int) ≤ a ∧ a ≤ (9223372036854775807 : Int)) ∧ ((-9223372036854775808 : Int) ≤ s ∧ s ≤ (9223372036854775807 : Int)) ∧ True → True → (∃ x, BsI xs [AV.int
  IntKind.i64 e, AV.int IntKind.i64 g, AV.int IntKind.i64 m] x ∧ (((bif f then f = true else True) ∧ xs = xs) ∧ True ∧ (0 : Nat) = (0 : Nat) ∧ (0 : Int) = (0 : Int) ∧ false = false ∧
  (↑xs.length : Int) = (↑xs.length : Int) ∧ (0 : Int) = x.fst ∧ (↑xs.length : Int) = x.snd ∧ True) ∧ (e = e ∧ g = g ∧ m = m ∧ a = a ∧ s = s ∧ True) ∧ True) ∧ ∀ (x : Int × Int), BsI
  xs [AV.int IntKind.i64 e, AV.int IntKind.i64 g, AV.int IntKind.i64 m] x → bif decide (x.fst < x.snd) then bif decide (rng IntKind.i64 (x.fst + x.snd)) then bif decide ((0 : Int) ≤
  IntKind.i64.wrap (IntKind.u64.wrap (x.fst + x.snd) / (2 : Int)) ∧ IntKind.i64.wrap (IntKind.u64.wrap (x.fst + x.snd) / (2 : Int)) < (↑xs.length : Int)) then ∃ n n_1 n_2 n_3 n_4,
  List.take [AV.int IntKind.i64 n, AV.int IntKind.i64 n_1, AV.int IntKind.i64 n_2, AV.int IntKind.i64 n_3, AV.int IntKind.i64 n_4].length (xs.getD (IntKind.i64.wrap (IntKind.u64.wrap
  (x.fst + x.snd) / (2 : Int))).toNat []) = [AV.int IntKind.i64 n, AV.int IntKind.i64 n_1, AV.int IntKind.i64 n_2, AV.int IntKind.i64 n_3, AV.int IntKind.i64 n_4] ∧ True ∧ bif decide
  (YtceknalhogbbnaaDoor.cmp3 n n_1 n_2 e g m < (0 : Int)) then bif decide (rng IntKind.i64 (IntKind.i64.wrap (IntKind.u64.wrap (x.fst + x.snd) / (2 : Int)) + (1 : Int))) then ∃ y,
  BsI xs [AV.int IntKind.i64 e, AV.int IntKind.i64 g, AV.int IntKind.i64 m] y ∧ (bsL f xs e g m a s).m y < (bsL f xs e g m a s).m x ∧ (((bif f then f = true else True) ∧ xs = xs) ∧
  True ∧ (0 : Nat) = (0 : Nat) ∧ (0 : Int) = (0 : Int) ∧ false = false ∧ (↑xs.length : Int) = (↑xs.length : Int) ∧ IntKind.i64.wrap (IntKind.u64.wrap (x.fst + x.snd) / (2 : Int)) +
  (1 : Int) = y.fst ∧ x.snd = y.snd ∧ True) ∧ (e = e ∧ g = g ∧ m = m ∧ a = a ∧ s = s ∧ True) ∧ True else False else ∃ y, BsI xs [AV.int IntKind.i64 e, AV.int IntKind.i64 g, AV.int
  IntKind.i64 m] y ∧ (bsL f xs e g m a s).m y < (bsL f xs e g m a s).m x ∧ (((bif f then f = true else True) ∧ xs = xs) ∧ True ∧ (0 : Nat) = (0 : Nat) ∧ (0 : Int) = (0 : Int) ∧ false
  = false ∧ (↑xs.length : Int) = (↑xs.length : Int) ∧ x.fst = y.fst ∧ IntKind.i64.wrap (IntKind.u64.wrap (x.fst + x.snd) / (2 : Int)) = y.snd ∧ True) ∧ (e = e ∧ g = g ∧ m = m ∧ a = a
  ∧ s = s ∧ True) ∧ True else False else False else bif decide (x.fst < (↑xs.length : Int)) then bif decide ((0 : Int) ≤ x.fst ∧ x.fst < (↑xs.length : Int)) then ∃ n n_1 n_2 n_3 n_4,
  List.take [AV.int IntKind.i64 n, AV.int IntKind.i64 n_1, AV.int IntKind.i64 n_2, AV.int IntKind.i64 n_3, AV.int IntKind.i64 n_4].length (xs.getD x.fst.toNat []) = [AV.int
  IntKind.i64 n, AV.int IntKind.i64 n_1, AV.int IntKind.i64 n_2, AV.int IntKind.i64 n_3, AV.int IntKind.i64 n_4] ∧ True ∧ x.fst = (↑(lbN [AV.int IntKind.i64 e, AV.int IntKind.i64 g,
  AV.int IntKind.i64 m] xs) : Int) ∧ decide (YtceknalhogbbnaaDoor.cmp3 n n_1 n_2 e g m = (0 : Int)) = fdN [AV.int IntKind.i64 e, AV.int IntKind.i64 g, AV.int IntKind.i64 m] xs ∧ True
  else False else x.fst = (↑(lbN [AV.int IntKind.i64 e, AV.int IntKind.i64 g, AV.int IntKind.i64 m] xs) : Int) ∧ false = fdN [AV.int IntKind.i64 e, AV.int IntKind.i64 g, AV.int
  IntKind.i64 m] xs ∧ True
set_option maxRecDepth 100000 in
theorem cbs_P : cbs_T cmp3 lbN fdN := by
  unfold cbs_T
  intro gl f xs e g m a s hp _ _ _
  have bf : cond f (f = true) True := by cases f <;> trivial
  have hb := hp.fb
  refine ⟨⟨(0, xs.length), ⟨by simp, by simp, by simp, fun k h => by simp only at h; omega, fun k h h' => by simp only at h; omega⟩, ⟨⟨bf, rfl⟩, trivial, rfl, rfl, rfl, rfl, rfl, rfl, trivial⟩, ⟨rfl, rfl, rfl, rfl, rfl, trivial⟩, trivial⟩, ?_⟩
  rintro ⟨i, j⟩ ⟨h0, h1, h2, hl, hg⟩
  simp only at h0 h1 h2 hl hg
  dsimp only
  refine cs (fun hij => ?_) (fun hij => ?_)
  · have w : IntKind.i64.wrap (IntKind.u64.wrap (i + j) / 2) = (i + j) / 2 := by
      rw [wrap_eq (k := .u64) (by show _ ∧ _; omega), wrap_eq (k := .i64) (by show _ ∧ _; omega)]
    rw [w]
    obtain ⟨e1, g1, m1, a1, s1, he, _⟩ := hp.fn.fr ((i + j) / 2).toNat (by omega)
    have q1 : cmpR (xs.getD ((i + j) / 2).toNat []) [.int .i64 e, .int .i64 g, .int .i64 m] = cmp3 e1 g1 m1 e g m := by rw [he]; rfl
    refine cdI (by omega) (cd1 (by omega) ⟨e1, g1, m1, a1, s1, by rw [he]; rfl, trivial, cs (fun q => ?_) (fun q => ?_)⟩)
    · refine cdI (by omega) ⟨((i + j) / 2 + 1, j), ⟨by simp only; omega, by simp only; omega, h2, fun k hk => ?_, hg⟩, by simp only [bsL]; omega, ⟨⟨bf, rfl⟩, trivial, rfl, rfl, rfl, rfl, rfl, rfl, trivial⟩, ⟨rfl, rfl, rfl, rfl, rfl, trivial⟩, trivial⟩
      simp only at hk
      exact hp.fm k ((i + j) / 2).toNat (by omega) (by omega) (by rw [q1]; exact q)
    · refine ⟨(i, (i + j) / 2), ⟨h0, by simp only; omega, by simp only; omega, hl, fun k hk hk' hc => ?_⟩, by simp only [bsL]; omega, ⟨⟨bf, rfl⟩, trivial, rfl, rfl, rfl, rfl, rfl, rfl, trivial⟩, ⟨rfl, rfl, rfl, rfl, rfl, trivial⟩, trivial⟩
      simp only at hk
      have := hp.fm ((i + j) / 2).toNat k (by omega) hk' hc
      rw [q1] at this
      exact q this
  · have e1 : i = j := by omega
    subst e1
    have hlb : (lbN [.int .i64 e, .int .i64 g, .int .i64 m] xs : Int) = i := by
      rcases Int.lt_or_le i xs.length with hi | hi
      · have : lbN [.int .i64 e, .int .i64 g, .int .i64 m] xs = i.toNat := by
          refine (List.findIdx_eq (by omega)).2 ⟨?_, fun k hk => ?_⟩
          · have := hg i.toNat (by omega) (by omega)
            rw [gD2 (by omega)] at this
            simp [this]
          · have := hl k (by omega)
            rw [gD2 (by omega)] at this
            simp [this]
        omega
      · have : lbN [.int .i64 e, .int .i64 g, .int .i64 m] xs = xs.length := by
          refine List.findIdx_eq_length.2 fun x hx => ?_
          obtain ⟨k, hk, rfl⟩ := List.mem_iff_getElem.1 hx
          have := hl k (by omega)
          rw [gD2 hk] at this
          simp [this]
        omega
    refine cs (fun hi => ?_) (fun hi => ⟨hlb.symm, ?_, trivial⟩)
    · obtain ⟨e1, g1, m1, a1, s1, he, _⟩ := hp.fn.fr i.toNat (by omega)
      refine cd1 (by omega) ⟨e1, g1, m1, a1, s1, by rw [he]; rfl, trivial, hlb.symm, ?_, trivial⟩
      unfold fdN
      rw [show lbN [.int .i64 e, .int .i64 g, .int .i64 m] xs = i.toNat by omega, he]
      exact decide_eq_decide.2 ⟨fun q => ⟨by omega, q⟩, fun q => q.2⟩
    · unfold fdN
      exact (decide_eq_false fun q => by omega).symm
def cbs_S (cmp3 : Int → Int → Int → Int → Int → Int → Int) (lbN : List AV → List (List AV) → Nat) (fdN : List AV → List (List AV) → Bool) : Prop := ∀ (gl : Glob) (f : Bool) (xs : List (List AV)) (e g m a s : Int), BsP xs [.int .i64 e, .int .i64 g, .int .i64 m] → fnK Tryd.prog { glob := gl, spec := lk [(56, (cmpN_s Go.Proofs.YtceknalhogbbnaaDoor.cmpI Go.Proofs.YtceknalhogbbnaaDoor.orL Go.Proofs.YtceknalhogbbnaaDoor.cmp3))], specH := lk [], shape := [28, 44], nowf := true } { nt := 49, drop := drp [(1, 12288), (2, 16384), (3, 98304), (4, 16515072), (5, 2130706432), (6, 12884901888), (7, 17179869184), (8, 562915593682944)] } (invs [(3, bsL f xs e g m a s)]) 6 Tryd.f55 [.sl 5 f xs, .agg [.int .i64 e, .int .i64 g, .int .i64 m, .int .i64 a, .int .i64 s], .fn 56 []] (.tup [.int .i64 (lbN [.int .i64 e, .int .i64 g, .int .i64 m] xs), .bool (fdN [.int .i64 e, .int .i64 g, .int .i64 m] xs)])
set_option maxRecDepth 100000 in
theorem cbs_e (cmp3 : Int → Int → Int → Int → Int → Int → Int) (lbN : List AV → List (List AV) → Nat) (fdN : List AV → List (List AV) → Bool) : cbs_T cmp3 lbN fdN = cbs_S cmp3 lbN fdN := by kernel_rfl
theorem cbs_v : cbs_S cmp3 lbN fdN := @Eq.mp (cbs_T cmp3 lbN fdN) (cbs_S cmp3 lbN fdN) (cbs_e cmp3 lbN fdN) cbs_P
theorem cbs_ok (gl : Glob) : SOK Tryd.prog gl 55 (cbs_s cmp3 lbN fdN) := by
  refine ⟨fok Tryd.func55 (by kernel_rfl) (by kernel_rfl), ?_⟩
  intro xs pre r h hp
  unfold cbs_s at h
  split at h
  · simp only [Option.some.injEq, Prod.mk.injEq] at h
    obtain ⟨h1, h2⟩ := h
    subst h1 h2
    exact fnK_sound tyNil (by exact specOK rfl rfl ⟨(cmpN_ok gl), trivial⟩ trivial) (by kernel_rfl) Tryd.func55 rfl (cbs_v gl _ _ _ _ _ _ _ hp)
  · cases h
end Go.Proofs.YtceknalhogbbnaaDoor
