/- Tables: Validate. -/
import Derived.Test.YthdfkiopppkfcaaDoorTbB
namespace Go.Proofs.YthdfkiopppkfcaaDoor
open Go
set_option linter.unusedVariables false
set_option linter.unusedSimpArgs false

theorem csx {p : Prop} [Decidable p] {A B : Prop} (h : p → A) (k : ¬ p → B) : cond (decide p) A B := csplit (fun q => h (of_decide_eq_true q)) (fun q => k (of_decide_eq_false q))
def ixL (k s : Nat) (p : List AV → Bool) (f : Bool) (xs : List (List AV)) (caps : List AV) (hp : List (Nat × Blk)) : LInv := ⟨Int, fun i => ⟨[(0, .sl s f xs), (1, .fn k caps), (7, .int .i64 xs.length), (8, .int .i64 i)], hp⟩, IdxI p xs, fun i => (xs.length - i).toNat, none⟩
/-- The codes of a sequence. -/
def sqC (r : List AV) : List (List AV) := match r with
  | [_, .sl _ _ cs] => cs
  | _ => []
def enA (r : List AV) : Bool := match r with
  | [.int _ c, .int _ e, .int _ w, .int _ sc, .int _ l] => okC e && enV c w sc l
  | _ => false
def elA (r : List AV) : Bool := match r with
  | [_, .int _ e, _, _, _] => okC e
  | _ => false
def lgP (r : List AV) : Bool := decide (20 < ((sqC r).length : Int))
def neP (r : List AV) : Bool := !(elA r)
def ivP (r : List AV) : Bool := !(enA r)
def k0P (r : List AV) : Bool := decide (knd (cellI r) = 0)
def prB (c : Int) (cs : List (List AV)) : Bool := decide (knd c = 2) && !(cs.any k0P)
def ipP (r : List AV) : Bool := !(prB (hdI r) (sqC r))
def hcP (code : Int) (r : List AV) : Bool := decide (hdI r = code)
def tv1_s : Sp
  | [.agg [.int .i64 c, .sl 1 false cs]] => some (True, .bool (decide (20 < (cs.length : Int))))
  | _ => none
set_option maxRecDepth 100000 in
def tv1_T : Prop :=
  ∀ (gl : Glob) (c : Int) (cs : List (List AV)), ((-9223372036854775808 : Int) ≤ c ∧ c ≤ (9223372036854775807 : Int)) ∧ True ∧ True → decide ((20 : Int) < (↑cs.length : Int)) =
  decide ((20 : Int) < (↑cs.length : Int))
set_option maxRecDepth 100000 in
theorem tv1_P : tv1_T := by
  unfold tv1_T
  intro gl c cs h
  rfl
def tv1_S : Prop := ∀ (gl : Glob) (c : Int) (cs : List (List AV)), fnK Tryd.prog { glob := gl, spec := lk [], specH := lk [], nowf := true } { nt := 7, drop := drp [(1, 120)] } (fun _ _ => none) 6 Tryd.f42 [.agg [.int .i64 c, .sl 1 false cs]] (.bool (decide (20 < (cs.length : Int))))
set_option maxRecDepth 100000 in
theorem tv1_e : tv1_T = tv1_S := by kernel_rfl
theorem tv1_v : tv1_S := @Eq.mp (tv1_T) (tv1_S) (tv1_e) tv1_P
theorem tv1_ok (gl : Glob) : SOK Tryd.prog gl 42 tv1_s := by
  refine ⟨fok Tryd.func42 (by kernel_rfl) (by kernel_rfl), ?_⟩
  intro xs pre r h hp
  unfold tv1_s at h
  split at h
  · simp only [Option.some.injEq, Prod.mk.injEq] at h
    obtain ⟨h1, h2⟩ := h
    subst h1 h2
    exact fnK_sound tyNil (by exact specOK rfl rfl trivial trivial) (by kernel_rfl) Tryd.func42 rfl (tv1_v gl _ _)
  · cases h
def tv2_s (okC : Int → Bool) : Sp
  | [.agg [.int .i64 c, .int .i64 e, .int .i64 w, .int .i64 sc, .int .i64 l]] => some (True, .bool (!(okC e)))
  | _ => none
set_option maxRecDepth 100000 in
def tv2_T (okC : Int → Bool) : Prop :=
  ∀ (c e w sc l : Int), ((-9223372036854775808 : Int) ≤ c ∧ c ≤ (9223372036854775807 : Int)) ∧ ((-9223372036854775808 : Int) ≤ e ∧ e ≤ (9223372036854775807 : Int)) ∧
  ((-9223372036854775808 : Int) ≤ w ∧ w ≤ (9223372036854775807 : Int)) ∧ ((-9223372036854775808 : Int) ≤ sc ∧ sc ≤ (9223372036854775807 : Int)) ∧ ((-9223372036854775808 : Int) ≤ l ∧
  l ≤ (9223372036854775807 : Int)) ∧ True → True ∧ (!okC e) = !okC e
set_option maxRecDepth 100000 in
theorem tv2_P : tv2_T okC := by
  unfold tv2_T
  intro c e w sc l h
  exact ⟨trivial, rfl⟩
def tv2_S (okC : Int → Bool) : Prop := ∀ (c e w sc l : Int), fnK Tryd.prog { glob := glb, spec := lk [(45, (texists_s okC))], specH := lk [], nowf := true } { nt := 7, drop := drp [(1, 120)] } (fun _ _ => none) 6 Tryd.f44 [.agg [.int .i64 c, .int .i64 e, .int .i64 w, .int .i64 sc, .int .i64 l]] (.bool (!(okC e)))
set_option maxRecDepth 100000 in
theorem tv2_e (okC : Int → Bool) : tv2_T okC = tv2_S okC := by kernel_rfl
theorem tv2_v : tv2_S okC := @Eq.mp (tv2_T okC) (tv2_S okC) (tv2_e okC) tv2_P
theorem tv2_ok : SOK Tryd.prog glb 44 (tv2_s okC) := by
  refine ⟨fok Tryd.func44 (by kernel_rfl) (by kernel_rfl), ?_⟩
  intro xs pre r h hp
  unfold tv2_s at h
  split at h
  · simp only [Option.some.injEq, Prod.mk.injEq] at h
    obtain ⟨h1, h2⟩ := h
    subst h1 h2
    exact fnK_sound tyNil (by exact specOK rfl rfl ⟨(texists_ok), trivial⟩ trivial) (by kernel_rfl) Tryd.func44 rfl (tv2_v  _ _ _ _ _)
  · cases h
def tv3_s (okC : Int → Bool) (enV : Int → Int → Int → Int → Bool) : Sp
  | [.agg [.int .i64 c, .int .i64 e, .int .i64 w, .int .i64 sc, .int .i64 l]] => some (True, .bool (!(okC e && enV c w sc l)))
  | _ => none
set_option maxRecDepth 100000 in
def tv3_T (okC : Int → Bool) (enV : Int → Int → Int → Int → Bool) : Prop :=
  ∀ (c e w sc l : Int), ((-9223372036854775808 : Int) ≤ c ∧ c ≤ (9223372036854775807 : Int)) ∧ ((-9223372036854775808 : Int) ≤ e ∧ e ≤ (9223372036854775807 : Int)) ∧
  ((-9223372036854775808 : Int) ≤ w ∧ w ≤ (9223372036854775807 : Int)) ∧ ((-9223372036854775808 : Int) ≤ sc ∧ sc ≤ (9223372036854775807 : Int)) ∧ ((-9223372036854775808 : Int) ≤ l ∧
  l ≤ (9223372036854775807 : Int)) ∧ True → True ∧ (!(okC e && enV c w sc l)) = !(okC e && enV c w sc l)
set_option maxRecDepth 100000 in
theorem tv3_P : tv3_T okC enV := by
  unfold tv3_T
  intro c e w sc l h
  exact ⟨trivial, rfl⟩
def tv3_S (okC : Int → Bool) (enV : Int → Int → Int → Int → Bool) : Prop := ∀ (c e w sc l : Int), fnK Tryd.prog { glob := glb, spec := lk [(34, (tvalid_s okC enV))], specH := lk [], nowf := true } { nt := 6, drop := drp [(1, 56)] } (fun _ _ => none) 6 Tryd.f46 [.agg [.int .i64 c, .int .i64 e, .int .i64 w, .int .i64 sc, .int .i64 l]] (.bool (!(okC e && enV c w sc l)))
set_option maxRecDepth 100000 in
theorem tv3_e (okC : Int → Bool) (enV : Int → Int → Int → Int → Bool) : tv3_T okC enV = tv3_S okC enV := by kernel_rfl
theorem tv3_v : tv3_S okC enV := @Eq.mp (tv3_T okC enV) (tv3_S okC enV) (tv3_e okC enV) tv3_P
theorem tv3_ok : SOK Tryd.prog glb 46 (tv3_s okC enV) := by
  refine ⟨fok Tryd.func46 (by kernel_rfl) (by kernel_rfl), ?_⟩
  intro xs pre r h hp
  unfold tv3_s at h
  split at h
  · simp only [Option.some.injEq, Prod.mk.injEq] at h
    obtain ⟨h1, h2⟩ := h
    subst h1 h2
    exact fnK_sound tyNil (by exact specOK rfl rfl ⟨(tvalid_ok), trivial⟩ trivial) (by kernel_rfl) Tryd.func46 rfl (tv3_v  _ _ _ _ _)
  · cases h
def tp1_s (knd : Int → Int) : Sp
  | [.int .i64 c] => some (True, .bool (decide (knd c = 0)))
  | _ => none
set_option maxRecDepth 100000 in
def tp1_T (knd : Int → Int) : Prop :=
  ∀ (gl : Glob) (c : Int), (-9223372036854775808 : Int) ≤ c ∧ c ≤ (9223372036854775807 : Int) → True ∧ decide (knd c = (0 : Int)) = decide (knd c = (0 : Int))
set_option maxRecDepth 100000 in
theorem tp1_P : tp1_T knd := by
  unfold tp1_T
  intro gl c h
  exact ⟨trivial, rfl⟩
def tp1_S (knd : Int → Int) : Prop := ∀ (gl : Glob) (c : Int), fnK Tryd.prog { glob := gl, spec := lk [(55, (tof_s knd))], specH := lk [], nowf := true } { nt := 6, drop := drp [(1, 56)] } (fun _ _ => none) 6 Tryd.f61 [.int .i64 c] (.bool (decide (knd c = 0)))
set_option maxRecDepth 100000 in
theorem tp1_e (knd : Int → Int) : tp1_T knd = tp1_S knd := by kernel_rfl
theorem tp1_v : tp1_S knd := @Eq.mp (tp1_T knd) (tp1_S knd) (tp1_e knd) tp1_P
theorem tp1_ok (gl : Glob) : SOK Tryd.prog gl 61 (tp1_s knd) := by
  refine ⟨fok Tryd.func61 (by kernel_rfl) (by kernel_rfl), ?_⟩
  intro xs pre r h hp
  unfold tp1_s at h
  split at h
  · simp only [Option.some.injEq, Prod.mk.injEq] at h
    obtain ⟨h1, h2⟩ := h
    subst h1 h2
    exact fnK_sound tyNil (by exact specOK rfl rfl ⟨(tof_ok gl), trivial⟩ trivial) (by kernel_rfl) Tryd.func61 rfl (tp1_v gl _)
  · cases h
def tc0X_s : Sp
  | [.sl 1 f xs, .fn 61 []] => some (CdsP xs, .int .i64 (idxP k0P xs))
  | _ => none
set_option maxRecDepth 100000 in
def tc0X_T (knd : Int → Int) : Prop :=
  ∀ (gl : Glob) (f : Bool) (xs : List (List AV)), CdsP xs → True → True → (∃ x, IdxI k0P xs x ∧ (((bif f then f = true else True) ∧ xs = xs) ∧ True ∧ (↑xs.length : Int) = (↑xs.length
  : Int) ∧ (0 : Int) = x ∧ True) ∧ True) ∧ ∀ (x : Int), IdxI k0P xs x → bif decide (x < (↑xs.length : Int)) then bif decide ((0 : Int) ≤ x ∧ x < (↑xs.length : Int)) then ∃ n,
  List.take [AV.int IntKind.i64 n].length (xs.getD x.toNat []) = [AV.int IntKind.i64 n] ∧ True ∧ bif decide (knd n = (0 : Int)) then x = idxP k0P xs else bif decide (rng IntKind.i64
  (x + (1 : Int))) then ∃ y, IdxI k0P xs y ∧ (ixL (61 : Nat) (1 : Nat) k0P f xs [] []).m y < (ixL (61 : Nat) (1 : Nat) k0P f xs [] []).m x ∧ (((bif f then f = true else True) ∧ xs =
  xs) ∧ True ∧ (↑xs.length : Int) = (↑xs.length : Int) ∧ x + (1 : Int) = y ∧ True) ∧ True else False else False else (-1 : Int) = idxP k0P xs
set_option maxRecDepth 100000 in
theorem tc0X_P : tc0X_T knd := by
  unfold tc0X_T
  intro gl f xs hp
  intros
  have bf : cond f (f = true) True := by cases f <;> trivial
  have hs := hp.fl
  refine ⟨⟨0, ⟨by decide, by omega, fun j h => by omega⟩, ⟨⟨bf, rfl⟩, trivial, rfl, rfl, trivial⟩, trivial⟩, ?_⟩
  rintro i ⟨h0, h1, hn⟩
  have ei : ((i.toNat : Nat) : Int) = i := by omega
  refine cs (fun hl => ?_) (fun hl => ?_)
  · obtain ⟨c, he, hq⟩ := hp.fr i.toNat (by omega)
    refine cd1 ⟨h0, hl⟩ ⟨c, by rw [he]; rfl, trivial, csplit (fun q => ?_) (fun q => ?_)⟩
    · have := idx_some (p := k0P) (xs := xs) (i := i.toNat) (by omega) (by rw [he]; exact q) (fun j hj => hn j (by omega))
      exact ei.symm.trans this
    · refine cdI (by omega) ⟨i + 1, ⟨by omega, by omega, fun j hj => ?_⟩, by simp only [ixL]; omega, ⟨⟨bf, rfl⟩, trivial, rfl, rfl, trivial⟩, trivial⟩
      rcases Nat.lt_or_ge j i.toNat with k | k
      · exact hn j (by omega)
      · rw [show j = i.toNat by omega, he]; exact q
  · exact idx_none fun j hj => hn j (by omega)
def tc0X_S (knd : Int → Int) : Prop := ∀ (gl : Glob) (f : Bool) (xs : List (List AV)), CdsP xs → fnK Tryd.prog { glob := gl, spec := lk [(61, (tp1_s knd))], specH := lk [], shape := [15], nowf := true } { nt := 19, drop := drp [(1, 64), (3, 1024), (4, 63488), (5, 131072), (6, 262144)] } (invs [(2, ixL 61 1 k0P f xs [] [])]) 6 Tryd.f65 [.sl 1 f xs, .fn 61 []] (.int .i64 (idxP k0P xs))
set_option maxRecDepth 100000 in
theorem tc0X_e (knd : Int → Int) : tc0X_T knd = tc0X_S knd := by kernel_rfl
theorem tc0X_v : tc0X_S knd := @Eq.mp (tc0X_T knd) (tc0X_S knd) (tc0X_e knd) tc0X_P
theorem tc0X_ok (gl : Glob) : SOK Tryd.prog gl 65 tc0X_s := by
  refine ⟨fok Tryd.func65 (by kernel_rfl) (by kernel_rfl), ?_⟩
  intro xs pre r h hp
  unfold tc0X_s at h
  split at h
  · simp only [Option.some.injEq, Prod.mk.injEq] at h
    obtain ⟨h1, h2⟩ := h
    subst h1 h2
    exact fnK_sound tyNil (by exact specOK rfl rfl ⟨(tp1_ok gl), trivial⟩ trivial) (by kernel_rfl) Tryd.func65 rfl (tc0X_v gl _ _ hp)
  · cases h
def tc0_s : Sp
  | [.sl 1 f xs, .fn 61 []] => some (CdsP xs, .bool (xs.any k0P))
  | _ => none
set_option maxRecDepth 100000 in
def tc0_T : Prop :=
  ∀ (gl : Glob) (f : Bool) (xs : List (List AV)), CdsP xs → True → True → CdsP xs ∧ decide ((0 : Int) ≤ idxP k0P xs) = xs.any k0P
set_option maxRecDepth 100000 in
theorem tc0_P : tc0_T := by
  unfold tc0_T
  intro gl f xs hp
  intros
  exact ⟨hp, idx_ge⟩
def tc0_S : Prop := ∀ (gl : Glob) (f : Bool) (xs : List (List AV)), CdsP xs → fnK Tryd.prog { glob := gl, spec := lk [(65, tc0X_s)], specH := lk [], nowf := true } { nt := 9, drop := drp [(1, 480)] } (fun _ _ => none) 6 Tryd.f60 [.sl 1 f xs, .fn 61 []] (.bool (xs.any k0P))
set_option maxRecDepth 100000 in
theorem tc0_e : tc0_T = tc0_S := by kernel_rfl
theorem tc0_v : tc0_S := @Eq.mp (tc0_T) (tc0_S) (tc0_e) tc0_P
theorem tc0_ok (gl : Glob) : SOK Tryd.prog gl 60 tc0_s := by
  refine ⟨fok Tryd.func60 (by kernel_rfl) (by kernel_rfl), ?_⟩
  intro xs pre r h hp
  unfold tc0_s at h
  split at h
  · simp only [Option.some.injEq, Prod.mk.injEq] at h
    obtain ⟨h1, h2⟩ := h
    subst h1 h2
    exact fnK_sound tyNil (by exact specOK rfl rfl ⟨(tc0X_ok gl), trivial⟩ trivial) (by kernel_rfl) Tryd.func60 rfl (tc0_v gl _ _ hp)
  · cases h
def tproper_s (prB : Int → List (List AV) → Bool) : Sp
  | [.agg [.int .i64 c, .sl 1 false cs]] => some (CdsP cs, .bool (prB c cs))
  | _ => none
set_option maxRecDepth 100000 in
def tproper_T (prB : Int → List (List AV) → Bool) : Prop :=
  ∀ (gl : Glob) (c : Int) (cs : List (List AV)), CdsP cs → ((-9223372036854775808 : Int) ≤ c ∧ c ≤ (9223372036854775807 : Int)) ∧ True ∧ True → True ∧ bif decide (knd c = (2 : Int))
  then CdsP cs ∧ (!cs.any k0P) = prB c cs else false = prB c cs
set_option maxRecDepth 100000 in
theorem tproper_P : tproper_T prB := by
  unfold tproper_T
  intro gl c cs h
  intros
  unfold prB
  exact ⟨trivial, csx (fun q => ⟨h, by rw [decide_eq_true q, Bool.true_and]⟩) (fun q => by rw [decide_eq_false q, Bool.false_and])⟩
def tproper_S (prB : Int → List (List AV) → Bool) : Prop := ∀ (gl : Glob) (c : Int) (cs : List (List AV)), CdsP cs → fnK Tryd.prog { glob := gl, spec := lk [(55, (tof_s Go.Proofs.YthdfkiopppkfcaaDoor.knd)), (60, tc0_s)], specH := lk [], nowf := true } { nt := 13, drop := drp [(1, 8184)] } (fun _ _ => none) 6 Tryd.f48 [.agg [.int .i64 c, .sl 1 false cs]] (.bool (prB c cs))
set_option maxRecDepth 100000 in
theorem tproper_e (prB : Int → List (List AV) → Bool) : tproper_T prB = tproper_S prB := by kernel_rfl
theorem tproper_v : tproper_S prB := @Eq.mp (tproper_T prB) (tproper_S prB) (tproper_e prB) tproper_P
theorem tproper_ok (gl : Glob) : SOK Tryd.prog gl 48 (tproper_s prB) := by
  refine ⟨fok Tryd.func48 (by kernel_rfl) (by kernel_rfl), ?_⟩
  intro xs pre r h hp
  unfold tproper_s at h
  split at h
  · simp only [Option.some.injEq, Prod.mk.injEq] at h
    obtain ⟨h1, h2⟩ := h
    subst h1 h2
    exact fnK_sound tyNil (by exact specOK rfl rfl ⟨(tof_ok gl), (tc0_ok gl), trivial⟩ trivial) (by kernel_rfl) Tryd.func48 rfl (tproper_v gl _ _ hp)
  · cases h
def tv4_s (prB : Int → List (List AV) → Bool) : Sp
  | [.agg [.int .i64 c, .sl 1 false cs]] => some (CdsP cs, .bool (!(prB c cs)))
  | _ => none
set_option maxRecDepth 100000 in
def tv4_T (prB : Int → List (List AV) → Bool) : Prop :=
  ∀ (gl : Glob) (c : Int) (cs : List (List AV)), CdsP cs → ((-9223372036854775808 : Int) ≤ c ∧ c ≤ (9223372036854775807 : Int)) ∧ True ∧ True → CdsP cs ∧ (!prB c cs) = !prB c cs
set_option maxRecDepth 100000 in
theorem tv4_P : tv4_T prB := by
  unfold tv4_T
  intro gl c cs h
  intros
  exact ⟨h, rfl⟩
def tv4_S (prB : Int → List (List AV) → Bool) : Prop := ∀ (gl : Glob) (c : Int) (cs : List (List AV)), CdsP cs → fnK Tryd.prog { glob := gl, spec := lk [(48, (tproper_s prB))], specH := lk [], nowf := true } { nt := 6, drop := drp [(1, 56)] } (fun _ _ => none) 6 Tryd.f47 [.agg [.int .i64 c, .sl 1 false cs]] (.bool (!(prB c cs)))
set_option maxRecDepth 100000 in
theorem tv4_e (prB : Int → List (List AV) → Bool) : tv4_T prB = tv4_S prB := by kernel_rfl
theorem tv4_v : tv4_S prB := @Eq.mp (tv4_T prB) (tv4_S prB) (tv4_e prB) tv4_P
theorem tv4_ok (gl : Glob) : SOK Tryd.prog gl 47 (tv4_s prB) := by
  refine ⟨fok Tryd.func47 (by kernel_rfl) (by kernel_rfl), ?_⟩
  intro xs pre r h hp
  unfold tv4_s at h
  split at h
  · simp only [Option.some.injEq, Prod.mk.injEq] at h
    obtain ⟨h1, h2⟩ := h
    subst h1 h2
    exact fnK_sound tyNil (by exact specOK rfl rfl ⟨(tproper_ok gl), trivial⟩ trivial) (by kernel_rfl) Tryd.func47 rfl (tv4_v gl _ _ hp)
  · cases h
def tclX_s : Sp
  | [.sl 2 f xs, .fn 42 []] => some (SqsP xs, .int .i64 (idxP lgP xs))
  | _ => none
set_option maxRecDepth 100000 in
def tclX_T : Prop :=
  ∀ (gl : Glob) (f : Bool) (xs : List (List AV)), SqsP xs → True → True → (∃ x, IdxI lgP xs x ∧ (((bif f then f = true else True) ∧ xs = xs) ∧ True ∧ (↑xs.length : Int) = (↑xs.length
  : Int) ∧ (0 : Int) = x ∧ True) ∧ True) ∧ ∀ (x : Int), IdxI lgP xs x → bif decide (x < (↑xs.length : Int)) then bif decide ((0 : Int) ≤ x ∧ x < (↑xs.length : Int)) then ∃ n xs_1,
  List.take [AV.int IntKind.i64 n, AV.sl (1 : Nat) false xs_1].length (xs.getD x.toNat []) = [AV.int IntKind.i64 n, AV.sl (1 : Nat) false xs_1] ∧ True ∧ bif decide ((20 : Int) <
  (↑xs_1.length : Int)) then x = idxP lgP xs else bif decide (rng IntKind.i64 (x + (1 : Int))) then ∃ y, IdxI lgP xs y ∧ (ixL (42 : Nat) (2 : Nat) lgP f xs [] []).m y < (ixL (42 :
  Nat) (2 : Nat) lgP f xs [] []).m x ∧ (((bif f then f = true else True) ∧ xs = xs) ∧ True ∧ (↑xs.length : Int) = (↑xs.length : Int) ∧ x + (1 : Int) = y ∧ True) ∧ True else False
  else False else (-1 : Int) = idxP lgP xs
set_option maxRecDepth 100000 in
theorem tclX_P : tclX_T := by
  unfold tclX_T
  intro gl f xs hp
  intros
  have bf : cond f (f = true) True := by cases f <;> trivial
  have hs := hp.fl
  refine ⟨⟨0, ⟨by decide, by omega, fun j h => by omega⟩, ⟨⟨bf, rfl⟩, trivial, rfl, rfl, trivial⟩, trivial⟩, ?_⟩
  rintro i ⟨h0, h1, hn⟩
  have ei : ((i.toNat : Nat) : Int) = i := by omega
  refine cs (fun hl => ?_) (fun hl => ?_)
  · obtain ⟨c, cs, he, hq⟩ := hp.fr i.toNat (by omega)
    refine cd1 ⟨h0, hl⟩ ⟨c, cs, by rw [he]; rfl, trivial, csplit (fun q => ?_) (fun q => ?_)⟩
    · have := idx_some (p := lgP) (xs := xs) (i := i.toNat) (by omega) (by rw [he]; exact q) (fun j hj => hn j (by omega))
      exact ei.symm.trans this
    · refine cdI (by omega) ⟨i + 1, ⟨by omega, by omega, fun j hj => ?_⟩, by simp only [ixL]; omega, ⟨⟨bf, rfl⟩, trivial, rfl, rfl, trivial⟩, trivial⟩
      rcases Nat.lt_or_ge j i.toNat with k | k
      · exact hn j (by omega)
      · rw [show j = i.toNat by omega, he]; exact q
  · exact idx_none fun j hj => hn j (by omega)
def tclX_S : Prop := ∀ (gl : Glob) (f : Bool) (xs : List (List AV)), SqsP xs → fnK Tryd.prog { glob := gl, spec := lk [(42, tv1_s)], specH := lk [], shape := [15], slz := [(15, [1])], nowf := true } { nt := 19, drop := drp [(1, 64), (3, 1024), (4, 63488), (5, 131072), (6, 262144)] } (invs [(2, ixL 42 2 lgP f xs [] [])]) 6 Tryd.f57 [.sl 2 f xs, .fn 42 []] (.int .i64 (idxP lgP xs))
set_option maxRecDepth 100000 in
theorem tclX_e : tclX_T = tclX_S := by kernel_rfl
theorem tclX_v : tclX_S := @Eq.mp (tclX_T) (tclX_S) (tclX_e) tclX_P
theorem tclX_ok (gl : Glob) : SOK Tryd.prog gl 57 tclX_s := by
  refine ⟨fok Tryd.func57 (by kernel_rfl) (by kernel_rfl), ?_⟩
  intro xs pre r h hp
  unfold tclX_s at h
  split at h
  · simp only [Option.some.injEq, Prod.mk.injEq] at h
    obtain ⟨h1, h2⟩ := h
    subst h1 h2
    exact fnK_sound tyNil (by exact specOK rfl rfl ⟨(tv1_ok gl), trivial⟩ trivial) (by kernel_rfl) Tryd.func57 rfl (tclX_v gl _ _ hp)
  · cases h
def tcl_s : Sp
  | [.sl 2 f xs, .fn 42 []] => some (SqsP xs, .bool (xs.any lgP))
  | _ => none
set_option maxRecDepth 100000 in
def tcl_T : Prop :=
  ∀ (gl : Glob) (f : Bool) (xs : List (List AV)), SqsP xs → True → True → SqsP xs ∧ decide ((0 : Int) ≤ idxP lgP xs) = xs.any lgP
set_option maxRecDepth 100000 in
theorem tcl_P : tcl_T := by
  unfold tcl_T
  intro gl f xs hp
  intros
  exact ⟨hp, idx_ge⟩
def tcl_S : Prop := ∀ (gl : Glob) (f : Bool) (xs : List (List AV)), SqsP xs → fnK Tryd.prog { glob := gl, spec := lk [(57, tclX_s)], specH := lk [], nowf := true } { nt := 9, drop := drp [(1, 480)] } (fun _ _ => none) 6 Tryd.f41 [.sl 2 f xs, .fn 42 []] (.bool (xs.any lgP))
set_option maxRecDepth 100000 in
theorem tcl_e : tcl_T = tcl_S := by kernel_rfl
theorem tcl_v : tcl_S := @Eq.mp (tcl_T) (tcl_S) (tcl_e) tcl_P
theorem tcl_ok (gl : Glob) : SOK Tryd.prog gl 41 tcl_s := by
  refine ⟨fok Tryd.func41 (by kernel_rfl) (by kernel_rfl), ?_⟩
  intro xs pre r h hp
  unfold tcl_s at h
  split at h
  · simp only [Option.some.injEq, Prod.mk.injEq] at h
    obtain ⟨h1, h2⟩ := h
    subst h1 h2
    exact fnK_sound tyNil (by exact specOK rfl rfl ⟨(tclX_ok gl), trivial⟩ trivial) (by kernel_rfl) Tryd.func41 rfl (tcl_v gl _ _ hp)
  · cases h
def tciX_s : Sp
  | [.sl 2 f xs, .fn 47 []] => some (SqsP xs, .int .i64 (idxP ipP xs))
  | _ => none
set_option maxRecDepth 100000 in
def tciX_T : Prop :=
  ∀ (gl : Glob) (f : Bool) (xs : List (List AV)), SqsP xs → True → True → (∃ x, IdxI ipP xs x ∧ (((bif f then f = true else True) ∧ xs = xs) ∧ True ∧ (↑xs.length : Int) = (↑xs.length
  : Int) ∧ (0 : Int) = x ∧ True) ∧ True) ∧ ∀ (x : Int), IdxI ipP xs x → bif decide (x < (↑xs.length : Int)) then bif decide ((0 : Int) ≤ x ∧ x < (↑xs.length : Int)) then ∃ n xs_1,
  List.take [AV.int IntKind.i64 n, AV.sl (1 : Nat) false xs_1].length (xs.getD x.toNat []) = [AV.int IntKind.i64 n, AV.sl (1 : Nat) false xs_1] ∧ CdsP xs_1 ∧ bif !prB n xs_1 then x =
  idxP ipP xs else bif decide (rng IntKind.i64 (x + (1 : Int))) then ∃ y, IdxI ipP xs y ∧ (ixL (47 : Nat) (2 : Nat) ipP f xs [] []).m y < (ixL (47 : Nat) (2 : Nat) ipP f xs [] []).m
  x ∧ (((bif f then f = true else True) ∧ xs = xs) ∧ True ∧ (↑xs.length : Int) = (↑xs.length : Int) ∧ x + (1 : Int) = y ∧ True) ∧ True else False else False else (-1 : Int) = idxP
  ipP xs
set_option maxRecDepth 100000 in
theorem tciX_P : tciX_T := by
  unfold tciX_T
  intro gl f xs hp
  intros
  have bf : cond f (f = true) True := by cases f <;> trivial
  have hs := hp.fl
  refine ⟨⟨0, ⟨by decide, by omega, fun j h => by omega⟩, ⟨⟨bf, rfl⟩, trivial, rfl, rfl, trivial⟩, trivial⟩, ?_⟩
  rintro i ⟨h0, h1, hn⟩
  have ei : ((i.toNat : Nat) : Int) = i := by omega
  refine cs (fun hl => ?_) (fun hl => ?_)
  · obtain ⟨c, cs, he, hq⟩ := hp.fr i.toNat (by omega)
    refine cd1 ⟨h0, hl⟩ ⟨c, cs, by rw [he]; rfl, hq.2, csplit (fun q => ?_) (fun q => ?_)⟩
    · have := idx_some (p := ipP) (xs := xs) (i := i.toNat) (by omega) (by rw [he]; exact q) (fun j hj => hn j (by omega))
      exact ei.symm.trans this
    · refine cdI (by omega) ⟨i + 1, ⟨by omega, by omega, fun j hj => ?_⟩, by simp only [ixL]; omega, ⟨⟨bf, rfl⟩, trivial, rfl, rfl, trivial⟩, trivial⟩
      rcases Nat.lt_or_ge j i.toNat with k | k
      · exact hn j (by omega)
      · rw [show j = i.toNat by omega, he]; exact q
  · exact idx_none fun j hj => hn j (by omega)
def tciX_S : Prop := ∀ (gl : Glob) (f : Bool) (xs : List (List AV)), SqsP xs → fnK Tryd.prog { glob := gl, spec := lk [(47, (tv4_s Go.Proofs.YthdfkiopppkfcaaDoor.prB))], specH := lk [], shape := [15], slz := [(15, [1])], nowf := true } { nt := 19, drop := drp [(1, 64), (3, 1024), (4, 63488), (5, 131072), (6, 262144)] } (invs [(2, ixL 47 2 ipP f xs [] [])]) 6 Tryd.f57 [.sl 2 f xs, .fn 47 []] (.int .i64 (idxP ipP xs))
set_option maxRecDepth 100000 in
theorem tciX_e : tciX_T = tciX_S := by kernel_rfl
theorem tciX_v : tciX_S := @Eq.mp (tciX_T) (tciX_S) (tciX_e) tciX_P
theorem tciX_ok (gl : Glob) : SOK Tryd.prog gl 57 tciX_s := by
  refine ⟨fok Tryd.func57 (by kernel_rfl) (by kernel_rfl), ?_⟩
  intro xs pre r h hp
  unfold tciX_s at h
  split at h
  · simp only [Option.some.injEq, Prod.mk.injEq] at h
    obtain ⟨h1, h2⟩ := h
    subst h1 h2
    exact fnK_sound tyNil (by exact specOK rfl rfl ⟨(tv4_ok gl), trivial⟩ trivial) (by kernel_rfl) Tryd.func57 rfl (tciX_v gl _ _ hp)
  · cases h
def tci_s : Sp
  | [.sl 2 f xs, .fn 47 []] => some (SqsP xs, .bool (xs.any ipP))
  | _ => none
set_option maxRecDepth 100000 in
def tci_T : Prop :=
  ∀ (gl : Glob) (f : Bool) (xs : List (List AV)), SqsP xs → True → True → SqsP xs ∧ decide ((0 : Int) ≤ idxP ipP xs) = xs.any ipP
set_option maxRecDepth 100000 in
theorem tci_P : tci_T := by
  unfold tci_T
  intro gl f xs hp
  intros
  exact ⟨hp, idx_ge⟩
def tci_S : Prop := ∀ (gl : Glob) (f : Bool) (xs : List (List AV)), SqsP xs → fnK Tryd.prog { glob := gl, spec := lk [(57, tciX_s)], specH := lk [], nowf := true } { nt := 9, drop := drp [(1, 480)] } (fun _ _ => none) 6 Tryd.f41 [.sl 2 f xs, .fn 47 []] (.bool (xs.any ipP))
set_option maxRecDepth 100000 in
theorem tci_e : tci_T = tci_S := by kernel_rfl
theorem tci_v : tci_S := @Eq.mp (tci_T) (tci_S) (tci_e) tci_P
theorem tci_ok (gl : Glob) : SOK Tryd.prog gl 41 tci_s := by
  refine ⟨fok Tryd.func41 (by kernel_rfl) (by kernel_rfl), ?_⟩
  intro xs pre r h hp
  unfold tci_s at h
  split at h
  · simp only [Option.some.injEq, Prod.mk.injEq] at h
    obtain ⟨h1, h2⟩ := h
    subst h1 h2
    exact fnK_sound tyNil (by exact specOK rfl rfl ⟨(tciX_ok gl), trivial⟩ trivial) (by kernel_rfl) Tryd.func41 rfl (tci_v gl _ _ hp)
  · cases h
def tcnX_s : Sp
  | [.sl 5 f xs, .fn 44 []] => some (EnsP xs, .int .i64 (idxP neP xs))
  | _ => none
set_option maxRecDepth 100000 in
def tcnX_T : Prop :=
  ∀ (f : Bool) (xs : List (List AV)), EnsP xs → True → True → (∃ x, IdxI neP xs x ∧ (((bif f then f = true else True) ∧ xs = xs) ∧ True ∧ (↑xs.length : Int) = (↑xs.length : Int) ∧ (0
  : Int) = x ∧ True) ∧ True) ∧ ∀ (x : Int), IdxI neP xs x → bif decide (x < (↑xs.length : Int)) then bif decide ((0 : Int) ≤ x ∧ x < (↑xs.length : Int)) then ∃ n n_1 n_2 n_3 n_4,
  List.take [AV.int IntKind.i64 n, AV.int IntKind.i64 n_1, AV.int IntKind.i64 n_2, AV.int IntKind.i64 n_3, AV.int IntKind.i64 n_4].length (xs.getD x.toNat []) = [AV.int IntKind.i64
  n, AV.int IntKind.i64 n_1, AV.int IntKind.i64 n_2, AV.int IntKind.i64 n_3, AV.int IntKind.i64 n_4] ∧ True ∧ bif !okC n_1 then x = idxP neP xs else bif decide (rng IntKind.i64 (x +
  (1 : Int))) then ∃ y, IdxI neP xs y ∧ (ixL (44 : Nat) (5 : Nat) neP f xs [] []).m y < (ixL (44 : Nat) (5 : Nat) neP f xs [] []).m x ∧ (((bif f then f = true else True) ∧ xs = xs) ∧
  True ∧ (↑xs.length : Int) = (↑xs.length : Int) ∧ x + (1 : Int) = y ∧ True) ∧ True else False else False else (-1 : Int) = idxP neP xs
set_option maxRecDepth 100000 in
theorem tcnX_P : tcnX_T := by
  unfold tcnX_T
  intro f xs hp
  intros
  have bf : cond f (f = true) True := by cases f <;> trivial
  have hs := hp.fl
  refine ⟨⟨0, ⟨by decide, by omega, fun j h => by omega⟩, ⟨⟨bf, rfl⟩, trivial, rfl, rfl, trivial⟩, trivial⟩, ?_⟩
  rintro i ⟨h0, h1, hn⟩
  have ei : ((i.toNat : Nat) : Int) = i := by omega
  refine cs (fun hl => ?_) (fun hl => ?_)
  · obtain ⟨c, e, w, sc, l, he, hq⟩ := hp.fr i.toNat (by omega)
    refine cd1 ⟨h0, hl⟩ ⟨c, e, w, sc, l, by rw [he]; rfl, trivial, csplit (fun q => ?_) (fun q => ?_)⟩
    · have := idx_some (p := neP) (xs := xs) (i := i.toNat) (by omega) (by rw [he]; exact q) (fun j hj => hn j (by omega))
      exact ei.symm.trans this
    · refine cdI (by omega) ⟨i + 1, ⟨by omega, by omega, fun j hj => ?_⟩, by simp only [ixL]; omega, ⟨⟨bf, rfl⟩, trivial, rfl, rfl, trivial⟩, trivial⟩
      rcases Nat.lt_or_ge j i.toNat with k | k
      · exact hn j (by omega)
      · rw [show j = i.toNat by omega, he]; exact q
  · exact idx_none fun j hj => hn j (by omega)
def tcnX_S : Prop := ∀ (f : Bool) (xs : List (List AV)), EnsP xs → fnK Tryd.prog { glob := glb, spec := lk [(44, (tv2_s Go.Proofs.YthdfkiopppkfcaaDoor.okC))], specH := lk [], shape := [15], nowf := true } { nt := 19, drop := drp [(1, 64), (3, 1024), (4, 63488), (5, 131072), (6, 262144)] } (invs [(2, ixL 44 5 neP f xs [] [])]) 6 Tryd.f58 [.sl 5 f xs, .fn 44 []] (.int .i64 (idxP neP xs))
set_option maxRecDepth 100000 in
theorem tcnX_e : tcnX_T = tcnX_S := by kernel_rfl
theorem tcnX_v : tcnX_S := @Eq.mp (tcnX_T) (tcnX_S) (tcnX_e) tcnX_P
theorem tcnX_ok : SOK Tryd.prog glb 58 tcnX_s := by
  refine ⟨fok Tryd.func58 (by kernel_rfl) (by kernel_rfl), ?_⟩
  intro xs pre r h hp
  unfold tcnX_s at h
  split at h
  · simp only [Option.some.injEq, Prod.mk.injEq] at h
    obtain ⟨h1, h2⟩ := h
    subst h1 h2
    exact fnK_sound tyNil (by exact specOK rfl rfl ⟨(tv2_ok), trivial⟩ trivial) (by kernel_rfl) Tryd.func58 rfl (tcnX_v  _ _ hp)
  · cases h
def tcn_s : Sp
  | [.sl 5 f xs, .fn 44 []] => some (EnsP xs, .bool (xs.any neP))
  | _ => none
set_option maxRecDepth 100000 in
def tcn_T : Prop :=
  ∀ (f : Bool) (xs : List (List AV)), EnsP xs → True → True → EnsP xs ∧ decide ((0 : Int) ≤ idxP neP xs) = xs.any neP
set_option maxRecDepth 100000 in
theorem tcn_P : tcn_T := by
  unfold tcn_T
  intro f xs hp
  intros
  exact ⟨hp, idx_ge⟩
def tcn_S : Prop := ∀ (f : Bool) (xs : List (List AV)), EnsP xs → fnK Tryd.prog { glob := glb, spec := lk [(58, tcnX_s)], specH := lk [], nowf := true } { nt := 9, drop := drp [(1, 480)] } (fun _ _ => none) 6 Tryd.f43 [.sl 5 f xs, .fn 44 []] (.bool (xs.any neP))
set_option maxRecDepth 100000 in
theorem tcn_e : tcn_T = tcn_S := by kernel_rfl
theorem tcn_v : tcn_S := @Eq.mp (tcn_T) (tcn_S) (tcn_e) tcn_P
theorem tcn_ok : SOK Tryd.prog glb 43 tcn_s := by
  refine ⟨fok Tryd.func43 (by kernel_rfl) (by kernel_rfl), ?_⟩
  intro xs pre r h hp
  unfold tcn_s at h
  split at h
  · simp only [Option.some.injEq, Prod.mk.injEq] at h
    obtain ⟨h1, h2⟩ := h
    subst h1 h2
    exact fnK_sound tyNil (by exact specOK rfl rfl ⟨(tcnX_ok), trivial⟩ trivial) (by kernel_rfl) Tryd.func43 rfl (tcn_v  _ _ hp)
  · cases h
def tcvX_s : Sp
  | [.sl 5 f xs, .fn 46 []] => some (EnsP xs, .int .i64 (idxP ivP xs))
  | _ => none
set_option maxRecDepth 100000 in
def tcvX_T : Prop :=
  ∀ (f : Bool) (xs : List (List AV)), EnsP xs → True → True → (∃ x, IdxI ivP xs x ∧ (((bif f then f = true else True) ∧ xs = xs) ∧ True ∧ (↑xs.length : Int) = (↑xs.length : Int) ∧ (0
  : Int) = x ∧ True) ∧ True) ∧ ∀ (x : Int), IdxI ivP xs x → bif decide (x < (↑xs.length : Int)) then bif decide ((0 : Int) ≤ x ∧ x < (↑xs.length : Int)) then ∃ n n_1 n_2 n_3 n_4,
  List.take [AV.int IntKind.i64 n, AV.int IntKind.i64 n_1, AV.int IntKind.i64 n_2, AV.int IntKind.i64 n_3, AV.int IntKind.i64 n_4].length (xs.getD x.toNat []) = [AV.int IntKind.i64
  n, AV.int IntKind.i64 n_1, AV.int IntKind.i64 n_2, AV.int IntKind.i64 n_3, AV.int IntKind.i64 n_4] ∧ True ∧ bif !(okC n_1 && enV n n_2 n_3 n_4) then x = idxP ivP xs else bif decide
  (rng IntKind.i64 (x + (1 : Int))) then ∃ y, IdxI ivP xs y ∧ (ixL (46 : Nat) (5 : Nat) ivP f xs [] []).m y < (ixL (46 : Nat) (5 : Nat) ivP f xs [] []).m x ∧ (((bif f then f = true
  else True) ∧ xs = xs) ∧ True ∧ (↑xs.length : Int) = (↑xs.length : Int) ∧ x + (1 : Int) = y ∧ True) ∧ True else False else False else (-1 : Int) = idxP ivP xs
set_option maxRecDepth 100000 in
theorem tcvX_P : tcvX_T := by
  unfold tcvX_T
  intro f xs hp
  intros
  have bf : cond f (f = true) True := by cases f <;> trivial
  have hs := hp.fl
  refine ⟨⟨0, ⟨by decide, by omega, fun j h => by omega⟩, ⟨⟨bf, rfl⟩, trivial, rfl, rfl, trivial⟩, trivial⟩, ?_⟩
  rintro i ⟨h0, h1, hn⟩
  have ei : ((i.toNat : Nat) : Int) = i := by omega
  refine cs (fun hl => ?_) (fun hl => ?_)
  · obtain ⟨c, e, w, sc, l, he, hq⟩ := hp.fr i.toNat (by omega)
    refine cd1 ⟨h0, hl⟩ ⟨c, e, w, sc, l, by rw [he]; rfl, trivial, csplit (fun q => ?_) (fun q => ?_)⟩
    · have := idx_some (p := ivP) (xs := xs) (i := i.toNat) (by omega) (by rw [he]; exact q) (fun j hj => hn j (by omega))
      exact ei.symm.trans this
    · refine cdI (by omega) ⟨i + 1, ⟨by omega, by omega, fun j hj => ?_⟩, by simp only [ixL]; omega, ⟨⟨bf, rfl⟩, trivial, rfl, rfl, trivial⟩, trivial⟩
      rcases Nat.lt_or_ge j i.toNat with k | k
      · exact hn j (by omega)
      · rw [show j = i.toNat by omega, he]; exact q
  · exact idx_none fun j hj => hn j (by omega)
def tcvX_S : Prop := ∀ (f : Bool) (xs : List (List AV)), EnsP xs → fnK Tryd.prog { glob := glb, spec := lk [(46, (tv3_s Go.Proofs.YthdfkiopppkfcaaDoor.okC Go.Proofs.YthdfkiopppkfcaaDoor.enV))], specH := lk [], shape := [15], nowf := true } { nt := 19, drop := drp [(1, 64), (3, 1024), (4, 63488), (5, 131072), (6, 262144)] } (invs [(2, ixL 46 5 ivP f xs [] [])]) 6 Tryd.f58 [.sl 5 f xs, .fn 46 []] (.int .i64 (idxP ivP xs))
set_option maxRecDepth 100000 in
theorem tcvX_e : tcvX_T = tcvX_S := by kernel_rfl
theorem tcvX_v : tcvX_S := @Eq.mp (tcvX_T) (tcvX_S) (tcvX_e) tcvX_P
theorem tcvX_ok : SOK Tryd.prog glb 58 tcvX_s := by
  refine ⟨fok Tryd.func58 (by kernel_rfl) (by kernel_rfl), ?_⟩
  intro xs pre r h hp
  unfold tcvX_s at h
  split at h
  · simp only [Option.some.injEq, Prod.mk.injEq] at h
    obtain ⟨h1, h2⟩ := h
    subst h1 h2
    exact fnK_sound tyNil (by exact specOK rfl rfl ⟨(tv3_ok), trivial⟩ trivial) (by kernel_rfl) Tryd.func58 rfl (tcvX_v  _ _ hp)
  · cases h
def tcv_s : Sp
  | [.sl 5 f xs, .fn 46 []] => some (EnsP xs, .bool (xs.any ivP))
  | _ => none
set_option maxRecDepth 100000 in
def tcv_T : Prop :=
  ∀ (f : Bool) (xs : List (List AV)), EnsP xs → True → True → EnsP xs ∧ decide ((0 : Int) ≤ idxP ivP xs) = xs.any ivP
set_option maxRecDepth 100000 in
theorem tcv_P : tcv_T := by
  unfold tcv_T
  intro f xs hp
  intros
  exact ⟨hp, idx_ge⟩
def tcv_S : Prop := ∀ (f : Bool) (xs : List (List AV)), EnsP xs → fnK Tryd.prog { glob := glb, spec := lk [(58, tcvX_s)], specH := lk [], nowf := true } { nt := 9, drop := drp [(1, 480)] } (fun _ _ => none) 6 Tryd.f43 [.sl 5 f xs, .fn 46 []] (.bool (xs.any ivP))
set_option maxRecDepth 100000 in
theorem tcv_e : tcv_T = tcv_S := by kernel_rfl
theorem tcv_v : tcv_S := @Eq.mp (tcv_T) (tcv_S) (tcv_e) tcv_P
theorem tcv_ok : SOK Tryd.prog glb 43 tcv_s := by
  refine ⟨fok Tryd.func43 (by kernel_rfl) (by kernel_rfl), ?_⟩
  intro xs pre r h hp
  unfold tcv_s at h
  split at h
  · simp only [Option.some.injEq, Prod.mk.injEq] at h
    obtain ⟨h1, h2⟩ := h
    subst h1 h2
    exact fnK_sound tyNil (by exact specOK rfl rfl ⟨(tcvX_ok), trivial⟩ trivial) (by kernel_rfl) Tryd.func43 rfl (tcv_v  _ _ hp)
  · cases h
def vaE (es ss : List (List AV)) (v : Int) : Int := if v < 1 ∨ 99 < v then 1 else if (40 < (es.length : Int) ∨ 40 < (ss.length : Int)) ∨ ss.any lgP = true then 2 else if es.any neP = true then 4 else if es.any ivP = true ∨ ss.any ipP = true then 1 else if twB es ss then 5 else 0
def tvalidate_s (vaE : List (List AV) → List (List AV) → Int → Int) : Sp
  | [.agg [.int .i64 v, .sl 5 f es, .sl 2 g ss]] => some (EnsP es ∧ SqsP ss, .int .i64 (vaE es ss v))
  | _ => none
set_option maxRecDepth 100000 in
def tvalidate_T (vaE : List (List AV) → List (List AV) → Int → Int) : Prop :=
  ∀ (es ss : List (List AV)) (v : Int) (f g : Bool), EnsP es ∧ SqsP ss → ((-9223372036854775808 : Int) ≤ v ∧ v ≤ (9223372036854775807 : Int)) ∧ True ∧ True ∧ True → SqsP ss ∧ bif
  decide (v < (1 : Int)) then (1 : Int) = vaE es ss v else bif decide ((99 : Int) < v) then (1 : Int) = vaE es ss v else bif decide ((40 : Int) < (↑es.length : Int)) then (2 : Int) =
  vaE es ss v else bif decide ((40 : Int) < (↑ss.length : Int)) then (2 : Int) = vaE es ss v else bif ss.any lgP then (2 : Int) = vaE es ss v else EnsP es ∧ bif es.any neP then (4 :
  Int) = vaE es ss v else EnsP es ∧ bif es.any ivP then (1 : Int) = vaE es ss v else SqsP ss ∧ bif ss.any ipP then (1 : Int) = vaE es ss v else ((EnsP es ∧ SqsP ss) ∧ es.length ≤ (40
  : Nat) ∧ ss.length ≤ (40 : Nat)) ∧ bif twB es ss then (5 : Int) = vaE es ss v else (0 : Int) = vaE es ss v
set_option maxRecDepth 100000 in
theorem tvalidate_P : tvalidate_T vaE := by
  unfold tvalidate_T
  intro es ss v f g ⟨he, hs⟩ _
  have no : ∀ {P : Prop} {b : Bool}, b = false → (b = true → P) := fun e h => by rw [e] at h; cases h
  refine ⟨hs, csx (fun h1 => by unfold vaE; rw [if_pos (.inl h1)]) (fun h1 => csx (fun h2 => by unfold vaE; rw [if_pos (.inr h2)]) (fun h2 => ?_))⟩
  have e1 : ¬ (v < 1 ∨ 99 < v) := by omega
  refine csx (fun h3 => by unfold vaE; rw [if_neg e1, if_pos (.inl (.inl h3))]) (fun h3 => csx (fun h4 => by unfold vaE; rw [if_neg e1, if_pos (.inl (.inr h4))]) (fun h4 => csplit (fun h5 => by unfold vaE; rw [if_neg e1, if_pos (.inr h5)]) (fun h5 => ?_)))
  have e2 : ¬ ((40 < (es.length : Int) ∨ 40 < (ss.length : Int)) ∨ ss.any lgP = true) := by rw [h5]; simp; omega
  refine ⟨he, csplit (fun h6 => by unfold vaE; rw [if_neg e1, if_neg e2, if_pos h6]) (fun h6 => ?_)⟩
  have e3 : ¬ (es.any neP = true) := by rw [h6]; simp
  refine ⟨he, csplit (fun h7 => by unfold vaE; rw [if_neg e1, if_neg e2, if_neg e3, if_pos (.inl h7)]) (fun h7 => ⟨hs, csplit (fun h8 => by unfold vaE; rw [if_neg e1, if_neg e2, if_neg e3, if_pos (.inr h8)]) (fun h8 => ?_)⟩)⟩
  have e4 : ¬ (es.any ivP = true ∨ ss.any ipP = true) := by rw [h7, h8]; simp
  refine ⟨⟨⟨he, hs⟩, by omega, by omega⟩, csplit (fun h9 => by unfold vaE; rw [if_neg e1, if_neg e2, if_neg e3, if_neg e4, if_pos h9]) (fun h9 => by unfold vaE; rw [if_neg e1, if_neg e2, if_neg e3, if_neg e4, if_neg (by rw [h9]; simp)])⟩
def tvalidate_S (vaE : List (List AV) → List (List AV) → Int → Int) : Prop := ∀ (es ss : List (List AV)) (v : Int) (f g : Bool), EnsP es ∧ SqsP ss → fnK Tryd.prog { glob := glb, spec := lk [(41, (orSp tcl_s tci_s)), (43, (orSp tcn_s tcv_s)), (49, (twice_s Go.Proofs.YthdfkiopppkfcaaDoor.twB))], specH := lk [], nowf := true } { nt := 44, drop := drp [(1, 112), (2, 65280), (4, 1073610752), (6, 15032385536), (8, 240518168576), (9, 1924145348608), (11, 13194139533312)] } (fun _ _ => none) 6 Tryd.f25 [.agg [.int .i64 v, .sl 5 f es, .sl 2 g ss]] (.int .i64 (vaE es ss v))
set_option maxRecDepth 100000 in
theorem tvalidate_e (vaE : List (List AV) → List (List AV) → Int → Int) : tvalidate_T vaE = tvalidate_S vaE := by kernel_rfl
theorem tvalidate_v : tvalidate_S vaE := @Eq.mp (tvalidate_T vaE) (tvalidate_S vaE) (tvalidate_e vaE) tvalidate_P
theorem tvalidate_ok : SOK Tryd.prog glb 25 (tvalidate_s vaE) := by
  refine ⟨fok Tryd.func25 (by kernel_rfl) (by kernel_rfl), ?_⟩
  intro xs pre r h hp
  unfold tvalidate_s at h
  split at h
  · simp only [Option.some.injEq, Prod.mk.injEq] at h
    obtain ⟨h1, h2⟩ := h
    subst h1 h2
    exact fnK_sound tyNil (by exact specOK rfl rfl ⟨(SOK.or (tcl_ok glb) (tci_ok glb)), (SOK.or (tcn_ok) (tcv_ok)), (twice_ok glb), trivial⟩ trivial) (by kernel_rfl) Tryd.func25 rfl (tvalidate_v  _ _ _ _ _ hp)
  · cases h
end Go.Proofs.YthdfkiopppkfcaaDoor
