/- Tables: codes and entries, on both sides. -/
import Derived.Test.YthdfkiopppkfcaaDoorElR
namespace Go.Proofs.YthdfkiopppkfcaaDoor
open Go
set_option linter.unusedVariables false
set_option linter.unusedSimpArgs false

def rpX (c : Int) : Int := (c - 20000) / 100
def rpY (c : Int) : Int := (c - 20000) % 100
/-- What a code stands for: 1 an entry, 2 a sequence, 3 a replication. -/
def knd (c : Int) : Int := if c < 1 then 0 else if c < 10000 then 1 else if c < 20000 then 2 else if 1 ≤ rpX c ∧ rpX c ≤ 20 ∧ 1 ≤ rpY c ∧ rpY c ≤ 20 then 3 else 0
def tsplit_s (rpX : Int → Int) (rpY : Int → Int) : Sp
  | [.int .i64 c] => some (20000 ≤ c, .tup [.int .i64 (rpX c), .int .i64 (rpY c)])
  | _ => none
set_option maxRecDepth 100000 in
def tsplit_T (rpX : Int → Int) (rpY : Int → Int) : Prop :=
  ∀ (gl : Glob) (c : Int), (20000 : Int) ≤ c → (-9223372036854775808 : Int) ≤ c ∧ c ≤ (9223372036854775807 : Int) → bif decide (rng IntKind.i64 (c - (20000 : Int))) then bif decide
  (rng IntKind.i64 ((c - (20000 : Int)).tdiv (100 : Int))) then bif decide (rng IntKind.i64 (c - (20000 : Int))) then (c - (20000 : Int)).tdiv (100 : Int) = rpX c ∧ (c - (20000 :
  Int)).tmod (100 : Int) = rpY c ∧ True else False else False else False
set_option maxRecDepth 100000 in
theorem tsplit_P : tsplit_T rpX rpY := by
  unfold tsplit_T
  intro gl c h hc
  have e1 : (c - 20000).tdiv 100 = rpX c := Int.tdiv_eq_ediv_of_nonneg (by omega)
  have e2 : (c - 20000).tmod 100 = rpY c := Int.tmod_eq_emod_of_nonneg (by omega)
  rw [e1, e2]
  have : rpX c = (c - 20000) / 100 := rfl
  exact cdI (by omega) (cdI (by omega) (cdI (by omega) ⟨rfl, rfl, trivial⟩))
def tsplit_S (rpX : Int → Int) (rpY : Int → Int) : Prop := ∀ (gl : Glob) (c : Int), 20000 ≤ c → fnK Tryd.prog { glob := gl, spec := lk [], specH := lk [] } { nt := 10, drop := drp [(1, 1008)] } (fun _ _ => none) 6 Tryd.f62 [.int .i64 c] (.tup [.int .i64 (rpX c), .int .i64 (rpY c)])
set_option maxRecDepth 100000 in
theorem tsplit_e (rpX : Int → Int) (rpY : Int → Int) : tsplit_T rpX rpY = tsplit_S rpX rpY := by kernel_rfl
theorem tsplit_v : tsplit_S rpX rpY := @Eq.mp (tsplit_T rpX rpY) (tsplit_S rpX rpY) (tsplit_e rpX rpY) tsplit_P
theorem tsplit_ok (gl : Glob) : SOK Tryd.prog gl 62 (tsplit_s rpX rpY) := by
  refine ⟨fok Tryd.func62 (by kernel_rfl) (by kernel_rfl), ?_⟩
  intro xs pre r h hp
  unfold tsplit_s at h
  split at h
  · simp only [Option.some.injEq, Prod.mk.injEq] at h
    obtain ⟨h1, h2⟩ := h
    subst h1 h2
    exact fnK_sound tyNil (by exact specOK rfl rfl trivial trivial) (by kernel_rfl) Tryd.func62 rfl (tsplit_v gl _ hp)
  · cases h
def tof_s (knd : Int → Int) : Sp
  | [.int .i64 c] => some (True, .int .i64 (knd c))
  | _ => none
set_option maxRecDepth 100000 in
def tof_T (knd : Int → Int) : Prop :=
  ∀ (gl : Glob) (c : Int), (-9223372036854775808 : Int) ≤ c ∧ c ≤ (9223372036854775807 : Int) → bif decide (c < (1 : Int)) then (0 : Int) = knd c else bif decide (c < (10000 : Int))
  then (1 : Int) = knd c else bif decide (c < (20000 : Int)) then (2 : Int) = knd c else (20000 : Int) ≤ c ∧ bif decide ((1 : Int) ≤ rpX c) then bif decide (rpX c ≤ (20 : Int)) then
  bif decide ((1 : Int) ≤ rpY c) then bif decide (rpY c ≤ (20 : Int)) then (3 : Int) = knd c else (0 : Int) = knd c else (0 : Int) = knd c else (0 : Int) = knd c else (0 : Int) = knd
  c
set_option maxRecDepth 100000 in
theorem tof_P : tof_T knd := by
  unfold tof_T
  intro gl c hc
  refine cs (fun _ => ?_) (fun _ => cs (fun _ => ?_) (fun _ => cs (fun _ => ?_) (fun _ => ⟨by omega, cs (fun _ => cs (fun _ => cs (fun _ => cs (fun _ => ?_) (fun _ => ?_)) (fun _ => ?_)) (fun _ => ?_)) (fun _ => ?_)⟩)))
  all_goals (unfold knd; (repeat' split) <;> omega)
def tof_S (knd : Int → Int) : Prop := ∀ (gl : Glob) (c : Int), fnK Tryd.prog { glob := gl, spec := lk [(62, (tsplit_s Go.Proofs.YthdfkiopppkfcaaDoor.rpX Go.Proofs.YthdfkiopppkfcaaDoor.rpY))], specH := lk [], nowf := true } { nt := 33, drop := drp [(1, 192), (3, 1536), (5, 12288), (7, 507904), (8, 4294443008)] } (fun _ _ => none) 6 Tryd.f55 [.int .i64 c] (.int .i64 (knd c))
set_option maxRecDepth 100000 in
theorem tof_e (knd : Int → Int) : tof_T knd = tof_S knd := by kernel_rfl
theorem tof_v : tof_S knd := @Eq.mp (tof_T knd) (tof_S knd) (tof_e knd) tof_P
theorem tof_ok (gl : Glob) : SOK Tryd.prog gl 55 (tof_s knd) := by
  refine ⟨fok Tryd.func55 (by kernel_rfl) (by kernel_rfl), ?_⟩
  intro xs pre r h hp
  unfold tof_s at h
  split at h
  · simp only [Option.some.injEq, Prod.mk.injEq] at h
    obtain ⟨h1, h2⟩ := h
    subst h1 h2
    exact fnK_sound tyNil (by exact specOK rfl rfl ⟨(tsplit_ok gl), trivial⟩ trivial) (by kernel_rfl) Tryd.func55 rfl (tof_v gl _)
  · cases h
def tkind_s (knd : Int → Int) : Sp
  | [.int .i64 c] => some (True, .int .i64 (knd c))
  | _ => none
set_option maxRecDepth 100000 in
def tkind_T (knd : Int → Int) : Prop :=
  ∀ (gl : Glob) (c : Int), (-9223372036854775808 : Int) ≤ c ∧ c ≤ (9223372036854775807 : Int) → bif decide ((1 : Int) ≤ c) then bif decide (c ≤ (9999 : Int)) then (1 : Int) = knd c
  else bif decide ((10000 : Int) ≤ c) then bif decide (c ≤ (19999 : Int)) then (2 : Int) = knd c else bif decide ((20000 : Int) < c) then bif decide ((1 : Int) ≤ IntKind.i64.wrap
  ((IntKind.i64.wrap (c - (20000 : Int))).tdiv (100 : Int))) then bif decide (IntKind.i64.wrap ((IntKind.i64.wrap (c - (20000 : Int))).tdiv (100 : Int)) ≤ (20 : Int)) then bif decide
  ((1 : Int) ≤ (IntKind.i64.wrap (c - (20000 : Int))).tmod (100 : Int)) then bif decide ((IntKind.i64.wrap (c - (20000 : Int))).tmod (100 : Int) ≤ (20 : Int)) then (3 : Int) = knd c
  else (0 : Int) = knd c else (0 : Int) = knd c else (0 : Int) = knd c else (0 : Int) = knd c else (0 : Int) = knd c else bif decide ((20000 : Int) < c) then bif decide ((1 : Int) ≤
  IntKind.i64.wrap ((IntKind.i64.wrap (c - (20000 : Int))).tdiv (100 : Int))) then bif decide (IntKind.i64.wrap ((IntKind.i64.wrap (c - (20000 : Int))).tdiv (100 : Int)) ≤ (20 :
  Int)) then bif decide ((1 : Int) ≤ (IntKind.i64.wrap (c - (20000 : Int))).tmod (100 : Int)) then bif decide ((IntKind.i64.wrap (c - (20000 : Int))).tmod (100 : Int) ≤ (20 : Int))
  then (3 : Int) = knd c else (0 : Int) = knd c else (0 : Int) = knd c else (0 : Int) = knd c else (0 : Int) = knd c else (0 : Int) = knd c else bif decide ((10000 : Int) ≤ c) then
  bif decide (c ≤ (19999 : Int)) then (2 : Int) = knd c else bif decide ((20000 : Int) < c) then bif decide ((1 : Int) ≤ IntKind.i64.wrap ((IntKind.i64.wrap (c - (20000 : Int))).tdiv
  (100 : Int))) then bif decide (IntKind.i64.wrap ((IntKind.i64.wrap (c - (20000 : Int))).tdiv (100 : Int)) ≤ (20 : Int)) then bif decide ((1 : Int) ≤ (IntKind.i64.wrap (c - (20000 :
  Int))).tmod (100 : Int)) then bif decide ((IntKind.i64.wrap (c - (20000 : Int))).tmod (100 : Int) ≤ (20 : Int)) then (3 : Int) = knd c else (0 : Int) = knd c else (0 : Int) = knd c
  else (0 : Int) = knd c else (0 : Int) = knd c else (0 : Int) = knd c else bif decide ((20000 : Int) < c) then bif decide ((1 : Int) ≤ IntKind.i64.wrap ((IntKind.i64.wrap (c -
  (20000 : Int))).tdiv (100 : Int))) then bif decide (IntKind.i64.wrap ((IntKind.i64.wrap (c - (20000 : Int))).tdiv (100 : Int)) ≤ (20 : Int)) then bif decide ((1 : Int) ≤
  (IntKind.i64.wrap (c - (20000 : Int))).tmod (100 : Int)) then bif decide ((IntKind.i64.wrap (c - (20000 : Int))).tmod (100 : Int) ≤ (20 : Int)) then (3 : Int) = knd c else (0 :
  Int) = knd c else (0 : Int) = knd c else (0 : Int) = knd c else (0 : Int) = knd c else (0 : Int) = knd c
set_option maxRecDepth 100000 in
theorem tkind_P : tkind_T knd := by
  unfold tkind_T
  intro gl c hc
  by_cases hb : 20000 < c
  · have w1 : IntKind.i64.wrap (c - 20000) = c - 20000 := wrap_eq (by show _ ∧ _; omega)
    have e1 : (c - 20000).tdiv 100 = rpX c := Int.tdiv_eq_ediv_of_nonneg (by omega)
    have e2 : (c - 20000).tmod 100 = rpY c := Int.tmod_eq_emod_of_nonneg (by omega)
    have e3 : rpX c = (c - 20000) / 100 := rfl
    have w2 : IntKind.i64.wrap (rpX c) = rpX c := wrap_eq (by show _ ∧ _; omega)
    simp only [w1, e1, e2, w2]
    refine cs (fun _ => cs (fun _ => by omega) (fun _ => cs (fun _ => cs (fun _ => by omega) (fun _ => cs (fun _ => ?_) (fun _ => by omega))) (fun _ => by omega))) (fun _ => by omega)
    refine cs (fun _ => cs (fun _ => cs (fun _ => cs (fun _ => ?_) (fun _ => ?_)) (fun _ => ?_)) (fun _ => ?_)) (fun _ => ?_)
    all_goals (unfold knd; (repeat' split) <;> omega)
  · have e3 : ¬ (1 ≤ rpX c) ∨ c = 20000 ∨ c < 20000 := by unfold rpX; omega
    have e4 : c = 20000 → rpX c = 0 := by rintro rfl; rfl
    refine cs (fun _ => cs (fun _ => ?_) (fun _ => cs (fun _ => cs (fun _ => ?_) (fun _ => cs (fun _ => by omega) (fun _ => ?_))) (fun _ => by omega))) (fun _ => cs (fun _ => by omega) (fun _ => cs (fun _ => by omega) (fun _ => ?_)))
    all_goals (unfold knd; (repeat' split) <;> omega)
def tkind_S (knd : Int → Int) : Prop := ∀ (gl : Glob) (c : Int), fnK Tryd.prog { glob := gl, spec := lk [], specH := lk [], nowf := true, wrap := true } { nt := 43, drop := drp [(1, 4032), (3, 516096), (5, 33030144), (6, 4398012956672)] } (fun _ _ => none) 6 Tryd.f40 [.int .i64 c] (.int .i64 (knd c))
set_option maxRecDepth 100000 in
theorem tkind_e (knd : Int → Int) : tkind_T knd = tkind_S knd := by kernel_rfl
theorem tkind_v : tkind_S knd := @Eq.mp (tkind_T knd) (tkind_S knd) (tkind_e knd) tkind_P
theorem tkind_ok (gl : Glob) : SOK Tryd.prog gl 40 (tkind_s knd) := by
  refine ⟨fok Tryd.func40 (by kernel_rfl) (by kernel_rfl), ?_⟩
  intro xs pre r h hp
  unfold tkind_s at h
  split at h
  · simp only [Option.some.injEq, Prod.mk.injEq] at h
    obtain ⟨h1, h2⟩ := h
    subst h1 h2
    exact fnK_sound tyNil (by exact specOK rfl rfl trivial trivial) (by kernel_rfl) Tryd.func40 rfl (tkind_v gl _)
  · cases h
def texists_s (okC : Int → Bool) : Sp
  | [.int .i64 c] => some (True, .bool (okC c))
  | _ => none
set_option maxRecDepth 100000 in
def texists_T (okC : Int → Bool) (iL : Int → ByteArray) (inLo : Int → Int) (inHi : Int → Int) (inD : Int → Int) (inE : Int → Int) : Prop :=
  ∀ (c : Int), (-9223372036854775808 : Int) ≤ c ∧ c ≤ (9223372036854775807 : Int) → True ∧ decide (inE c = (0 : Int)) = okC c
set_option maxRecDepth 100000 in
theorem texists_P : texists_T okC iL inLo inHi inD inE := by
  unfold texists_T
  intro c hc
  refine ⟨trivial, ?_⟩
  unfold inE
  cases okC c <;> rfl
def texists_S (okC : Int → Bool) (iL : Int → ByteArray) (inLo : Int → Int) (inHi : Int → Int) (inD : Int → Int) (inE : Int → Int) : Prop := ∀ (c : Int), fnK Tryd.prog { glob := glb, spec := lk [(59, (edesc_s iL inLo inHi inD inE))], specH := lk [], nowf := true } { nt := 12, drop := drp [(1, 1000), (2, 3072)] } (fun _ _ => none) 6 Tryd.f45 [.int .i64 c] (.bool (okC c))
set_option maxRecDepth 100000 in
theorem texists_e (okC : Int → Bool) (iL : Int → ByteArray) (inLo : Int → Int) (inHi : Int → Int) (inD : Int → Int) (inE : Int → Int) : texists_T okC iL inLo inHi inD inE = texists_S okC iL inLo inHi inD inE := by kernel_rfl
theorem texists_v : texists_S okC iL inLo inHi inD inE := @Eq.mp (texists_T okC iL inLo inHi inD inE) (texists_S okC iL inLo inHi inD inE) (texists_e okC iL inLo inHi inD inE) texists_P
theorem texists_ok : SOK Tryd.prog glb 45 (texists_s okC) := by
  refine ⟨fok Tryd.func45 (by kernel_rfl) (by kernel_rfl), ?_⟩
  intro xs pre r h hp
  unfold texists_s at h
  split at h
  · simp only [Option.some.injEq, Prod.mk.injEq] at h
    obtain ⟨h1, h2⟩ := h
    subst h1 h2
    exact fnK_sound tyNil (by exact specOK rfl rfl ⟨(edesc_ok), trivial⟩ trivial) (by kernel_rfl) Tryd.func45 rfl (texists_v  _)
  · cases h
def enV (c w sc l : Int) : Bool := decide (knd c = 1) && decide (2 ≤ w ∧ w ≤ 24) && decide (1 ≤ sc ∧ sc ≤ 1000) && decide (-100000 ≤ l ∧ l ≤ 100000)
theorem enV_iff {c w sc l : Int} : enV c w sc l = true ↔ knd c = 1 ∧ (2 ≤ w ∧ w ≤ 24) ∧ (1 ≤ sc ∧ sc ≤ 1000) ∧ (-100000 ≤ l ∧ l ≤ 100000) := by
  unfold enV
  simp only [Bool.and_eq_true, decide_eq_true_eq]
  constructor
  · rintro ⟨⟨⟨a, b⟩, c⟩, d⟩; exact ⟨a, b, c, d⟩
  · rintro ⟨a, b, c, d⟩; exact ⟨⟨⟨a, b⟩, c⟩, d⟩
def tvalid_s (okC : Int → Bool) (enV : Int → Int → Int → Int → Bool) : Sp
  | [.agg [.int .i64 c, .int .i64 e, .int .i64 w, .int .i64 sc, .int .i64 l]] => some (True, .bool (okC e && enV c w sc l))
  | _ => none
set_option maxRecDepth 100000 in
def tvalid_T (okC : Int → Bool) (enV : Int → Int → Int → Int → Bool) (knd : Int → Int) : Prop :=
  ∀ (c e w sc l : Int), ((-9223372036854775808 : Int) ≤ c ∧ c ≤ (9223372036854775807 : Int)) ∧ ((-9223372036854775808 : Int) ≤ e ∧ e ≤ (9223372036854775807 : Int)) ∧
  ((-9223372036854775808 : Int) ≤ w ∧ w ≤ (9223372036854775807 : Int)) ∧ ((-9223372036854775808 : Int) ≤ sc ∧ sc ≤ (9223372036854775807 : Int)) ∧ ((-9223372036854775808 : Int) ≤ l ∧
  l ≤ (9223372036854775807 : Int)) ∧ True → True ∧ bif decide (knd c = (1 : Int)) then True ∧ bif okC e then bif decide ((2 : Int) ≤ w) then bif decide (w ≤ (24 : Int)) then bif
  decide ((1 : Int) ≤ sc) then bif decide (sc ≤ (1000 : Int)) then bif decide ((-100000 : Int) ≤ l) then decide (l ≤ (100000 : Int)) = (okC e && enV c w sc l) else false = (okC e &&
  enV c w sc l) else false = (okC e && enV c w sc l) else false = (okC e && enV c w sc l) else false = (okC e && enV c w sc l) else false = (okC e && enV c w sc l) else false = (okC
  e && enV c w sc l) else false = (okC e && enV c w sc l)
set_option maxRecDepth 100000 in
theorem tvalid_P : tvalid_T okC enV knd := by
  unfold tvalid_T
  intro c e w sc l h
  refine ⟨trivial, cs (fun _ => ⟨trivial, csplit (fun he => ?_) (fun he => by rw [he]; rfl)⟩) (fun hk => ?_)⟩
  · rw [he, Bool.true_and]
    refine cs (fun _ => cs (fun _ => cs (fun _ => cs (fun _ => cs (fun _ => ?_) (fun _ => ?_)) (fun _ => ?_)) (fun _ => ?_)) (fun _ => ?_)) (fun _ => ?_)
    · exact Bool.eq_iff_iff.2 (by rw [enV_iff, decide_eq_true_eq]; constructor <;> intro _ <;> (try omega) <;> (refine ⟨?_, ?_, ?_, ?_⟩ <;> omega))
    all_goals (refine (Bool.eq_false_iff.2 fun hh => ?_).symm; have := enV_iff.1 hh; omega)
  · have : enV c w sc l = false := Bool.eq_false_iff.2 fun hh => hk (enV_iff.1 hh).1
    rw [this, Bool.and_false]
def tvalid_S (okC : Int → Bool) (enV : Int → Int → Int → Int → Bool) (knd : Int → Int) : Prop := ∀ (c e w sc l : Int), fnK Tryd.prog { glob := glb, spec := lk [(55, (tof_s knd)), (45, (texists_s okC))], specH := lk [], nowf := true } { nt := 42, drop := drp [(1, 4398046511096)] } (fun _ _ => none) 6 Tryd.f34 [.agg [.int .i64 c, .int .i64 e, .int .i64 w, .int .i64 sc, .int .i64 l]] (.bool (okC e && enV c w sc l))
set_option maxRecDepth 100000 in
theorem tvalid_e (okC : Int → Bool) (enV : Int → Int → Int → Int → Bool) (knd : Int → Int) : tvalid_T okC enV knd = tvalid_S okC enV knd := by kernel_rfl
theorem tvalid_v : tvalid_S okC enV knd := @Eq.mp (tvalid_T okC enV knd) (tvalid_S okC enV knd) (tvalid_e okC enV knd) tvalid_P
theorem tvalid_ok : SOK Tryd.prog glb 34 (tvalid_s okC enV) := by
  refine ⟨fok Tryd.func34 (by kernel_rfl) (by kernel_rfl), ?_⟩
  intro xs pre r h hp
  unfold tvalid_s at h
  split at h
  · simp only [Option.some.injEq, Prod.mk.injEq] at h
    obtain ⟨h1, h2⟩ := h
    subst h1 h2
    exact fnK_sound tyNil (by exact specOK rfl rfl ⟨(tof_ok glb), (texists_ok), trivial⟩ trivial) (by kernel_rfl) Tryd.func34 rfl (tvalid_v  _ _ _ _ _)
  · cases h
def rvalidE_s (enV : Int → Int → Int → Int → Bool) : Sp
  | [.agg [.int .i64 c, .int .i64 e, .int .i64 w, .int .i64 sc, .int .i64 l]] => some (True, .bool (enV c w sc l))
  | _ => none
set_option maxRecDepth 100000 in
def rvalidE_T (enV : Int → Int → Int → Int → Bool) (knd : Int → Int) : Prop :=
  ∀ (gl : Glob) (c e w sc l : Int), ((-9223372036854775808 : Int) ≤ c ∧ c ≤ (9223372036854775807 : Int)) ∧ ((-9223372036854775808 : Int) ≤ e ∧ e ≤ (9223372036854775807 : Int)) ∧
  ((-9223372036854775808 : Int) ≤ w ∧ w ≤ (9223372036854775807 : Int)) ∧ ((-9223372036854775808 : Int) ≤ sc ∧ sc ≤ (9223372036854775807 : Int)) ∧ ((-9223372036854775808 : Int) ≤ l ∧
  l ≤ (9223372036854775807 : Int)) ∧ True → True ∧ bif decide (knd c = (1 : Int)) then bif decide ((2 : Int) ≤ w) then bif decide (w ≤ (24 : Int)) then bif decide ((1 : Int) ≤ sc)
  then bif decide (sc ≤ (1000 : Int)) then bif decide ((-100000 : Int) ≤ l) then decide (l ≤ (100000 : Int)) = enV c w sc l else false = enV c w sc l else false = enV c w sc l else
  false = enV c w sc l else false = enV c w sc l else false = enV c w sc l else false = enV c w sc l
set_option maxRecDepth 100000 in
theorem rvalidE_P : rvalidE_T enV knd := by
  unfold rvalidE_T
  intro gl c e w sc l h
  refine ⟨trivial, cs (fun _ => cs (fun _ => cs (fun _ => cs (fun _ => cs (fun _ => cs (fun _ => ?_) (fun _ => ?_)) (fun _ => ?_)) (fun _ => ?_)) (fun _ => ?_)) (fun _ => ?_)) (fun _ => ?_)⟩
  · exact Bool.eq_iff_iff.2 (by rw [enV_iff, decide_eq_true_eq]; constructor <;> intro _ <;> (try omega) <;> (refine ⟨?_, ?_, ?_, ?_⟩ <;> omega))
  all_goals (refine (Bool.eq_false_iff.2 fun hh => ?_).symm; have := enV_iff.1 hh; omega)
def rvalidE_S (enV : Int → Int → Int → Int → Bool) (knd : Int → Int) : Prop := ∀ (gl : Glob) (c e w sc l : Int), fnK Tryd.prog { glob := gl, spec := lk [(40, (tkind_s knd))], specH := lk [], nowf := true } { nt := 37, drop := drp [(1, 137438953464)] } (fun _ _ => none) 6 Tryd.f39 [.agg [.int .i64 c, .int .i64 e, .int .i64 w, .int .i64 sc, .int .i64 l]] (.bool (enV c w sc l))
set_option maxRecDepth 100000 in
theorem rvalidE_e (enV : Int → Int → Int → Int → Bool) (knd : Int → Int) : rvalidE_T enV knd = rvalidE_S enV knd := by kernel_rfl
theorem rvalidE_v : rvalidE_S enV knd := @Eq.mp (rvalidE_T enV knd) (rvalidE_S enV knd) (rvalidE_e enV knd) rvalidE_P
theorem rvalidE_ok (gl : Glob) : SOK Tryd.prog gl 39 (rvalidE_s enV) := by
  refine ⟨fok Tryd.func39 (by kernel_rfl) (by kernel_rfl), ?_⟩
  intro xs pre r h hp
  unfold rvalidE_s at h
  split at h
  · simp only [Option.some.injEq, Prod.mk.injEq] at h
    obtain ⟨h1, h2⟩ := h
    subst h1 h2
    exact fnK_sound tyNil (by exact specOK rfl rfl ⟨(tkind_ok gl), trivial⟩ trivial) (by kernel_rfl) Tryd.func39 rfl (rvalidE_v gl _ _ _ _ _)
  · cases h
def rventry_s (okC : Int → Bool) (enV : Int → Int → Int → Int → Bool) : Sp
  | [.agg [.int .i64 c, .int .i64 e, .int .i64 w, .int .i64 sc, .int .i64 l]] => some (True, .bool (okC e && enV c w sc l))
  | _ => none
set_option maxRecDepth 100000 in
def rventry_T (okC : Int → Bool) (enV : Int → Int → Int → Int → Bool) (iL : Int → ByteArray) (inLo : Int → Int) (inHi : Int → Int) (inD : Int → Int) (inE : Int → Int) : Prop :=
  ∀ (c e w sc l : Int), ((-9223372036854775808 : Int) ≤ c ∧ c ≤ (9223372036854775807 : Int)) ∧ ((-9223372036854775808 : Int) ≤ e ∧ e ≤ (9223372036854775807 : Int)) ∧
  ((-9223372036854775808 : Int) ≤ w ∧ w ≤ (9223372036854775807 : Int)) ∧ ((-9223372036854775808 : Int) ≤ sc ∧ sc ≤ (9223372036854775807 : Int)) ∧ ((-9223372036854775808 : Int) ≤ l ∧
  l ≤ (9223372036854775807 : Int)) ∧ True → True ∧ bif decide (inE e = (0 : Int)) then True ∧ enV c w sc l = (okC e && enV c w sc l) else false = (okC e && enV c w sc l)
set_option maxRecDepth 100000 in
theorem rventry_P : rventry_T okC enV iL inLo inHi inD inE := by
  unfold rventry_T
  intro c e w sc l h
  refine ⟨trivial, cs (fun q => ⟨trivial, ?_⟩) (fun q => ?_)⟩
  · have : okC e = true := by
      unfold inE at q
      cases hk : okC e with
      | true => rfl
      | false => rw [hk] at q; cases q
    rw [this, Bool.true_and]
  · have : okC e = false := by
      unfold inE at q
      cases hk : okC e with
      | false => rfl
      | true => rw [hk] at q; exact absurd rfl q
    rw [this, Bool.false_and]
def rventry_S (okC : Int → Bool) (enV : Int → Int → Int → Int → Bool) (iL : Int → ByteArray) (inLo : Int → Int) (inHi : Int → Int) (inD : Int → Int) (inE : Int → Int) : Prop := ∀ (c e w sc l : Int), fnK Tryd.prog { glob := glb, spec := lk [(39, (rvalidE_s enV)), (29, (rdesc_s iL inLo inHi inD inE))], specH := lk [], nowf := true } { nt := 17, drop := drp [(1, 2024), (2, 129024)] } (fun _ _ => none) 6 Tryd.f36 [.agg [.int .i64 c, .int .i64 e, .int .i64 w, .int .i64 sc, .int .i64 l]] (.bool (okC e && enV c w sc l))
set_option maxRecDepth 100000 in
theorem rventry_e (okC : Int → Bool) (enV : Int → Int → Int → Int → Bool) (iL : Int → ByteArray) (inLo : Int → Int) (inHi : Int → Int) (inD : Int → Int) (inE : Int → Int) : rventry_T okC enV iL inLo inHi inD inE = rventry_S okC enV iL inLo inHi inD inE := by kernel_rfl
theorem rventry_v : rventry_S okC enV iL inLo inHi inD inE := @Eq.mp (rventry_T okC enV iL inLo inHi inD inE) (rventry_S okC enV iL inLo inHi inD inE) (rventry_e okC enV iL inLo inHi inD inE) rventry_P
theorem rventry_ok : SOK Tryd.prog glb 36 (rventry_s okC enV) := by
  refine ⟨fok Tryd.func36 (by kernel_rfl) (by kernel_rfl), ?_⟩
  intro xs pre r h hp
  unfold rventry_s at h
  split at h
  · simp only [Option.some.injEq, Prod.mk.injEq] at h
    obtain ⟨h1, h2⟩ := h
    subst h1 h2
    exact fnK_sound tyNil (by exact specOK rfl rfl ⟨(rvalidE_ok glb), (rdesc_ok glb), trivial⟩ trivial) (by kernel_rfl) Tryd.func36 rfl (rventry_v  _ _ _ _ _)
  · cases h
def lastV (w : Int) : Int := 2 ^ w.toNat - 2
def encB (c e w sc l v : Int) : Bool := (okC e && enV c w sc l) && decide (l ≤ v) && decide (v < l + sc * (lastV w + 1))
def encN (c e w sc l v : Int) : Int := if encB c e w sc l v then (v - l) / sc else 0
def encE (c e w sc l v : Int) : Int := if encB c e w sc l v then 0 else 1
theorem lastV_rng {w : Int} (h1 : 2 ≤ w) (h2 : w ≤ 24) : 2 ≤ lastV w ∧ lastV w ≤ 16777214 := by
  have : ∀ k : Nat, 2 ≤ k → k ≤ 24 → (4 : Int) ≤ 2 ^ k ∧ (2 : Int) ^ k ≤ 16777216 := by
    intro k h1 h2
    have : k = 2 ∨ k = 3 ∨ k = 4 ∨ k = 5 ∨ k = 6 ∨ k = 7 ∨ k = 8 ∨ k = 9 ∨ k = 10 ∨ k = 11 ∨ k = 12 ∨ k = 13 ∨ k = 14 ∨ k = 15 ∨ k = 16 ∨ k = 17 ∨ k = 18 ∨ k = 19 ∨ k = 20 ∨ k = 21 ∨ k = 22 ∨ k = 23 ∨ k = 24 := by omega
    rcases this with rfl | rfl | rfl | rfl | rfl | rfl | rfl | rfl | rfl | rfl | rfl | rfl | rfl | rfl | rfl | rfl | rfl | rfl | rfl | rfl | rfl | rfl | rfl <;> decide
  have h := this w.toNat (by omega) (by omega)
  unfold lastV
  omega
theorem mul_rng {a b : Int} (h1 : 0 ≤ a) (h2 : a ≤ 1000) (h3 : 0 ≤ b) (h4 : b ≤ 16777216) : 0 ≤ a * b ∧ a * b ≤ 16777216000 := by
  refine ⟨Int.mul_nonneg h1 h3, ?_⟩
  have := Int.mul_le_mul h2 h4 h3 (by decide : (0 : Int) ≤ 1000)
  omega
theorem enc_no {c e w sc l v : Int} (h : encB c e w sc l v = false) : 0 = encN c e w sc l v ∧ 1 = encE c e w sc l v ∧ True := by
  unfold encN encE; rw [h]; exact ⟨rfl, rfl, trivial⟩
def tlast_s (lastV : Int → Int) : Sp
  | [.agg [.int .i64 c, .int .i64 e, .int .i64 w, .int .i64 sc, .int .i64 l]] => some (2 ≤ w ∧ w ≤ 24, .int .i64 (lastV w))
  | _ => none
set_option maxRecDepth 100000 in
def tlast_T (lastV : Int → Int) : Prop :=
  ∀ (gl : Glob) (c e w sc l : Int), (2 : Int) ≤ w ∧ w ≤ (24 : Int) → ((-9223372036854775808 : Int) ≤ c ∧ c ≤ (9223372036854775807 : Int)) ∧ ((-9223372036854775808 : Int) ≤ e ∧ e ≤
  (9223372036854775807 : Int)) ∧ ((-9223372036854775808 : Int) ≤ w ∧ w ≤ (9223372036854775807 : Int)) ∧ ((-9223372036854775808 : Int) ≤ sc ∧ sc ≤ (9223372036854775807 : Int)) ∧
  ((-9223372036854775808 : Int) ≤ l ∧ l ≤ (9223372036854775807 : Int)) ∧ True → bif decide ((0 : Int) ≤ w) then bif decide (rng IntKind.i64 ((1 : Int) * (2 : Int) ^ min w.toNat (64 :
  Nat))) then bif decide (rng IntKind.i64 ((1 : Int) * (2 : Int) ^ min w.toNat (64 : Nat) - (2 : Int))) then (1 : Int) * (2 : Int) ^ min w.toNat (64 : Nat) - (2 : Int) = lastV w else
  False else False else False
set_option maxRecDepth 100000 in
theorem tlast_P : tlast_T lastV := by
  unfold tlast_T
  intro gl c e w sc l hw _
  have e1 : (1 : Int) * 2 ^ min w.toNat 64 = lastV w + 2 := by
    rw [Int.one_mul, show min w.toNat 64 = w.toNat by omega]; unfold lastV; omega
  obtain ⟨b1, b2⟩ := lastV_rng hw.1 hw.2
  rw [e1]
  exact cd1 (by omega) (cdI (by omega) (cdI (by omega) (by omega)))
def tlast_S (lastV : Int → Int) : Prop := ∀ (gl : Glob) (c e w sc l : Int), 2 ≤ w ∧ w ≤ 24 → fnK Tryd.prog { glob := gl, spec := lk [], specH := lk [], nowf := true } { nt := 7, drop := drp [(1, 120)] } (fun _ _ => none) 6 Tryd.f35 [.agg [.int .i64 c, .int .i64 e, .int .i64 w, .int .i64 sc, .int .i64 l]] (.int .i64 (lastV w))
set_option maxRecDepth 100000 in
theorem tlast_e (lastV : Int → Int) : tlast_T lastV = tlast_S lastV := by kernel_rfl
theorem tlast_v : tlast_S lastV := @Eq.mp (tlast_T lastV) (tlast_S lastV) (tlast_e lastV) tlast_P
theorem tlast_ok (gl : Glob) : SOK Tryd.prog gl 35 (tlast_s lastV) := by
  refine ⟨fok Tryd.func35 (by kernel_rfl) (by kernel_rfl), ?_⟩
  intro xs pre r h hp
  unfold tlast_s at h
  split at h
  · simp only [Option.some.injEq, Prod.mk.injEq] at h
    obtain ⟨h1, h2⟩ := h
    subst h1 h2
    exact fnK_sound tyNil (by exact specOK rfl rfl trivial trivial) (by kernel_rfl) Tryd.func35 rfl (tlast_v gl _ _ _ _ _ hp)
  · cases h
def tencode_s (encN : Int → Int → Int → Int → Int → Int → Int) (encE : Int → Int → Int → Int → Int → Int → Int) : Sp
  | [.agg [.int .i64 c, .int .i64 e, .int .i64 w, .int .i64 sc, .int .i64 l], .int .i64 v] => some (True, .tup [.int .i64 (encN c e w sc l v), .int .i64 (encE c e w sc l v)])
  | _ => none
set_option maxRecDepth 100000 in
def tencode_T (encN : Int → Int → Int → Int → Int → Int → Int) (encE : Int → Int → Int → Int → Int → Int → Int) (okC : Int → Bool) (enV : Int → Int → Int → Int → Bool) (lastV : Int → Int) : Prop :=
  ∀ (c e w sc l v : Int), ((-9223372036854775808 : Int) ≤ c ∧ c ≤ (9223372036854775807 : Int)) ∧ ((-9223372036854775808 : Int) ≤ e ∧ e ≤ (9223372036854775807 : Int)) ∧
  ((-9223372036854775808 : Int) ≤ w ∧ w ≤ (9223372036854775807 : Int)) ∧ ((-9223372036854775808 : Int) ≤ sc ∧ sc ≤ (9223372036854775807 : Int)) ∧ ((-9223372036854775808 : Int) ≤ l ∧
  l ≤ (9223372036854775807 : Int)) ∧ True → (-9223372036854775808 : Int) ≤ v ∧ v ≤ (9223372036854775807 : Int) → True ∧ bif !(okC e && enV c w sc l) then (0 : Int) = encN c e w sc l
  v ∧ (1 : Int) = encE c e w sc l v ∧ True else bif decide (v < l) then (0 : Int) = encN c e w sc l v ∧ (1 : Int) = encE c e w sc l v ∧ True else ((2 : Int) ≤ w ∧ w ≤ (24 : Int)) ∧
  bif decide (rng IntKind.i64 (lastV w + (1 : Int))) then bif decide (rng IntKind.i64 (sc * (lastV w + (1 : Int)))) then bif decide (rng IntKind.i64 (l + sc * (lastV w + (1 : Int))))
  then bif decide (l + sc * (lastV w + (1 : Int)) ≤ v) then (0 : Int) = encN c e w sc l v ∧ (1 : Int) = encE c e w sc l v ∧ True else bif decide (rng IntKind.i64 (v - l)) then bif
  decide ¬sc = (0 : Int) then bif decide (rng IntKind.i64 ((v - l).tdiv sc)) then (v - l).tdiv sc = encN c e w sc l v ∧ (0 : Int) = encE c e w sc l v ∧ True else False else False
  else False else False else False else False
set_option maxRecDepth 100000 in
theorem tencode_P : tencode_T encN encE okC enV lastV := by
  unfold tencode_T
  intro c e w sc l v h hv
  refine ⟨trivial, csplit (fun q => ?_) (fun q => cs (fun hl => ?_) (fun hl => ?_))⟩
  · have q : (okC e && enV c w sc l) = false := by
      cases hb : (okC e && enV c w sc l) with
      | false => rfl
      | true => rw [hb] at q; cases q
    exact enc_no (by unfold encB; rw [q]; rfl)
  · exact enc_no (by unfold encB; rw [decide_eq_false (show ¬ l ≤ v by omega), Bool.and_false, Bool.false_and])
  have q : (okC e && enV c w sc l) = true := by simpa using q
  have q2 := enV_iff.1 (Bool.and_eq_true_iff.1 q).2
  obtain ⟨b1, b2⟩ := lastV_rng (w := w) (by omega) (by omega)
  have b3 := mul_rng (a := sc) (b := lastV w + 1) (by omega) (by omega) (by omega) (by omega)
  refine ⟨by omega, cdI (by omega) (cdI (by omega) (cdI (by omega) (cs (fun h2 => ?_) (fun h2 => cdI (by omega) (cd1 (by omega) ?_)))))⟩
  · exact enc_no (by unfold encB; rw [decide_eq_false (show ¬ v < l + sc * (lastV w + 1) by omega), Bool.and_false])
  · have hb : encB c e w sc l v = true := by unfold encB; rw [q, decide_eq_true (show l ≤ v by omega), decide_eq_true (show v < l + sc * (lastV w + 1) by omega)]; rfl
    have e1 : (v - l).tdiv sc = (v - l) / sc := Int.tdiv_eq_ediv_of_nonneg (by omega)
    rw [e1]
    have d0 : 0 ≤ (v - l) / sc := Int.ediv_nonneg (by omega) (by omega)
    have d1 : (v - l) / sc ≤ v - l := Int.ediv_le_self _ (by omega)
    refine cdI (by omega) ?_
    unfold encN encE
    rw [hb]
    exact ⟨rfl, rfl, trivial⟩
def tencode_S (encN : Int → Int → Int → Int → Int → Int → Int) (encE : Int → Int → Int → Int → Int → Int → Int) (okC : Int → Bool) (enV : Int → Int → Int → Int → Bool) (lastV : Int → Int) : Prop := ∀ (c e w sc l v : Int), fnK Tryd.prog { glob := glb, spec := lk [(34, (tvalid_s okC enV)), (35, (tlast_s lastV))], specH := lk [], nowf := true } { nt := 35, drop := drp [(1, 134217664), (3, 34091302912)] } (fun _ _ => none) 6 Tryd.f12 [.agg [.int .i64 c, .int .i64 e, .int .i64 w, .int .i64 sc, .int .i64 l], .int .i64 v] (.tup [.int .i64 (encN c e w sc l v), .int .i64 (encE c e w sc l v)])
set_option maxRecDepth 100000 in
theorem tencode_e (encN : Int → Int → Int → Int → Int → Int → Int) (encE : Int → Int → Int → Int → Int → Int → Int) (okC : Int → Bool) (enV : Int → Int → Int → Int → Bool) (lastV : Int → Int) : tencode_T encN encE okC enV lastV = tencode_S encN encE okC enV lastV := by kernel_rfl
theorem tencode_v : tencode_S encN encE okC enV lastV := @Eq.mp (tencode_T encN encE okC enV lastV) (tencode_S encN encE okC enV lastV) (tencode_e encN encE okC enV lastV) tencode_P
theorem tencode_ok : SOK Tryd.prog glb 12 (tencode_s encN encE) := by
  refine ⟨fok Tryd.func12 (by kernel_rfl) (by kernel_rfl), ?_⟩
  intro xs pre r h hp
  unfold tencode_s at h
  split at h
  · simp only [Option.some.injEq, Prod.mk.injEq] at h
    obtain ⟨h1, h2⟩ := h
    subst h1 h2
    exact fnK_sound tyNil (by exact specOK rfl rfl ⟨(tvalid_ok), (tlast_ok glb), trivial⟩ trivial) (by kernel_rfl) Tryd.func12 rfl (tencode_v  _ _ _ _ _ _)
  · cases h
def rencode_s (encN : Int → Int → Int → Int → Int → Int → Int) (encE : Int → Int → Int → Int → Int → Int → Int) : Sp
  | [.agg [.int .i64 c, .int .i64 e, .int .i64 w, .int .i64 sc, .int .i64 l], .int .i64 v] => some (True, .tup [.int .i64 (encN c e w sc l v), .int .i64 (encE c e w sc l v)])
  | _ => none
set_option maxRecDepth 100000 in
def rencode_T (encN : Int → Int → Int → Int → Int → Int → Int) (encE : Int → Int → Int → Int → Int → Int → Int) (okC : Int → Bool) (enV : Int → Int → Int → Int → Bool) : Prop :=
  ∀ (c e w sc l v : Int), ((-9223372036854775808 : Int) ≤ c ∧ c ≤ (9223372036854775807 : Int)) ∧ ((-9223372036854775808 : Int) ≤ e ∧ e ≤ (9223372036854775807 : Int)) ∧
  ((-9223372036854775808 : Int) ≤ w ∧ w ≤ (9223372036854775807 : Int)) ∧ ((-9223372036854775808 : Int) ≤ sc ∧ sc ≤ (9223372036854775807 : Int)) ∧ ((-9223372036854775808 : Int) ≤ l ∧
  l ≤ (9223372036854775807 : Int)) ∧ True → (-9223372036854775808 : Int) ≤ v ∧ v ≤ (9223372036854775807 : Int) → True ∧ bif !(okC e && enV c w sc l) then (0 : Int) = encN c e w sc l
  v ∧ (1 : Int) = encE c e w sc l v ∧ True else bif decide (v < l) then (0 : Int) = encN c e w sc l v ∧ (1 : Int) = encE c e w sc l v ∧ True else bif decide ((1099511627776 : Int) <
  v) then (0 : Int) = encN c e w sc l v ∧ (1 : Int) = encE c e w sc l v ∧ True else bif decide (rng IntKind.i64 (v - l)) then bif decide ¬sc = (0 : Int) then bif decide (rng
  IntKind.i64 ((v - l).tdiv sc)) then bif decide ((0 : Int) ≤ IntKind.u64.wrap w) then bif decide (rng IntKind.i64 ((1 : Int) * (2 : Int) ^ min (IntKind.u64.wrap w).toNat (64 :
  Nat))) then bif decide (rng IntKind.i64 ((1 : Int) * (2 : Int) ^ min (IntKind.u64.wrap w).toNat (64 : Nat) - (2 : Int))) then bif decide ((1 : Int) * (2 : Int) ^ min
  (IntKind.u64.wrap w).toNat (64 : Nat) - (2 : Int) < (v - l).tdiv sc) then (0 : Int) = encN c e w sc l v ∧ (1 : Int) = encE c e w sc l v ∧ True else (v - l).tdiv sc = encN c e w sc
  l v ∧ (0 : Int) = encE c e w sc l v ∧ True else False else False else False else False else False else False
set_option maxRecDepth 100000 in
theorem rencode_P : rencode_T encN encE okC enV := by
  unfold rencode_T
  intro c e w sc l v h hv
  refine ⟨trivial, csplit (fun q => ?_) (fun q => cs (fun hl => ?_) (fun hl => ?_))⟩
  · have q : (okC e && enV c w sc l) = false := by
      cases hb : (okC e && enV c w sc l) with
      | false => rfl
      | true => rw [hb] at q; cases q
    exact enc_no (by unfold encB; rw [q]; rfl)
  · exact enc_no (by unfold encB; rw [decide_eq_false (show ¬ l ≤ v by omega), Bool.and_false, Bool.false_and])
  have q : (okC e && enV c w sc l) = true := by simpa using q
  have q2 := enV_iff.1 (Bool.and_eq_true_iff.1 q).2
  obtain ⟨b1, b2⟩ := lastV_rng (w := w) (by omega) (by omega)
  have b3 := mul_rng (a := sc) (b := lastV w + 1) (by omega) (by omega) (by omega) (by omega)
  have ew : IntKind.u64.wrap w = w := wrap_eq (by show _ ∧ _; omega)
  have e1 : (v - l).tdiv sc = (v - l) / sc := Int.tdiv_eq_ediv_of_nonneg (by omega)
  have e2 : (1 : Int) * 2 ^ min w.toNat 64 = lastV w + 2 := by
    rw [Int.one_mul, show min w.toNat 64 = w.toNat by omega]; unfold lastV; omega
  have d0 : 0 ≤ (v - l) / sc := Int.ediv_nonneg (by omega) (by omega)
  have d1 : (v - l) / sc ≤ v - l := Int.ediv_le_self _ (by omega)
  have d2 : (v - l) / sc < lastV w + 1 ↔ v - l < (lastV w + 1) * sc := Int.ediv_lt_iff_lt_mul (by omega)
  rw [Int.mul_comm (lastV w + 1) sc] at d2
  rw [ew, e1, e2]
  refine cs (fun h2 => ?_) (fun h2 => cdI (by omega) (cd1 (by omega) (cdI (by omega) (cd1 (by omega) (cdI (by omega) (cdI (by omega) (cs (fun h3 => ?_) (fun h3 => ?_))))))))
  · exact enc_no (by unfold encB; rw [decide_eq_false (show ¬ v < l + sc * (lastV w + 1) by omega), Bool.and_false])
  · exact enc_no (by unfold encB; rw [decide_eq_false (show ¬ v < l + sc * (lastV w + 1) by omega), Bool.and_false])
  · have hb : encB c e w sc l v = true := by unfold encB; rw [q, decide_eq_true (show l ≤ v by omega), decide_eq_true (show v < l + sc * (lastV w + 1) by omega)]; rfl
    unfold encN encE
    rw [hb]
    exact ⟨rfl, rfl, trivial⟩
def rencode_S (encN : Int → Int → Int → Int → Int → Int → Int) (encE : Int → Int → Int → Int → Int → Int → Int) (okC : Int → Bool) (enV : Int → Int → Int → Int → Bool) : Prop := ∀ (c e w sc l v : Int), fnK Tryd.prog { glob := glb, spec := lk [(36, (rventry_s okC enV))], specH := lk [], nowf := true } { nt := 35, drop := drp [(1, 524160), (3, 133169152), (4, 8455716864), (6, 17179869184)] } (fun _ _ => none) 6 Tryd.f13 [.agg [.int .i64 c, .int .i64 e, .int .i64 w, .int .i64 sc, .int .i64 l], .int .i64 v] (.tup [.int .i64 (encN c e w sc l v), .int .i64 (encE c e w sc l v)])
set_option maxRecDepth 100000 in
theorem rencode_e (encN : Int → Int → Int → Int → Int → Int → Int) (encE : Int → Int → Int → Int → Int → Int → Int) (okC : Int → Bool) (enV : Int → Int → Int → Int → Bool) : rencode_T encN encE okC enV = rencode_S encN encE okC enV := by kernel_rfl
theorem rencode_v : rencode_S encN encE okC enV := @Eq.mp (rencode_T encN encE okC enV) (rencode_S encN encE okC enV) (rencode_e encN encE okC enV) rencode_P
theorem rencode_ok : SOK Tryd.prog glb 13 (rencode_s encN encE) := by
  refine ⟨fok Tryd.func13 (by kernel_rfl) (by kernel_rfl), ?_⟩
  intro xs pre r h hp
  unfold rencode_s at h
  split at h
  · simp only [Option.some.injEq, Prod.mk.injEq] at h
    obtain ⟨h1, h2⟩ := h
    subst h1 h2
    exact fnK_sound tyNil (by exact specOK rfl rfl ⟨(rventry_ok), trivial⟩ trivial) (by kernel_rfl) Tryd.func13 rfl (rencode_v  _ _ _ _ _ _)
  · cases h
def decB (c e w sc l n : Int) : Bool := (okC e && enV c w sc l) && decide (0 ≤ n) && decide (n ≤ lastV w)
def decV (c e w sc l n : Int) : Int := if decB c e w sc l n then l + sc * n else 0
theorem dec_no {c e w sc l n : Int} (h : decB c e w sc l n = false) : 0 = decV c e w sc l n ∧ false = decB c e w sc l n ∧ True := by
  unfold decV; rw [h]; exact ⟨rfl, rfl, trivial⟩
def tdecode_s (decV : Int → Int → Int → Int → Int → Int → Int) (decB : Int → Int → Int → Int → Int → Int → Bool) : Sp
  | [.agg [.int .i64 c, .int .i64 e, .int .i64 w, .int .i64 sc, .int .i64 l], .int .i64 n] => some (True, .tup [.int .i64 (decV c e w sc l n), .bool (decB c e w sc l n)])
  | _ => none
set_option maxRecDepth 100000 in
def tdecode_T (decV : Int → Int → Int → Int → Int → Int → Int) (decB : Int → Int → Int → Int → Int → Int → Bool) (okC : Int → Bool) (enV : Int → Int → Int → Int → Bool) (lastV : Int → Int) : Prop :=
  ∀ (c e w sc l n : Int), ((-9223372036854775808 : Int) ≤ c ∧ c ≤ (9223372036854775807 : Int)) ∧ ((-9223372036854775808 : Int) ≤ e ∧ e ≤ (9223372036854775807 : Int)) ∧
  ((-9223372036854775808 : Int) ≤ w ∧ w ≤ (9223372036854775807 : Int)) ∧ ((-9223372036854775808 : Int) ≤ sc ∧ sc ≤ (9223372036854775807 : Int)) ∧ ((-9223372036854775808 : Int) ≤ l ∧
  l ≤ (9223372036854775807 : Int)) ∧ True → (-9223372036854775808 : Int) ≤ n ∧ n ≤ (9223372036854775807 : Int) → True ∧ bif !(okC e && enV c w sc l) then (0 : Int) = decV c e w sc l
  n ∧ false = decB c e w sc l n ∧ True else bif decide (n < (0 : Int)) then (0 : Int) = decV c e w sc l n ∧ false = decB c e w sc l n ∧ True else ((2 : Int) ≤ w ∧ w ≤ (24 : Int)) ∧
  bif decide (lastV w < n) then (0 : Int) = decV c e w sc l n ∧ false = decB c e w sc l n ∧ True else bif decide (rng IntKind.i64 (sc * n)) then bif decide (rng IntKind.i64 (l + sc *
  n)) then l + sc * n = decV c e w sc l n ∧ true = decB c e w sc l n ∧ True else False else False
set_option maxRecDepth 100000 in
theorem tdecode_P : tdecode_T decV decB okC enV lastV := by
  unfold tdecode_T
  intro c e w sc l n h hn
  refine ⟨trivial, csplit (fun q => ?_) (fun q => cs (fun hl => ?_) (fun hl => ?_))⟩
  · have q : (okC e && enV c w sc l) = false := by
      cases hb : (okC e && enV c w sc l) with
      | false => rfl
      | true => rw [hb] at q; cases q
    exact dec_no (by unfold decB; rw [q]; rfl)
  · exact dec_no (by unfold decB; rw [decide_eq_false (show ¬ 0 ≤ n by omega), Bool.and_false, Bool.false_and])
  have q : (okC e && enV c w sc l) = true := by simpa using q
  have q2 := enV_iff.1 (Bool.and_eq_true_iff.1 q).2
  obtain ⟨b1, b2⟩ := lastV_rng (w := w) (by omega) (by omega)
  refine ⟨by omega, cs (fun h2 => ?_) (fun h2 => ?_)⟩
  · exact dec_no (by unfold decB; rw [decide_eq_false (show ¬ n ≤ lastV w by omega), Bool.and_false])
  · have b3 := mul_rng (a := sc) (b := n) (by omega) (by omega) (by omega) (by omega)
    have hb : decB c e w sc l n = true := by unfold decB; rw [q, decide_eq_true (show 0 ≤ n by omega), decide_eq_true (show n ≤ lastV w by omega)]; rfl
    refine cdI (by omega) (cdI (by omega) ?_)
    unfold decV
    rw [hb]
    exact ⟨rfl, rfl, trivial⟩
def tdecode_S (decV : Int → Int → Int → Int → Int → Int → Int) (decB : Int → Int → Int → Int → Int → Int → Bool) (okC : Int → Bool) (enV : Int → Int → Int → Int → Bool) (lastV : Int → Int) : Prop := ∀ (c e w sc l n : Int), fnK Tryd.prog { glob := glb, spec := lk [(34, (tvalid_s okC enV)), (35, (tlast_s lastV))], specH := lk [], nowf := true } { nt := 26, drop := drp [(1, 262080), (3, 66584576)] } (fun _ _ => none) 6 Tryd.f14 [.agg [.int .i64 c, .int .i64 e, .int .i64 w, .int .i64 sc, .int .i64 l], .int .i64 n] (.tup [.int .i64 (decV c e w sc l n), .bool (decB c e w sc l n)])
set_option maxRecDepth 100000 in
theorem tdecode_e (decV : Int → Int → Int → Int → Int → Int → Int) (decB : Int → Int → Int → Int → Int → Int → Bool) (okC : Int → Bool) (enV : Int → Int → Int → Int → Bool) (lastV : Int → Int) : tdecode_T decV decB okC enV lastV = tdecode_S decV decB okC enV lastV := by kernel_rfl
theorem tdecode_v : tdecode_S decV decB okC enV lastV := @Eq.mp (tdecode_T decV decB okC enV lastV) (tdecode_S decV decB okC enV lastV) (tdecode_e decV decB okC enV lastV) tdecode_P
theorem tdecode_ok : SOK Tryd.prog glb 14 (tdecode_s decV decB) := by
  refine ⟨fok Tryd.func14 (by kernel_rfl) (by kernel_rfl), ?_⟩
  intro xs pre r h hp
  unfold tdecode_s at h
  split at h
  · simp only [Option.some.injEq, Prod.mk.injEq] at h
    obtain ⟨h1, h2⟩ := h
    subst h1 h2
    exact fnK_sound tyNil (by exact specOK rfl rfl ⟨(tvalid_ok), (tlast_ok glb), trivial⟩ trivial) (by kernel_rfl) Tryd.func14 rfl (tdecode_v  _ _ _ _ _ _)
  · cases h
def rdecode_s (decV : Int → Int → Int → Int → Int → Int → Int) (decB : Int → Int → Int → Int → Int → Int → Bool) : Sp
  | [.agg [.int .i64 c, .int .i64 e, .int .i64 w, .int .i64 sc, .int .i64 l], .int .i64 n] => some (True, .tup [.int .i64 (decV c e w sc l n), .bool (decB c e w sc l n)])
  | _ => none
set_option maxRecDepth 100000 in
def rdecode_T (decV : Int → Int → Int → Int → Int → Int → Int) (decB : Int → Int → Int → Int → Int → Int → Bool) (okC : Int → Bool) (enV : Int → Int → Int → Int → Bool) : Prop :=
  ∀ (c e w sc l n : Int), ((-9223372036854775808 : Int) ≤ c ∧ c ≤ (9223372036854775807 : Int)) ∧ ((-9223372036854775808 : Int) ≤ e ∧ e ≤ (9223372036854775807 : Int)) ∧
  ((-9223372036854775808 : Int) ≤ w ∧ w ≤ (9223372036854775807 : Int)) ∧ ((-9223372036854775808 : Int) ≤ sc ∧ sc ≤ (9223372036854775807 : Int)) ∧ ((-9223372036854775808 : Int) ≤ l ∧
  l ≤ (9223372036854775807 : Int)) ∧ True → (-9223372036854775808 : Int) ≤ n ∧ n ≤ (9223372036854775807 : Int) → True ∧ bif !(okC e && enV c w sc l) then (0 : Int) = decV c e w sc l
  n ∧ false = decB c e w sc l n ∧ True else bif decide (n < (0 : Int)) then (0 : Int) = decV c e w sc l n ∧ false = decB c e w sc l n ∧ True else bif decide ((0 : Int) ≤
  IntKind.u64.wrap w) then bif decide (rng IntKind.i64 ((1 : Int) * (2 : Int) ^ min (IntKind.u64.wrap w).toNat (64 : Nat))) then bif decide (rng IntKind.i64 ((1 : Int) * (2 : Int) ^
  min (IntKind.u64.wrap w).toNat (64 : Nat) - (2 : Int))) then bif decide ((1 : Int) * (2 : Int) ^ min (IntKind.u64.wrap w).toNat (64 : Nat) - (2 : Int) < n) then (0 : Int) = decV c
  e w sc l n ∧ false = decB c e w sc l n ∧ True else bif decide (rng IntKind.i64 (sc * n)) then bif decide (rng IntKind.i64 (l + sc * n)) then l + sc * n = decV c e w sc l n ∧ true =
  decB c e w sc l n ∧ True else False else False else False else False else False
set_option maxRecDepth 100000 in
theorem rdecode_P : rdecode_T decV decB okC enV := by
  unfold rdecode_T
  intro c e w sc l n h hn
  refine ⟨trivial, csplit (fun q => ?_) (fun q => cs (fun hl => ?_) (fun hl => ?_))⟩
  · have q : (okC e && enV c w sc l) = false := by
      cases hb : (okC e && enV c w sc l) with
      | false => rfl
      | true => rw [hb] at q; cases q
    exact dec_no (by unfold decB; rw [q]; rfl)
  · exact dec_no (by unfold decB; rw [decide_eq_false (show ¬ 0 ≤ n by omega), Bool.and_false, Bool.false_and])
  have q : (okC e && enV c w sc l) = true := by simpa using q
  have q2 := enV_iff.1 (Bool.and_eq_true_iff.1 q).2
  obtain ⟨b1, b2⟩ := lastV_rng (w := w) (by omega) (by omega)
  have ew : IntKind.u64.wrap w = w := wrap_eq (by show _ ∧ _; omega)
  have e2 : (1 : Int) * 2 ^ min w.toNat 64 = lastV w + 2 := by
    rw [Int.one_mul, show min w.toNat 64 = w.toNat by omega]; unfold lastV; omega
  rw [ew, e2]
  refine cd1 (by omega) (cdI (by omega) (cdI (by omega) (cs (fun h2 => ?_) (fun h2 => ?_))))
  · exact dec_no (by unfold decB; rw [decide_eq_false (show ¬ n ≤ lastV w by omega), Bool.and_false])
  · have b3 := mul_rng (a := sc) (b := n) (by omega) (by omega) (by omega) (by omega)
    have hb : decB c e w sc l n = true := by unfold decB; rw [q, decide_eq_true (show 0 ≤ n by omega), decide_eq_true (show n ≤ lastV w by omega)]; rfl
    refine cdI (by omega) (cdI (by omega) ?_)
    unfold decV
    rw [hb]
    exact ⟨rfl, rfl, trivial⟩
def rdecode_S (decV : Int → Int → Int → Int → Int → Int → Int) (decB : Int → Int → Int → Int → Int → Int → Bool) (okC : Int → Bool) (enV : Int → Int → Int → Int → Bool) : Prop := ∀ (c e w sc l n : Int), fnK Tryd.prog { glob := glb, spec := lk [(36, (rventry_s okC enV))], specH := lk [], nowf := true } { nt := 29, drop := drp [(1, 2097088), (3, 532676608)] } (fun _ _ => none) 6 Tryd.f15 [.agg [.int .i64 c, .int .i64 e, .int .i64 w, .int .i64 sc, .int .i64 l], .int .i64 n] (.tup [.int .i64 (decV c e w sc l n), .bool (decB c e w sc l n)])
set_option maxRecDepth 100000 in
theorem rdecode_e (decV : Int → Int → Int → Int → Int → Int → Int) (decB : Int → Int → Int → Int → Int → Int → Bool) (okC : Int → Bool) (enV : Int → Int → Int → Int → Bool) : rdecode_T decV decB okC enV = rdecode_S decV decB okC enV := by kernel_rfl
theorem rdecode_v : rdecode_S decV decB okC enV := @Eq.mp (rdecode_T decV decB okC enV) (rdecode_S decV decB okC enV) (rdecode_e decV decB okC enV) rdecode_P
theorem rdecode_ok : SOK Tryd.prog glb 15 (rdecode_s decV decB) := by
  refine ⟨fok Tryd.func15 (by kernel_rfl) (by kernel_rfl), ?_⟩
  intro xs pre r h hp
  unfold rdecode_s at h
  split at h
  · simp only [Option.some.injEq, Prod.mk.injEq] at h
    obtain ⟨h1, h2⟩ := h
    subst h1 h2
    exact fnK_sound tyNil (by exact specOK rfl rfl ⟨(rventry_ok), trivial⟩ trivial) (by kernel_rfl) Tryd.func15 rfl (rdecode_v  _ _ _ _ _ _)
  · cases h
end Go.Proofs.YthdfkiopppkfcaaDoor
