/- Scores of tables. -/
import Derived.Test.YtjllgdpnbllnjaaSvK
namespace Go.Proofs.Ytjllgdpnbllnjaa
open Go
set_option linter.unusedVariables false
set_option linter.unusedSimpArgs false

structure TbP (h a m o : Int) : Prop where
  h : 0 ≤ h ∧ h ≤ 10000
  a : 0 ≤ a ∧ a ≤ 10000
  m : 0 ≤ m ∧ m ≤ 10000
  o : 0 ≤ o ∧ o ≤ 10000
def hkN (h a m o : Int) : Int := 2 * (h * o - a * m)
def hkD (h a m o : Int) : Int := (h + m) * (m + o) + (h + a) * (a + o)
theorem m4 {a b : Int} (h : 0 ≤ a ∧ a ≤ 20000) (k : 0 ≤ b ∧ b ≤ 20000) : 0 ≤ a * b ∧ a * b ≤ 400000000 := by
  refine ⟨Int.mul_nonneg h.1 k.1, ?_⟩
  have := Int.mul_le_mul h.2 k.2 k.1 (by decide)
  omega
def sc1_s : Sp
  | [.agg [.int .i64 h, .int .i64 a, .int .i64 m, .int .i64 o]] => some (TbP h a m o, .tup [.int .i64 h, .int .i64 (h + m)])
  | _ => none
set_option maxRecDepth 100000 in
def sc1_T : Prop :=
  ∀ (gl : Glob) (h a m o : Int), TbP h a m o → ((-9223372036854775808 : Int) ≤ h ∧ h ≤ (9223372036854775807 : Int)) ∧ ((-9223372036854775808 : Int) ≤ a ∧ a ≤ (9223372036854775807 :
  Int)) ∧ ((-9223372036854775808 : Int) ≤ m ∧ m ≤ (9223372036854775807 : Int)) ∧ ((-9223372036854775808 : Int) ≤ o ∧ o ≤ (9223372036854775807 : Int)) ∧ True → bif decide (rng
  IntKind.i64 (h + m)) then h = h ∧ h + m = h + m ∧ True else False
set_option maxRecDepth 100000 in
theorem sc1_P : sc1_T := by
  unfold sc1_T
  intro gl h a m o ⟨p1, p2, p3, p4⟩ _
  exact cdI (by omega) ⟨rfl, rfl, trivial⟩
def sc1_S : Prop := ∀ (gl : Glob) (h a m o : Int), TbP h a m o → fnK Try.prog { glob := gl, spec := lk [], specH := lk [], nowf := true } { nt := 11, drop := drp [(1, 2032)] } (fun _ _ => none) 6 Try.f65 [.agg [.int .i64 h, .int .i64 a, .int .i64 m, .int .i64 o]] (.tup [.int .i64 h, .int .i64 (h + m)])
set_option maxRecDepth 100000 in
theorem sc1_e : sc1_T = sc1_S := by kernel_rfl
theorem sc1_v : sc1_S := @Eq.mp (sc1_T) (sc1_S) (sc1_e) sc1_P
theorem sc1_ok (gl : Glob) : SOK Try.prog gl 65 sc1_s := by
  refine ⟨fok Try.func65 (by kernel_rfl) (by kernel_rfl), ?_⟩
  intro xs pre r h hp
  unfold sc1_s at h
  split at h
  · simp only [Option.some.injEq, Prod.mk.injEq] at h
    obtain ⟨h1, h2⟩ := h
    subst h1 h2
    exact fnK_sound tyNil (by exact specOK rfl rfl trivial trivial) (by kernel_rfl) Try.func65 rfl (sc1_v gl _ _ _ _ hp)
  · cases h
def sc2_s : Sp
  | [.agg [.int .i64 h, .int .i64 a, .int .i64 m, .int .i64 o]] => some (TbP h a m o, .tup [.int .i64 a, .int .i64 (h + a)])
  | _ => none
set_option maxRecDepth 100000 in
def sc2_T : Prop :=
  ∀ (gl : Glob) (h a m o : Int), TbP h a m o → ((-9223372036854775808 : Int) ≤ h ∧ h ≤ (9223372036854775807 : Int)) ∧ ((-9223372036854775808 : Int) ≤ a ∧ a ≤ (9223372036854775807 :
  Int)) ∧ ((-9223372036854775808 : Int) ≤ m ∧ m ≤ (9223372036854775807 : Int)) ∧ ((-9223372036854775808 : Int) ≤ o ∧ o ≤ (9223372036854775807 : Int)) ∧ True → bif decide (rng
  IntKind.i64 (h + a)) then a = a ∧ h + a = h + a ∧ True else False
set_option maxRecDepth 100000 in
theorem sc2_P : sc2_T := by
  unfold sc2_T
  intro gl h a m o ⟨p1, p2, p3, p4⟩ _
  exact cdI (by omega) ⟨rfl, rfl, trivial⟩
def sc2_S : Prop := ∀ (gl : Glob) (h a m o : Int), TbP h a m o → fnK Try.prog { glob := gl, spec := lk [], specH := lk [], nowf := true } { nt := 11, drop := drp [(1, 2032)] } (fun _ _ => none) 6 Try.f66 [.agg [.int .i64 h, .int .i64 a, .int .i64 m, .int .i64 o]] (.tup [.int .i64 a, .int .i64 (h + a)])
set_option maxRecDepth 100000 in
theorem sc2_e : sc2_T = sc2_S := by kernel_rfl
theorem sc2_v : sc2_S := @Eq.mp (sc2_T) (sc2_S) (sc2_e) sc2_P
theorem sc2_ok (gl : Glob) : SOK Try.prog gl 66 sc2_s := by
  refine ⟨fok Try.func66 (by kernel_rfl) (by kernel_rfl), ?_⟩
  intro xs pre r h hp
  unfold sc2_s at h
  split at h
  · simp only [Option.some.injEq, Prod.mk.injEq] at h
    obtain ⟨h1, h2⟩ := h
    subst h1 h2
    exact fnK_sound tyNil (by exact specOK rfl rfl trivial trivial) (by kernel_rfl) Try.func66 rfl (sc2_v gl _ _ _ _ hp)
  · cases h
def sc3_s : Sp
  | [.agg [.int .i64 h, .int .i64 a, .int .i64 m, .int .i64 o]] => some (TbP h a m o, .tup [.int .i64 h, .int .i64 (h + a + m)])
  | _ => none
set_option maxRecDepth 100000 in
def sc3_T : Prop :=
  ∀ (gl : Glob) (h a m o : Int), TbP h a m o → ((-9223372036854775808 : Int) ≤ h ∧ h ≤ (9223372036854775807 : Int)) ∧ ((-9223372036854775808 : Int) ≤ a ∧ a ≤ (9223372036854775807 :
  Int)) ∧ ((-9223372036854775808 : Int) ≤ m ∧ m ≤ (9223372036854775807 : Int)) ∧ ((-9223372036854775808 : Int) ≤ o ∧ o ≤ (9223372036854775807 : Int)) ∧ True → bif decide (rng
  IntKind.i64 (h + a)) then bif decide (rng IntKind.i64 (h + a + m)) then h = h ∧ h + a + m = h + a + m ∧ True else False else False
set_option maxRecDepth 100000 in
theorem sc3_P : sc3_T := by
  unfold sc3_T
  intro gl h a m o ⟨p1, p2, p3, p4⟩ _
  exact cdI (by omega) (cdI (by omega) ⟨rfl, rfl, trivial⟩)
def sc3_S : Prop := ∀ (gl : Glob) (h a m o : Int), TbP h a m o → fnK Try.prog { glob := gl, spec := lk [], specH := lk [], nowf := true } { nt := 14, drop := drp [(1, 16368)] } (fun _ _ => none) 6 Try.f67 [.agg [.int .i64 h, .int .i64 a, .int .i64 m, .int .i64 o]] (.tup [.int .i64 h, .int .i64 (h + a + m)])
set_option maxRecDepth 100000 in
theorem sc3_e : sc3_T = sc3_S := by kernel_rfl
theorem sc3_v : sc3_S := @Eq.mp (sc3_T) (sc3_S) (sc3_e) sc3_P
theorem sc3_ok (gl : Glob) : SOK Try.prog gl 67 sc3_s := by
  refine ⟨fok Try.func67 (by kernel_rfl) (by kernel_rfl), ?_⟩
  intro xs pre r h hp
  unfold sc3_s at h
  split at h
  · simp only [Option.some.injEq, Prod.mk.injEq] at h
    obtain ⟨h1, h2⟩ := h
    subst h1 h2
    exact fnK_sound tyNil (by exact specOK rfl rfl trivial trivial) (by kernel_rfl) Try.func67 rfl (sc3_v gl _ _ _ _ hp)
  · cases h
def sc4_s : Sp
  | [.agg [.int .i64 h, .int .i64 a, .int .i64 m, .int .i64 o]] => some (TbP h a m o, .tup [.int .i64 (hkN h a m o), .int .i64 (hkD h a m o)])
  | _ => none
set_option maxRecDepth 100000 in
def sc4_T : Prop :=
  ∀ (gl : Glob) (h a m o : Int), TbP h a m o → ((-9223372036854775808 : Int) ≤ h ∧ h ≤ (9223372036854775807 : Int)) ∧ ((-9223372036854775808 : Int) ≤ a ∧ a ≤ (9223372036854775807 :
  Int)) ∧ ((-9223372036854775808 : Int) ≤ m ∧ m ≤ (9223372036854775807 : Int)) ∧ ((-9223372036854775808 : Int) ≤ o ∧ o ≤ (9223372036854775807 : Int)) ∧ True → bif decide (rng
  IntKind.i64 (h * o)) then bif decide (rng IntKind.i64 (a * m)) then bif decide (rng IntKind.i64 (h * o - a * m)) then bif decide (rng IntKind.i64 ((2 : Int) * (h * o - a * m)))
  then bif decide (rng IntKind.i64 (h + m)) then bif decide (rng IntKind.i64 (m + o)) then bif decide (rng IntKind.i64 ((h + m) * (m + o))) then bif decide (rng IntKind.i64 (h + a))
  then bif decide (rng IntKind.i64 (a + o)) then bif decide (rng IntKind.i64 ((h + a) * (a + o))) then bif decide (rng IntKind.i64 ((h + m) * (m + o) + (h + a) * (a + o))) then (2 :
  Int) * (h * o - a * m) = hkN h a m o ∧ (h + m) * (m + o) + (h + a) * (a + o) = hkD h a m o ∧ True else False else False else False else False else False else False else False else
  False else False else False else False
set_option maxRecDepth 100000 in
theorem sc4_P : sc4_T := by
  unfold sc4_T
  intro gl h a m o ⟨p1, p2, p3, p4⟩ _
  have q1 := m4 (a := h) (b := o) (by omega) (by omega)
  have q2 := m4 (a := a) (b := m) (by omega) (by omega)
  have q3 := m4 (a := h + m) (b := m + o) (by omega) (by omega)
  have q4 := m4 (a := h + a) (b := a + o) (by omega) (by omega)
  unfold hkN hkD
  repeat (first
    | exact ⟨rfl, rfl, trivial⟩
    | refine cdI (by omega) ?_)
def sc4_S : Prop := ∀ (gl : Glob) (h a m o : Int), TbP h a m o → fnK Try.prog { glob := gl, spec := lk [], specH := lk [], nowf := true } { nt := 39, drop := drp [(1, 549755813872)] } (fun _ _ => none) 6 Try.f68 [.agg [.int .i64 h, .int .i64 a, .int .i64 m, .int .i64 o]] (.tup [.int .i64 (hkN h a m o), .int .i64 (hkD h a m o)])
set_option maxRecDepth 100000 in
theorem sc4_e : sc4_T = sc4_S := by kernel_rfl
theorem sc4_v : sc4_S := @Eq.mp (sc4_T) (sc4_S) (sc4_e) sc4_P
theorem sc4_ok (gl : Glob) : SOK Try.prog gl 68 sc4_s := by
  refine ⟨fok Try.func68 (by kernel_rfl) (by kernel_rfl), ?_⟩
  intro xs pre r h hp
  unfold sc4_s at h
  split at h
  · simp only [Option.some.injEq, Prod.mk.injEq] at h
    obtain ⟨h1, h2⟩ := h
    subst h1 h2
    exact fnK_sound tyNil (by exact specOK rfl rfl trivial trivial) (by kernel_rfl) Try.func68 rfl (sc4_v gl _ _ _ _ hp)
  · cases h
def scs_s : Sp
  | [] => some (True, .sl 1 false [[.fn 65 []], [.fn 66 []], [.fn 67 []], [.fn 68 []]])
  | _ => none
set_option maxRecDepth 100000 in
def scs_T : Prop :=
  ∀ (gl : Glob), True ∧ [[AV.fn (65 : Nat) []], [AV.fn (66 : Nat) []], [AV.fn (67 : Nat) []], [AV.fn (68 : Nat) []]] = [[AV.fn (65 : FuncId) []], [AV.fn (66 : FuncId) []], [AV.fn (67
  : FuncId) []], [AV.fn (68 : FuncId) []]]
set_option maxRecDepth 100000 in
theorem scs_P : scs_T := by
  unfold scs_T
  intro gl
  exact ⟨trivial, rfl⟩
def scs_S : Prop := ∀ (gl : Glob), fnK Try.prog { glob := gl, spec := lk [], specH := lk [], nowf := true } { nt := 2, drop := drp [(1, 2)] } (fun _ _ => none) 6 Try.f58 [] (.sl 1 false [[.fn 65 []], [.fn 66 []], [.fn 67 []], [.fn 68 []]])
set_option maxRecDepth 100000 in
theorem scs_e : scs_T = scs_S := by kernel_rfl
theorem scs_v : scs_S := @Eq.mp (scs_T) (scs_S) (scs_e) scs_P
theorem scs_ok (gl : Glob) : SOK Try.prog gl 58 scs_s := by
  refine ⟨fok Try.func58 (by kernel_rfl) (by kernel_rfl), ?_⟩
  intro xs pre r h hp
  unfold scs_s at h
  split at h
  · simp only [Option.some.injEq, Prod.mk.injEq] at h
    obtain ⟨h1, h2⟩ := h
    subst h1 h2
    exact fnK_sound tyNil (by exact specOK rfl rfl trivial trivial) (by kernel_rfl) Try.func58 rfl (scs_v gl )
  · cases h
theorem cN {p : Prop} [Decidable p] {A B : Prop} (h : p) (b : B) : cond (!decide p) A B := by rw [decide_eq_true h]; exact b
def sqN (n d : Int) : Int := if d = 0 then 0 else rdN n d
def sqD (n d : Int) : Int := if d = 0 then 0 else rdD n d
def sqE (n d : Int) : Int := if d = 0 then 9 else rdE n d
theorem sq_fin (n d : Int) : cond (decide (d = 0)) (((0 : Int) = sqN n d ∧ (0 : Int) = sqD n d ∧ True) ∧ (9 : Int) = sqE n d ∧ True) (True ∧ (rdN n d = sqN n d ∧ rdD n d = sqD n d ∧ True) ∧ rdE n d = sqE n d ∧ True) := by
  unfold sqN sqD sqE
  refine cs' (fun h => ?_) (fun h => ?_)
  · rw [if_pos h, if_pos h, if_pos h]; exact ⟨⟨rfl, rfl, trivial⟩, rfl, trivial⟩
  · rw [if_neg h, if_neg h, if_neg h]; exact ⟨trivial, ⟨rfl, rfl, trivial⟩, rfl, trivial⟩
def ofD_s : Sp
  | [.int .i64 0, .agg [.int .i64 h, .int .i64 a, .int .i64 m, .int .i64 o]] => some (TbP h a m o, .tup [.agg [.int .i64 (sqN h (h + m)), .int .i64 (sqD h (h + m))], .int .i64 (sqE h (h + m))])
  | _ => none
set_option maxRecDepth 100000 in
def ofD_T : Prop :=
  ∀ (gl : Glob) (h a m o : Int), TbP h a m o → (-9223372036854775808 : Int) ≤ (0 : Int) ∧ (0 : Int) ≤ (9223372036854775807 : Int) → ((-9223372036854775808 : Int) ≤ h ∧ h ≤
  (9223372036854775807 : Int)) ∧ ((-9223372036854775808 : Int) ≤ a ∧ a ≤ (9223372036854775807 : Int)) ∧ ((-9223372036854775808 : Int) ≤ m ∧ m ≤ (9223372036854775807 : Int)) ∧
  ((-9223372036854775808 : Int) ≤ o ∧ o ≤ (9223372036854775807 : Int)) ∧ True → True ∧ bif !decide ((0 : Int) ≤ h ∧ h ≤ (10000 : Int)) then ((0 : Int) = sqN h (h + m) ∧ (0 : Int) =
  sqD h (h + m) ∧ True) ∧ (1 : Int) = sqE h (h + m) ∧ True else True ∧ bif !decide ((0 : Int) ≤ a ∧ a ≤ (10000 : Int)) then ((0 : Int) = sqN h (h + m) ∧ (0 : Int) = sqD h (h + m) ∧
  True) ∧ (1 : Int) = sqE h (h + m) ∧ True else True ∧ bif !decide ((0 : Int) ≤ m ∧ m ≤ (10000 : Int)) then ((0 : Int) = sqN h (h + m) ∧ (0 : Int) = sqD h (h + m) ∧ True) ∧ (1 : Int)
  = sqE h (h + m) ∧ True else True ∧ bif !decide ((0 : Int) ≤ o ∧ o ≤ (10000 : Int)) then ((0 : Int) = sqN h (h + m) ∧ (0 : Int) = sqD h (h + m) ∧ True) ∧ (1 : Int) = sqE h (h + m) ∧
  True else True ∧ TbP h a m o ∧ bif decide (h + m = (0 : Int)) then ((0 : Int) = sqN h (h + m) ∧ (0 : Int) = sqD h (h + m) ∧ True) ∧ (9 : Int) = sqE h (h + m) ∧ True else True ∧
  (rdN h (h + m) = sqN h (h + m) ∧ rdD h (h + m) = sqD h (h + m) ∧ True) ∧ rdE h (h + m) = sqE h (h + m) ∧ True
set_option maxRecDepth 100000 in
theorem ofD_P : ofD_T := by
  unfold ofD_T
  intro gl h a m o p _ _
  exact ⟨trivial, cN p.h ⟨trivial, cN p.a ⟨trivial, cN p.m ⟨trivial, cN p.o ⟨trivial, p, sq_fin _ _⟩⟩⟩⟩⟩
def ofD_S : Prop := ∀ (gl : Glob) (h a m o : Int), TbP h a m o → fnK Try.prog { glob := gl, spec := lk [(46, swithin_s), (58, scs_s), (65, sc1_s), (36, (sred_s Go.Proofs.Ytjllgdpnbllnjaa.rdN Go.Proofs.Ytjllgdpnbllnjaa.rdD Go.Proofs.Ytjllgdpnbllnjaa.rdE))], specH := lk [], nowf := true } { nt := 46, drop := drp [(1, 261120), (3, 12582912), (4, 50331648), (5, 134217728), (6, 268435456), (7, 274341036032), (8, 274877906944), (9, 1099511627776), (10, 68169720922112)] } (fun _ _ => none) 6 Try.f40 [.int .i64 0, .agg [.int .i64 h, .int .i64 a, .int .i64 m, .int .i64 o]] (.tup [.agg [.int .i64 (sqN h (h + m)), .int .i64 (sqD h (h + m))], .int .i64 (sqE h (h + m))])
set_option maxRecDepth 100000 in
theorem ofD_e : ofD_T = ofD_S := by kernel_rfl
theorem ofD_v : ofD_S := @Eq.mp (ofD_T) (ofD_S) (ofD_e) ofD_P
theorem ofD_ok (gl : Glob) : SOK Try.prog gl 40 ofD_s := by
  refine ⟨fok Try.func40 (by kernel_rfl) (by kernel_rfl), ?_⟩
  intro xs pre r h hp
  unfold ofD_s at h
  split at h
  · simp only [Option.some.injEq, Prod.mk.injEq] at h
    obtain ⟨h1, h2⟩ := h
    subst h1 h2
    exact fnK_sound tyNil (by exact specOK rfl rfl ⟨swithin_ok gl, scs_ok gl, sc1_ok gl, sred_ok gl, trivial⟩ trivial) (by kernel_rfl) Try.func40 rfl (ofD_v gl _ _ _ _ hp)
  · cases h
def sD_s : Sp
  | [.agg [.int .i64 h, .int .i64 a, .int .i64 m, .int .i64 o]] => some (TbP h a m o, .tup [.agg [.int .i64 (sqN h (h + m)), .int .i64 (sqD h (h + m))], .int .i64 (sqE h (h + m))])
  | _ => none
set_option maxRecDepth 100000 in
def sD_T : Prop :=
  ∀ (gl : Glob) (h a m o : Int), TbP h a m o → ((-9223372036854775808 : Int) ≤ h ∧ h ≤ (9223372036854775807 : Int)) ∧ ((-9223372036854775808 : Int) ≤ a ∧ a ≤ (9223372036854775807 :
  Int)) ∧ ((-9223372036854775808 : Int) ≤ m ∧ m ≤ (9223372036854775807 : Int)) ∧ ((-9223372036854775808 : Int) ≤ o ∧ o ≤ (9223372036854775807 : Int)) ∧ True → TbP h a m o ∧ (sqN h (h
  + m) = sqN h (h + m) ∧ sqD h (h + m) = sqD h (h + m) ∧ True) ∧ sqE h (h + m) = sqE h (h + m) ∧ True
set_option maxRecDepth 100000 in
theorem sD_P : sD_T := by
  unfold sD_T
  intro gl h a m o p _
  exact ⟨p, ⟨rfl, rfl, trivial⟩, rfl, trivial⟩
def sD_S : Prop := ∀ (gl : Glob) (h a m o : Int), TbP h a m o → fnK Try.prog { glob := gl, spec := lk [(40, ofD_s)], specH := lk [], nowf := true } { nt := 8, drop := drp [(1, 240)] } (fun _ _ => none) 6 Try.f11 [.agg [.int .i64 h, .int .i64 a, .int .i64 m, .int .i64 o]] (.tup [.agg [.int .i64 (sqN h (h + m)), .int .i64 (sqD h (h + m))], .int .i64 (sqE h (h + m))])
set_option maxRecDepth 100000 in
theorem sD_e : sD_T = sD_S := by kernel_rfl
theorem sD_v : sD_S := @Eq.mp (sD_T) (sD_S) (sD_e) sD_P
theorem sD_ok (gl : Glob) : SOK Try.prog gl 11 sD_s := by
  refine ⟨fok Try.func11 (by kernel_rfl) (by kernel_rfl), ?_⟩
  intro xs pre r h hp
  unfold sD_s at h
  split at h
  · simp only [Option.some.injEq, Prod.mk.injEq] at h
    obtain ⟨h1, h2⟩ := h
    subst h1 h2
    exact fnK_sound tyNil (by exact specOK rfl rfl ⟨ofD_ok gl, trivial⟩ trivial) (by kernel_rfl) Try.func11 rfl (sD_v gl _ _ _ _ hp)
  · cases h
def ofF_s : Sp
  | [.int .i64 1, .agg [.int .i64 h, .int .i64 a, .int .i64 m, .int .i64 o]] => some (TbP h a m o, .tup [.agg [.int .i64 (sqN a (h + a)), .int .i64 (sqD a (h + a))], .int .i64 (sqE a (h + a))])
  | _ => none
set_option maxRecDepth 100000 in
def ofF_T : Prop :=
  ∀ (gl : Glob) (h a m o : Int), TbP h a m o → (-9223372036854775808 : Int) ≤ (1 : Int) ∧ (1 : Int) ≤ (9223372036854775807 : Int) → ((-9223372036854775808 : Int) ≤ h ∧ h ≤
  (9223372036854775807 : Int)) ∧ ((-9223372036854775808 : Int) ≤ a ∧ a ≤ (9223372036854775807 : Int)) ∧ ((-9223372036854775808 : Int) ≤ m ∧ m ≤ (9223372036854775807 : Int)) ∧
  ((-9223372036854775808 : Int) ≤ o ∧ o ≤ (9223372036854775807 : Int)) ∧ True → True ∧ bif !decide ((0 : Int) ≤ h ∧ h ≤ (10000 : Int)) then ((0 : Int) = sqN a (h + a) ∧ (0 : Int) =
  sqD a (h + a) ∧ True) ∧ (1 : Int) = sqE a (h + a) ∧ True else True ∧ bif !decide ((0 : Int) ≤ a ∧ a ≤ (10000 : Int)) then ((0 : Int) = sqN a (h + a) ∧ (0 : Int) = sqD a (h + a) ∧
  True) ∧ (1 : Int) = sqE a (h + a) ∧ True else True ∧ bif !decide ((0 : Int) ≤ m ∧ m ≤ (10000 : Int)) then ((0 : Int) = sqN a (h + a) ∧ (0 : Int) = sqD a (h + a) ∧ True) ∧ (1 : Int)
  = sqE a (h + a) ∧ True else True ∧ bif !decide ((0 : Int) ≤ o ∧ o ≤ (10000 : Int)) then ((0 : Int) = sqN a (h + a) ∧ (0 : Int) = sqD a (h + a) ∧ True) ∧ (1 : Int) = sqE a (h + a) ∧
  True else True ∧ TbP h a m o ∧ bif decide (h + a = (0 : Int)) then ((0 : Int) = sqN a (h + a) ∧ (0 : Int) = sqD a (h + a) ∧ True) ∧ (9 : Int) = sqE a (h + a) ∧ True else True ∧
  (rdN a (h + a) = sqN a (h + a) ∧ rdD a (h + a) = sqD a (h + a) ∧ True) ∧ rdE a (h + a) = sqE a (h + a) ∧ True
set_option maxRecDepth 100000 in
theorem ofF_P : ofF_T := by
  unfold ofF_T
  intro gl h a m o p _ _
  exact ⟨trivial, cN p.h ⟨trivial, cN p.a ⟨trivial, cN p.m ⟨trivial, cN p.o ⟨trivial, p, sq_fin _ _⟩⟩⟩⟩⟩
def ofF_S : Prop := ∀ (gl : Glob) (h a m o : Int), TbP h a m o → fnK Try.prog { glob := gl, spec := lk [(46, swithin_s), (58, scs_s), (66, sc2_s), (36, (sred_s Go.Proofs.Ytjllgdpnbllnjaa.rdN Go.Proofs.Ytjllgdpnbllnjaa.rdD Go.Proofs.Ytjllgdpnbllnjaa.rdE))], specH := lk [], nowf := true } { nt := 46, drop := drp [(1, 261120), (3, 12582912), (4, 50331648), (5, 134217728), (6, 268435456), (7, 274341036032), (8, 274877906944), (9, 1099511627776), (10, 68169720922112)] } (fun _ _ => none) 6 Try.f40 [.int .i64 1, .agg [.int .i64 h, .int .i64 a, .int .i64 m, .int .i64 o]] (.tup [.agg [.int .i64 (sqN a (h + a)), .int .i64 (sqD a (h + a))], .int .i64 (sqE a (h + a))])
set_option maxRecDepth 100000 in
theorem ofF_e : ofF_T = ofF_S := by kernel_rfl
theorem ofF_v : ofF_S := @Eq.mp (ofF_T) (ofF_S) (ofF_e) ofF_P
theorem ofF_ok (gl : Glob) : SOK Try.prog gl 40 ofF_s := by
  refine ⟨fok Try.func40 (by kernel_rfl) (by kernel_rfl), ?_⟩
  intro xs pre r h hp
  unfold ofF_s at h
  split at h
  · simp only [Option.some.injEq, Prod.mk.injEq] at h
    obtain ⟨h1, h2⟩ := h
    subst h1 h2
    exact fnK_sound tyNil (by exact specOK rfl rfl ⟨swithin_ok gl, scs_ok gl, sc2_ok gl, sred_ok gl, trivial⟩ trivial) (by kernel_rfl) Try.func40 rfl (ofF_v gl _ _ _ _ hp)
  · cases h
def sF_s : Sp
  | [.agg [.int .i64 h, .int .i64 a, .int .i64 m, .int .i64 o]] => some (TbP h a m o, .tup [.agg [.int .i64 (sqN a (h + a)), .int .i64 (sqD a (h + a))], .int .i64 (sqE a (h + a))])
  | _ => none
set_option maxRecDepth 100000 in
def sF_T : Prop :=
  ∀ (gl : Glob) (h a m o : Int), TbP h a m o → ((-9223372036854775808 : Int) ≤ h ∧ h ≤ (9223372036854775807 : Int)) ∧ ((-9223372036854775808 : Int) ≤ a ∧ a ≤ (9223372036854775807 :
  Int)) ∧ ((-9223372036854775808 : Int) ≤ m ∧ m ≤ (9223372036854775807 : Int)) ∧ ((-9223372036854775808 : Int) ≤ o ∧ o ≤ (9223372036854775807 : Int)) ∧ True → TbP h a m o ∧ (sqN a (h
  + a) = sqN a (h + a) ∧ sqD a (h + a) = sqD a (h + a) ∧ True) ∧ sqE a (h + a) = sqE a (h + a) ∧ True
set_option maxRecDepth 100000 in
theorem sF_P : sF_T := by
  unfold sF_T
  intro gl h a m o p _
  exact ⟨p, ⟨rfl, rfl, trivial⟩, rfl, trivial⟩
def sF_S : Prop := ∀ (gl : Glob) (h a m o : Int), TbP h a m o → fnK Try.prog { glob := gl, spec := lk [(40, ofF_s)], specH := lk [], nowf := true } { nt := 8, drop := drp [(1, 240)] } (fun _ _ => none) 6 Try.f13 [.agg [.int .i64 h, .int .i64 a, .int .i64 m, .int .i64 o]] (.tup [.agg [.int .i64 (sqN a (h + a)), .int .i64 (sqD a (h + a))], .int .i64 (sqE a (h + a))])
set_option maxRecDepth 100000 in
theorem sF_e : sF_T = sF_S := by kernel_rfl
theorem sF_v : sF_S := @Eq.mp (sF_T) (sF_S) (sF_e) sF_P
theorem sF_ok (gl : Glob) : SOK Try.prog gl 13 sF_s := by
  refine ⟨fok Try.func13 (by kernel_rfl) (by kernel_rfl), ?_⟩
  intro xs pre r h hp
  unfold sF_s at h
  split at h
  · simp only [Option.some.injEq, Prod.mk.injEq] at h
    obtain ⟨h1, h2⟩ := h
    subst h1 h2
    exact fnK_sound tyNil (by exact specOK rfl rfl ⟨ofF_ok gl, trivial⟩ trivial) (by kernel_rfl) Try.func13 rfl (sF_v gl _ _ _ _ hp)
  · cases h
def ofT_s : Sp
  | [.int .i64 2, .agg [.int .i64 h, .int .i64 a, .int .i64 m, .int .i64 o]] => some (TbP h a m o, .tup [.agg [.int .i64 (sqN h (h + a + m)), .int .i64 (sqD h (h + a + m))], .int .i64 (sqE h (h + a + m))])
  | _ => none
set_option maxRecDepth 100000 in
def ofT_T : Prop :=
  ∀ (gl : Glob) (h a m o : Int), TbP h a m o → (-9223372036854775808 : Int) ≤ (2 : Int) ∧ (2 : Int) ≤ (9223372036854775807 : Int) → ((-9223372036854775808 : Int) ≤ h ∧ h ≤
  (9223372036854775807 : Int)) ∧ ((-9223372036854775808 : Int) ≤ a ∧ a ≤ (9223372036854775807 : Int)) ∧ ((-9223372036854775808 : Int) ≤ m ∧ m ≤ (9223372036854775807 : Int)) ∧
  ((-9223372036854775808 : Int) ≤ o ∧ o ≤ (9223372036854775807 : Int)) ∧ True → True ∧ bif !decide ((0 : Int) ≤ h ∧ h ≤ (10000 : Int)) then ((0 : Int) = sqN h (h + a + m) ∧ (0 : Int)
  = sqD h (h + a + m) ∧ True) ∧ (1 : Int) = sqE h (h + a + m) ∧ True else True ∧ bif !decide ((0 : Int) ≤ a ∧ a ≤ (10000 : Int)) then ((0 : Int) = sqN h (h + a + m) ∧ (0 : Int) = sqD
  h (h + a + m) ∧ True) ∧ (1 : Int) = sqE h (h + a + m) ∧ True else True ∧ bif !decide ((0 : Int) ≤ m ∧ m ≤ (10000 : Int)) then ((0 : Int) = sqN h (h + a + m) ∧ (0 : Int) = sqD h (h
  + a + m) ∧ True) ∧ (1 : Int) = sqE h (h + a + m) ∧ True else True ∧ bif !decide ((0 : Int) ≤ o ∧ o ≤ (10000 : Int)) then ((0 : Int) = sqN h (h + a + m) ∧ (0 : Int) = sqD h (h + a +
  m) ∧ True) ∧ (1 : Int) = sqE h (h + a + m) ∧ True else True ∧ TbP h a m o ∧ bif decide (h + a + m = (0 : Int)) then ((0 : Int) = sqN h (h + a + m) ∧ (0 : Int) = sqD h (h + a + m) ∧
  True) ∧ (9 : Int) = sqE h (h + a + m) ∧ True else True ∧ (rdN h (h + a + m) = sqN h (h + a + m) ∧ rdD h (h + a + m) = sqD h (h + a + m) ∧ True) ∧ rdE h (h + a + m) = sqE h (h + a +
  m) ∧ True
set_option maxRecDepth 100000 in
theorem ofT_P : ofT_T := by
  unfold ofT_T
  intro gl h a m o p _ _
  exact ⟨trivial, cN p.h ⟨trivial, cN p.a ⟨trivial, cN p.m ⟨trivial, cN p.o ⟨trivial, p, sq_fin _ _⟩⟩⟩⟩⟩
def ofT_S : Prop := ∀ (gl : Glob) (h a m o : Int), TbP h a m o → fnK Try.prog { glob := gl, spec := lk [(46, swithin_s), (58, scs_s), (67, sc3_s), (36, (sred_s Go.Proofs.Ytjllgdpnbllnjaa.rdN Go.Proofs.Ytjllgdpnbllnjaa.rdD Go.Proofs.Ytjllgdpnbllnjaa.rdE))], specH := lk [], nowf := true } { nt := 46, drop := drp [(1, 261120), (3, 12582912), (4, 50331648), (5, 134217728), (6, 268435456), (7, 274341036032), (8, 274877906944), (9, 1099511627776), (10, 68169720922112)] } (fun _ _ => none) 6 Try.f40 [.int .i64 2, .agg [.int .i64 h, .int .i64 a, .int .i64 m, .int .i64 o]] (.tup [.agg [.int .i64 (sqN h (h + a + m)), .int .i64 (sqD h (h + a + m))], .int .i64 (sqE h (h + a + m))])
set_option maxRecDepth 100000 in
theorem ofT_e : ofT_T = ofT_S := by kernel_rfl
theorem ofT_v : ofT_S := @Eq.mp (ofT_T) (ofT_S) (ofT_e) ofT_P
theorem ofT_ok (gl : Glob) : SOK Try.prog gl 40 ofT_s := by
  refine ⟨fok Try.func40 (by kernel_rfl) (by kernel_rfl), ?_⟩
  intro xs pre r h hp
  unfold ofT_s at h
  split at h
  · simp only [Option.some.injEq, Prod.mk.injEq] at h
    obtain ⟨h1, h2⟩ := h
    subst h1 h2
    exact fnK_sound tyNil (by exact specOK rfl rfl ⟨swithin_ok gl, scs_ok gl, sc3_ok gl, sred_ok gl, trivial⟩ trivial) (by kernel_rfl) Try.func40 rfl (ofT_v gl _ _ _ _ hp)
  · cases h
def sT_s : Sp
  | [.agg [.int .i64 h, .int .i64 a, .int .i64 m, .int .i64 o]] => some (TbP h a m o, .tup [.agg [.int .i64 (sqN h (h + a + m)), .int .i64 (sqD h (h + a + m))], .int .i64 (sqE h (h + a + m))])
  | _ => none
set_option maxRecDepth 100000 in
def sT_T : Prop :=
  ∀ (gl : Glob) (h a m o : Int), TbP h a m o → ((-9223372036854775808 : Int) ≤ h ∧ h ≤ (9223372036854775807 : Int)) ∧ ((-9223372036854775808 : Int) ≤ a ∧ a ≤ (9223372036854775807 :
  Int)) ∧ ((-9223372036854775808 : Int) ≤ m ∧ m ≤ (9223372036854775807 : Int)) ∧ ((-9223372036854775808 : Int) ≤ o ∧ o ≤ (9223372036854775807 : Int)) ∧ True → TbP h a m o ∧ (sqN h (h
  + a + m) = sqN h (h + a + m) ∧ sqD h (h + a + m) = sqD h (h + a + m) ∧ True) ∧ sqE h (h + a + m) = sqE h (h + a + m) ∧ True
set_option maxRecDepth 100000 in
theorem sT_P : sT_T := by
  unfold sT_T
  intro gl h a m o p _
  exact ⟨p, ⟨rfl, rfl, trivial⟩, rfl, trivial⟩
def sT_S : Prop := ∀ (gl : Glob) (h a m o : Int), TbP h a m o → fnK Try.prog { glob := gl, spec := lk [(40, ofT_s)], specH := lk [], nowf := true } { nt := 8, drop := drp [(1, 240)] } (fun _ _ => none) 6 Try.f15 [.agg [.int .i64 h, .int .i64 a, .int .i64 m, .int .i64 o]] (.tup [.agg [.int .i64 (sqN h (h + a + m)), .int .i64 (sqD h (h + a + m))], .int .i64 (sqE h (h + a + m))])
set_option maxRecDepth 100000 in
theorem sT_e : sT_T = sT_S := by kernel_rfl
theorem sT_v : sT_S := @Eq.mp (sT_T) (sT_S) (sT_e) sT_P
theorem sT_ok (gl : Glob) : SOK Try.prog gl 15 sT_s := by
  refine ⟨fok Try.func15 (by kernel_rfl) (by kernel_rfl), ?_⟩
  intro xs pre r h hp
  unfold sT_s at h
  split at h
  · simp only [Option.some.injEq, Prod.mk.injEq] at h
    obtain ⟨h1, h2⟩ := h
    subst h1 h2
    exact fnK_sound tyNil (by exact specOK rfl rfl ⟨ofT_ok gl, trivial⟩ trivial) (by kernel_rfl) Try.func15 rfl (sT_v gl _ _ _ _ hp)
  · cases h
def ofH_s : Sp
  | [.int .i64 3, .agg [.int .i64 h, .int .i64 a, .int .i64 m, .int .i64 o]] => some (TbP h a m o, .tup [.agg [.int .i64 (sqN (hkN h a m o) (hkD h a m o)), .int .i64 (sqD (hkN h a m o) (hkD h a m o))], .int .i64 (sqE (hkN h a m o) (hkD h a m o))])
  | _ => none
set_option maxRecDepth 100000 in
def ofH_T : Prop :=
  ∀ (gl : Glob) (h a m o : Int), TbP h a m o → (-9223372036854775808 : Int) ≤ (3 : Int) ∧ (3 : Int) ≤ (9223372036854775807 : Int) → ((-9223372036854775808 : Int) ≤ h ∧ h ≤
  (9223372036854775807 : Int)) ∧ ((-9223372036854775808 : Int) ≤ a ∧ a ≤ (9223372036854775807 : Int)) ∧ ((-9223372036854775808 : Int) ≤ m ∧ m ≤ (9223372036854775807 : Int)) ∧
  ((-9223372036854775808 : Int) ≤ o ∧ o ≤ (9223372036854775807 : Int)) ∧ True → True ∧ bif !decide ((0 : Int) ≤ h ∧ h ≤ (10000 : Int)) then ((0 : Int) = sqN (hkN h a m o) (hkD h a m
  o) ∧ (0 : Int) = sqD (hkN h a m o) (hkD h a m o) ∧ True) ∧ (1 : Int) = sqE (hkN h a m o) (hkD h a m o) ∧ True else True ∧ bif !decide ((0 : Int) ≤ a ∧ a ≤ (10000 : Int)) then ((0 :
  Int) = sqN (hkN h a m o) (hkD h a m o) ∧ (0 : Int) = sqD (hkN h a m o) (hkD h a m o) ∧ True) ∧ (1 : Int) = sqE (hkN h a m o) (hkD h a m o) ∧ True else True ∧ bif !decide ((0 : Int)
  ≤ m ∧ m ≤ (10000 : Int)) then ((0 : Int) = sqN (hkN h a m o) (hkD h a m o) ∧ (0 : Int) = sqD (hkN h a m o) (hkD h a m o) ∧ True) ∧ (1 : Int) = sqE (hkN h a m o) (hkD h a m o) ∧
  True else True ∧ bif !decide ((0 : Int) ≤ o ∧ o ≤ (10000 : Int)) then ((0 : Int) = sqN (hkN h a m o) (hkD h a m o) ∧ (0 : Int) = sqD (hkN h a m o) (hkD h a m o) ∧ True) ∧ (1 : Int)
  = sqE (hkN h a m o) (hkD h a m o) ∧ True else True ∧ TbP h a m o ∧ bif decide (hkD h a m o = (0 : Int)) then ((0 : Int) = sqN (hkN h a m o) (hkD h a m o) ∧ (0 : Int) = sqD (hkN h a
  m o) (hkD h a m o) ∧ True) ∧ (9 : Int) = sqE (hkN h a m o) (hkD h a m o) ∧ True else True ∧ (rdN (hkN h a m o) (hkD h a m o) = sqN (hkN h a m o) (hkD h a m o) ∧ rdD (hkN h a m o)
  (hkD h a m o) = sqD (hkN h a m o) (hkD h a m o) ∧ True) ∧ rdE (hkN h a m o) (hkD h a m o) = sqE (hkN h a m o) (hkD h a m o) ∧ True
set_option maxRecDepth 100000 in
theorem ofH_P : ofH_T := by
  unfold ofH_T
  intro gl h a m o p _ _
  exact ⟨trivial, cN p.h ⟨trivial, cN p.a ⟨trivial, cN p.m ⟨trivial, cN p.o ⟨trivial, p, sq_fin _ _⟩⟩⟩⟩⟩
def ofH_S : Prop := ∀ (gl : Glob) (h a m o : Int), TbP h a m o → fnK Try.prog { glob := gl, spec := lk [(46, swithin_s), (58, scs_s), (68, sc4_s), (36, (sred_s Go.Proofs.Ytjllgdpnbllnjaa.rdN Go.Proofs.Ytjllgdpnbllnjaa.rdD Go.Proofs.Ytjllgdpnbllnjaa.rdE))], specH := lk [], nowf := true } { nt := 46, drop := drp [(1, 261120), (3, 12582912), (4, 50331648), (5, 134217728), (6, 268435456), (7, 274341036032), (8, 274877906944), (9, 1099511627776), (10, 68169720922112)] } (fun _ _ => none) 6 Try.f40 [.int .i64 3, .agg [.int .i64 h, .int .i64 a, .int .i64 m, .int .i64 o]] (.tup [.agg [.int .i64 (sqN (hkN h a m o) (hkD h a m o)), .int .i64 (sqD (hkN h a m o) (hkD h a m o))], .int .i64 (sqE (hkN h a m o) (hkD h a m o))])
set_option maxRecDepth 100000 in
theorem ofH_e : ofH_T = ofH_S := by kernel_rfl
theorem ofH_v : ofH_S := @Eq.mp (ofH_T) (ofH_S) (ofH_e) ofH_P
theorem ofH_ok (gl : Glob) : SOK Try.prog gl 40 ofH_s := by
  refine ⟨fok Try.func40 (by kernel_rfl) (by kernel_rfl), ?_⟩
  intro xs pre r h hp
  unfold ofH_s at h
  split at h
  · simp only [Option.some.injEq, Prod.mk.injEq] at h
    obtain ⟨h1, h2⟩ := h
    subst h1 h2
    exact fnK_sound tyNil (by exact specOK rfl rfl ⟨swithin_ok gl, scs_ok gl, sc4_ok gl, sred_ok gl, trivial⟩ trivial) (by kernel_rfl) Try.func40 rfl (ofH_v gl _ _ _ _ hp)
  · cases h
def sH_s : Sp
  | [.agg [.int .i64 h, .int .i64 a, .int .i64 m, .int .i64 o]] => some (TbP h a m o, .tup [.agg [.int .i64 (sqN (hkN h a m o) (hkD h a m o)), .int .i64 (sqD (hkN h a m o) (hkD h a m o))], .int .i64 (sqE (hkN h a m o) (hkD h a m o))])
  | _ => none
set_option maxRecDepth 100000 in
def sH_T : Prop :=
  ∀ (gl : Glob) (h a m o : Int), TbP h a m o → ((-9223372036854775808 : Int) ≤ h ∧ h ≤ (9223372036854775807 : Int)) ∧ ((-9223372036854775808 : Int) ≤ a ∧ a ≤ (9223372036854775807 :
  Int)) ∧ ((-9223372036854775808 : Int) ≤ m ∧ m ≤ (9223372036854775807 : Int)) ∧ ((-9223372036854775808 : Int) ≤ o ∧ o ≤ (9223372036854775807 : Int)) ∧ True → TbP h a m o ∧ (sqN (hkN
  h a m o) (hkD h a m o) = sqN (hkN h a m o) (hkD h a m o) ∧ sqD (hkN h a m o) (hkD h a m o) = sqD (hkN h a m o) (hkD h a m o) ∧ True) ∧ sqE (hkN h a m o) (hkD h a m o) = sqE (hkN h
  a m o) (hkD h a m o) ∧ True
set_option maxRecDepth 100000 in
theorem sH_P : sH_T := by
  unfold sH_T
  intro gl h a m o p _
  exact ⟨p, ⟨rfl, rfl, trivial⟩, rfl, trivial⟩
def sH_S : Prop := ∀ (gl : Glob) (h a m o : Int), TbP h a m o → fnK Try.prog { glob := gl, spec := lk [(40, ofH_s)], specH := lk [], nowf := true } { nt := 8, drop := drp [(1, 240)] } (fun _ _ => none) 6 Try.f17 [.agg [.int .i64 h, .int .i64 a, .int .i64 m, .int .i64 o]] (.tup [.agg [.int .i64 (sqN (hkN h a m o) (hkD h a m o)), .int .i64 (sqD (hkN h a m o) (hkD h a m o))], .int .i64 (sqE (hkN h a m o) (hkD h a m o))])
set_option maxRecDepth 100000 in
theorem sH_e : sH_T = sH_S := by kernel_rfl
theorem sH_v : sH_S := @Eq.mp (sH_T) (sH_S) (sH_e) sH_P
theorem sH_ok (gl : Glob) : SOK Try.prog gl 17 sH_s := by
  refine ⟨fok Try.func17 (by kernel_rfl) (by kernel_rfl), ?_⟩
  intro xs pre r h hp
  unfold sH_s at h
  split at h
  · simp only [Option.some.injEq, Prod.mk.injEq] at h
    obtain ⟨h1, h2⟩ := h
    subst h1 h2
    exact fnK_sound tyNil (by exact specOK rfl rfl ⟨ofH_ok gl, trivial⟩ trivial) (by kernel_rfl) Try.func17 rfl (sH_v gl _ _ _ _ hp)
  · cases h
end Go.Proofs.Ytjllgdpnbllnjaa
