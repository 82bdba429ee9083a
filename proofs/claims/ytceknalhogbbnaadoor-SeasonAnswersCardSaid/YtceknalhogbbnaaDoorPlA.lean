/- Places: face, Valid, Corners, of, on. -/
import Derived.Test.YtceknalhogbbnaaDoorKv
import Derived.Test.YtceknalhogbbnaaDoorGl
namespace Go.Proofs.YtceknalhogbbnaaDoor
open Go
set_option linter.unusedVariables false
set_option linter.unusedSimpArgs false

/-- Corner k of face f. -/
def crn (f : Int) (k : Nat) : Int := crnT.getD (3 * f.toNat + k) 0
def fcs : List Int := [0, 1, 2, 3, 4, 5, 6, 7, 8, 9, 10, 11, 12, 13, 14, 15, 16, 17, 18, 19]
def allN : List Int → (Int → Prop) → Prop
  | [], _ => True
  | x :: l, p => p x ∧ allN l p
theorem allN_get {p : Int → Prop} : ∀ {l : List Int} {f : Int}, allN l p → f ∈ l → p f
  | [], f, _, h => by simp at h
  | x :: l, f, h, hf => by
    simp only [allN] at h
    rcases List.mem_cons.1 hf with rfl | hf
    · exact h.1
    · exact allN_get h.2 hf
theorem mem_fcs {f : Int} (h : 0 ≤ f ∧ f < 20) : f ∈ fcs := by
  simp only [fcs, List.mem_cons, List.not_mem_nil, or_false]; omega
def fac (n : Int) : Bool := decide (0 ≤ n ∧ n < 20)
structure Vld (f a b c : Int) : Prop where
  face : 0 ≤ f ∧ f < 20
  wa : 0 ≤ a ∧ a ≤ 840
  wb : 0 ≤ b ∧ b ≤ 840
  wc : 0 ≤ c ∧ c ≤ 840
  sum : a + b + c = 840
theorem vld_iff (f a b c : Int) : Vld f a b c ↔ (0 ≤ f ∧ f < 20) ∧ (0 ≤ a ∧ a ≤ 840) ∧ (0 ≤ b ∧ b ≤ 840) ∧ (0 ≤ c ∧ c ≤ 840) ∧ a + b + c = 840 :=
  ⟨fun h => ⟨h.1, h.2, h.3, h.4, h.5⟩, fun h => ⟨h.1, h.2.1, h.2.2.1, h.2.2.2.1, h.2.2.2.2⟩⟩
instance (f a b c : Int) : Decidable (Vld f a b c) := decidable_of_iff _ (vld_iff f a b c).symm
def vld (f a b c : Int) : Bool := decide (Vld f a b c)
/-- The weight of vertex v. -/
def wt (f a b c v : Int) : Int := if crn f 2 = v then c else if crn f 1 = v then b else if crn f 0 = v then a else 0
def sel (ws : List Int) (i : Int) : Int := ws.getD i.toNat 0

def face_s : Sp
  | [.int .i64 n] => some (True, .bool (fac n))
  | _ => none
set_option maxRecDepth 100000 in
def face_T : Prop :=
  ∀ (gl : Glob) (n : Int), (-9223372036854775808 : Int) ≤ n ∧ n ≤ (9223372036854775807 : Int) → bif decide ((0 : Int) ≤ n) then decide (n < (20 : Int)) = fac n else false = fac n
set_option maxRecDepth 100000 in
theorem face_P : face_T := by
  unfold face_T
  intro gl n hn
  unfold fac
  simp only [cdec, decide_eq_decide, Bool.true_eq, Bool.false_eq, decide_eq_true_eq, decide_eq_false_iff_not]
  omega
def face_S : Prop := ∀ (gl : Glob) (n : Int), fnK Tryd.prog { glob := gl, spec := lk [], specH := lk [] } { nt := 9, drop := drp [(1, 504)] } (fun _ _ => none) 6 Tryd.f70 [.int .i64 n] (.bool (fac n))
set_option maxRecDepth 100000 in
theorem face_e : face_T = face_S := by kernel_rfl
theorem face_v : face_S := @Eq.mp (face_T) (face_S) (face_e) face_P
theorem face_ok (gl : Glob) : SOK Tryd.prog gl 70 face_s := by
  refine ⟨fok Tryd.func70 (by kernel_rfl) (by kernel_rfl), ?_⟩
  intro xs pre r h hp
  unfold face_s at h
  split at h
  · simp only [Option.some.injEq, Prod.mk.injEq] at h
    obtain ⟨h1, h2⟩ := h
    subst h1 h2
    exact fnK_sound tyNil (by exact specOK rfl rfl trivial trivial) (by kernel_rfl) Tryd.func70 rfl (face_v gl _)
  · cases h
def valid_s (vld : Int → Int → Int → Int → Bool) : Sp
  | [.agg [.int .i64 f, .int .i64 a, .int .i64 b, .int .i64 c]] => some (True, .bool (vld f a b c))
  | _ => none
set_option maxRecDepth 100000 in
def valid_T (vld : Int → Int → Int → Int → Bool) : Prop :=
  ∀ (gl : Glob) (f a b c : Int), ((-9223372036854775808 : Int) ≤ f ∧ f ≤ (9223372036854775807 : Int)) ∧ ((-9223372036854775808 : Int) ≤ a ∧ a ≤ (9223372036854775807 : Int)) ∧
  ((-9223372036854775808 : Int) ≤ b ∧ b ≤ (9223372036854775807 : Int)) ∧ ((-9223372036854775808 : Int) ≤ c ∧ c ≤ (9223372036854775807 : Int)) ∧ True → bif decide (a < (0 : Int)) then
  false = vld f a b c else bif decide ((840 : Int) < a) then false = vld f a b c else bif decide (b < (0 : Int)) then false = vld f a b c else bif decide ((840 : Int) < b) then false
  = vld f a b c else bif decide (c < (0 : Int)) then false = vld f a b c else bif decide ((840 : Int) < c) then false = vld f a b c else True ∧ (True → bif fac f then bif decide (rng
  IntKind.i64 (a + b)) then bif decide (rng IntKind.i64 (a + b + c)) then decide (a + b + c = (840 : Int)) = vld f a b c else False else False else false = vld f a b c)
set_option maxRecDepth 100000 in
theorem valid_P : valid_T vld := by
  unfold valid_T
  intro gl f a b c h
  simp only [↓cdecF, cdec, vld, fac]
  simp only [rng, decide_eq_decide, Bool.false_eq, decide_eq_false_iff_not, vld_iff]
  repeat' (first | exact trivial | intro _ | apply And.intro)
  all_goals omega
def valid_S (vld : Int → Int → Int → Int → Bool) : Prop := ∀ (gl : Glob) (f a b c : Int), fnK Tryd.prog { glob := gl, spec := lk [(70, face_s)], specH := lk [] } { nt := 36, drop := drp [(1, 2016), (3, 16384), (4, 1015808), (6, 2097152), (7, 68715282432)] } (fun _ _ => none) 6 Tryd.f52 [.agg [.int .i64 f, .int .i64 a, .int .i64 b, .int .i64 c]] (.bool (vld f a b c))
set_option maxRecDepth 100000 in
theorem valid_e (vld : Int → Int → Int → Int → Bool) : valid_T vld = valid_S vld := by kernel_rfl
theorem valid_v : valid_S vld := @Eq.mp (valid_T vld) (valid_S vld) (valid_e vld) valid_P
theorem valid_ok (gl : Glob) : SOK Tryd.prog gl 52 (valid_s vld) := by
  refine ⟨fok Tryd.func52 (by kernel_rfl) (by kernel_rfl), ?_⟩
  intro xs pre r h hp
  unfold valid_s at h
  split at h
  · simp only [Option.some.injEq, Prod.mk.injEq] at h
    obtain ⟨h1, h2⟩ := h
    subst h1 h2
    exact fnK_sound tyNil (by exact specOK rfl rfl ⟨face_ok gl, trivial⟩ trivial) (by kernel_rfl) Tryd.func52 rfl (valid_v gl _ _ _ _)
  · cases h

def of_s : Sp
  | [.agg [.int .i64 f, .int .i64 a, .int .i64 b, .int .i64 c]] => some (0 ≤ f ∧ f < 20, .agg [.int .i64 (wt f a b c 0), .int .i64 (wt f a b c 1), .int .i64 (wt f a b c 2), .int .i64 (wt f a b c 3), .int .i64 (wt f a b c 4), .int .i64 (wt f a b c 5), .int .i64 (wt f a b c 6), .int .i64 (wt f a b c 7), .int .i64 (wt f a b c 8), .int .i64 (wt f a b c 9), .int .i64 (wt f a b c 10), .int .i64 (wt f a b c 11)])
  | _ => none
def on_s : Sp
  | [.int .i64 n, .agg [.int .i64 w0, .int .i64 w1, .int .i64 w2, .int .i64 w3, .int .i64 w4, .int .i64 w5, .int .i64 w6, .int .i64 w7, .int .i64 w8, .int .i64 w9, .int .i64 w10, .int .i64 w11]] => some (0 ≤ n ∧ n < 20, .tup [.agg [.int .i64 n, .int .i64 (sel [w0, w1, w2, w3, w4, w5, w6, w7, w8, w9, w10, w11] (crn n 0)), .int .i64 (sel [w0, w1, w2, w3, w4, w5, w6, w7, w8, w9, w10, w11] (crn n 1)), .int .i64 (sel [w0, w1, w2, w3, w4, w5, w6, w7, w8, w9, w10, w11] (crn n 2))], .bool (vld n (sel [w0, w1, w2, w3, w4, w5, w6, w7, w8, w9, w10, w11] (crn n 0)) (sel [w0, w1, w2, w3, w4, w5, w6, w7, w8, w9, w10, w11] (crn n 1)) (sel [w0, w1, w2, w3, w4, w5, w6, w7, w8, w9, w10, w11] (crn n 2)))])
  | _ => none
set_option maxRecDepth 100000 in
def of20_T : Prop :=
  ∀ (a b c : Int), (((-9223372036854775808 : Int) ≤ (0 : Int) ∧ (0 : Int) ≤ (9223372036854775807 : Int)) ∧ ((-9223372036854775808 : Int) ≤ a ∧ a ≤ (9223372036854775807 : Int)) ∧
  ((-9223372036854775808 : Int) ≤ b ∧ b ≤ (9223372036854775807 : Int)) ∧ ((-9223372036854775808 : Int) ≤ c ∧ c ≤ (9223372036854775807 : Int)) ∧ True → a = wt (0 : Int) a b c (0 :
  Int) ∧ b = wt (0 : Int) a b c (1 : Int) ∧ c = wt (0 : Int) a b c (2 : Int) ∧ (0 : Int) = wt (0 : Int) a b c (3 : Int) ∧ (0 : Int) = wt (0 : Int) a b c (4 : Int) ∧ (0 : Int) = wt (0
  : Int) a b c (5 : Int) ∧ (0 : Int) = wt (0 : Int) a b c (6 : Int) ∧ (0 : Int) = wt (0 : Int) a b c (7 : Int) ∧ (0 : Int) = wt (0 : Int) a b c (8 : Int) ∧ (0 : Int) = wt (0 : Int) a
  b c (9 : Int) ∧ (0 : Int) = wt (0 : Int) a b c (10 : Int) ∧ (0 : Int) = wt (0 : Int) a b c (11 : Int) ∧ True) ∧ (((-9223372036854775808 : Int) ≤ (1 : Int) ∧ (1 : Int) ≤
  (9223372036854775807 : Int)) ∧ ((-9223372036854775808 : Int) ≤ a ∧ a ≤ (9223372036854775807 : Int)) ∧ ((-9223372036854775808 : Int) ≤ b ∧ b ≤ (9223372036854775807 : Int)) ∧
  ((-9223372036854775808 : Int) ≤ c ∧ c ≤ (9223372036854775807 : Int)) ∧ True → a = wt (1 : Int) a b c (0 : Int) ∧ (0 : Int) = wt (1 : Int) a b c (1 : Int) ∧ b = wt (1 : Int) a b c
  (2 : Int) ∧ c = wt (1 : Int) a b c (3 : Int) ∧ (0 : Int) = wt (1 : Int) a b c (4 : Int) ∧ (0 : Int) = wt (1 : Int) a b c (5 : Int) ∧ (0 : Int) = wt (1 : Int) a b c (6 : Int) ∧ (0 :
  Int) = wt (1 : Int) a b c (7 : Int) ∧ (0 : Int) = wt (1 : Int) a b c (8 : Int) ∧ (0 : Int) = wt (1 : Int) a b c (9 : Int) ∧ (0 : Int) = wt (1 : Int) a b c (10 : Int) ∧ (0 : Int) =
  wt (1 : Int) a b c (11 : Int) ∧ True) ∧ (((-9223372036854775808 : Int) ≤ (2 : Int) ∧ (2 : Int) ≤ (9223372036854775807 : Int)) ∧ ((-9223372036854775808 : Int) ≤ a ∧ a ≤
  (9223372036854775807 : Int)) ∧ ((-9223372036854775808 : Int) ≤ b ∧ b ≤ (9223372036854775807 : Int)) ∧ ((-9223372036854775808 : Int) ≤ c ∧ c ≤ (9223372036854775807 : Int)) ∧ True →
  a = wt (2 : Int) a b c (0 : Int) ∧ (0 : Int) = wt (2 : Int) a b c (1 : Int) ∧ (0 : Int) = wt (2 : Int) a b c (2 : Int) ∧ b = wt (2 : Int) a b c (3 : Int) ∧ c = wt (2 : Int) a b c
  (4 : Int) ∧ (0 : Int) = wt (2 : Int) a b c (5 : Int) ∧ (0 : Int) = wt (2 : Int) a b c (6 : Int) ∧ (0 : Int) = wt (2 : Int) a b c (7 : Int) ∧ (0 : Int) = wt (2 : Int) a b c (8 :
  Int) ∧ (0 : Int) = wt (2 : Int) a b c (9 : Int) ∧ (0 : Int) = wt (2 : Int) a b c (10 : Int) ∧ (0 : Int) = wt (2 : Int) a b c (11 : Int) ∧ True) ∧ (((-9223372036854775808 : Int) ≤
  (3 : Int) ∧ (3 : Int) ≤ (9223372036854775807 : Int)) ∧ ((-9223372036854775808 : Int) ≤ a ∧ a ≤ (9223372036854775807 : Int)) ∧ ((-9223372036854775808 : Int) ≤ b ∧ b ≤
  (9223372036854775807 : Int)) ∧ ((-9223372036854775808 : Int) ≤ c ∧ c ≤ (9223372036854775807 : Int)) ∧ True → a = wt (3 : Int) a b c (0 : Int) ∧ (0 : Int) = wt (3 : Int) a b c (1 :
  Int) ∧ (0 : Int) = wt (3 : Int) a b c (2 : Int) ∧ (0 : Int) = wt (3 : Int) a b c (3 : Int) ∧ b = wt (3 : Int) a b c (4 : Int) ∧ c = wt (3 : Int) a b c (5 : Int) ∧ (0 : Int) = wt (3
  : Int) a b c (6 : Int) ∧ (0 : Int) = wt (3 : Int) a b c (7 : Int) ∧ (0 : Int) = wt (3 : Int) a b c (8 : Int) ∧ (0 : Int) = wt (3 : Int) a b c (9 : Int) ∧ (0 : Int) = wt (3 : Int) a
  b c (10 : Int) ∧ (0 : Int) = wt (3 : Int) a b c (11 : Int) ∧ True) ∧ (((-9223372036854775808 : Int) ≤ (4 : Int) ∧ (4 : Int) ≤ (9223372036854775807 : Int)) ∧ ((-9223372036854775808
  : Int) ≤ a ∧ a ≤ (9223372036854775807 : Int)) ∧ ((-9223372036854775808 : Int) ≤ b ∧ b ≤ (9223372036854775807 : Int)) ∧ ((-9223372036854775808 : Int) ≤ c ∧ c ≤ (9223372036854775807
  : Int)) ∧ True → a = wt (4 : Int) a b c (0 : Int) ∧ c = wt (4 : Int) a b c (1 : Int) ∧ (0 : Int) = wt (4 : Int) a b c (2 : Int) ∧ (0 : Int) = wt (4 : Int) a b c (3 : Int) ∧ (0 :
  Int) = wt (4 : Int) a b c (4 : Int) ∧ b = wt (4 : Int) a b c (5 : Int) ∧ (0 : Int) = wt (4 : Int) a b c (6 : Int) ∧ (0 : Int) = wt (4 : Int) a b c (7 : Int) ∧ (0 : Int) = wt (4 :
  Int) a b c (8 : Int) ∧ (0 : Int) = wt (4 : Int) a b c (9 : Int) ∧ (0 : Int) = wt (4 : Int) a b c (10 : Int) ∧ (0 : Int) = wt (4 : Int) a b c (11 : Int) ∧ True) ∧
  (((-9223372036854775808 : Int) ≤ (5 : Int) ∧ (5 : Int) ≤ (9223372036854775807 : Int)) ∧ ((-9223372036854775808 : Int) ≤ a ∧ a ≤ (9223372036854775807 : Int)) ∧
  ((-9223372036854775808 : Int) ≤ b ∧ b ≤ (9223372036854775807 : Int)) ∧ ((-9223372036854775808 : Int) ≤ c ∧ c ≤ (9223372036854775807 : Int)) ∧ True → (0 : Int) = wt (5 : Int) a b c
  (0 : Int) ∧ a = wt (5 : Int) a b c (1 : Int) ∧ c = wt (5 : Int) a b c (2 : Int) ∧ (0 : Int) = wt (5 : Int) a b c (3 : Int) ∧ (0 : Int) = wt (5 : Int) a b c (4 : Int) ∧ (0 : Int) =
  wt (5 : Int) a b c (5 : Int) ∧ b = wt (5 : Int) a b c (6 : Int) ∧ (0 : Int) = wt (5 : Int) a b c (7 : Int) ∧ (0 : Int) = wt (5 : Int) a b c (8 : Int) ∧ (0 : Int) = wt (5 : Int) a b
  c (9 : Int) ∧ (0 : Int) = wt (5 : Int) a b c (10 : Int) ∧ (0 : Int) = wt (5 : Int) a b c (11 : Int) ∧ True) ∧ (((-9223372036854775808 : Int) ≤ (6 : Int) ∧ (6 : Int) ≤
  (9223372036854775807 : Int)) ∧ ((-9223372036854775808 : Int) ≤ a ∧ a ≤ (9223372036854775807 : Int)) ∧ ((-9223372036854775808 : Int) ≤ b ∧ b ≤ (9223372036854775807 : Int)) ∧
  ((-9223372036854775808 : Int) ≤ c ∧ c ≤ (9223372036854775807 : Int)) ∧ True → (0 : Int) = wt (6 : Int) a b c (0 : Int) ∧ (0 : Int) = wt (6 : Int) a b c (1 : Int) ∧ a = wt (6 : Int)
  a b c (2 : Int) ∧ c = wt (6 : Int) a b c (3 : Int) ∧ (0 : Int) = wt (6 : Int) a b c (4 : Int) ∧ (0 : Int) = wt (6 : Int) a b c (5 : Int) ∧ (0 : Int) = wt (6 : Int) a b c (6 : Int)
  ∧ b = wt (6 : Int) a b c (7 : Int) ∧ (0 : Int) = wt (6 : Int) a b c (8 : Int) ∧ (0 : Int) = wt (6 : Int) a b c (9 : Int) ∧ (0 : Int) = wt (6 : Int) a b c (10 : Int) ∧ (0 : Int) =
  wt (6 : Int) a b c (11 : Int) ∧ True) ∧ (((-9223372036854775808 : Int) ≤ (7 : Int) ∧ (7 : Int) ≤ (9223372036854775807 : Int)) ∧ ((-9223372036854775808 : Int) ≤ a ∧ a ≤
  (9223372036854775807 : Int)) ∧ ((-9223372036854775808 : Int) ≤ b ∧ b ≤ (9223372036854775807 : Int)) ∧ ((-9223372036854775808 : Int) ≤ c ∧ c ≤ (9223372036854775807 : Int)) ∧ True →
  (0 : Int) = wt (7 : Int) a b c (0 : Int) ∧ (0 : Int) = wt (7 : Int) a b c (1 : Int) ∧ (0 : Int) = wt (7 : Int) a b c (2 : Int) ∧ a = wt (7 : Int) a b c (3 : Int) ∧ c = wt (7 : Int)
  a b c (4 : Int) ∧ (0 : Int) = wt (7 : Int) a b c (5 : Int) ∧ (0 : Int) = wt (7 : Int) a b c (6 : Int) ∧ (0 : Int) = wt (7 : Int) a b c (7 : Int) ∧ b = wt (7 : Int) a b c (8 : Int)
  ∧ (0 : Int) = wt (7 : Int) a b c (9 : Int) ∧ (0 : Int) = wt (7 : Int) a b c (10 : Int) ∧ (0 : Int) = wt (7 : Int) a b c (11 : Int) ∧ True) ∧ (((-9223372036854775808 : Int) ≤ (8 :
  Int) ∧ (8 : Int) ≤ (9223372036854775807 : Int)) ∧ ((-9223372036854775808 : Int) ≤ a ∧ a ≤ (9223372036854775807 : Int)) ∧ ((-9223372036854775808 : Int) ≤ b ∧ b ≤
  (9223372036854775807 : Int)) ∧ ((-9223372036854775808 : Int) ≤ c ∧ c ≤ (9223372036854775807 : Int)) ∧ True → (0 : Int) = wt (8 : Int) a b c (0 : Int) ∧ (0 : Int) = wt (8 : Int) a b
  c (1 : Int) ∧ (0 : Int) = wt (8 : Int) a b c (2 : Int) ∧ (0 : Int) = wt (8 : Int) a b c (3 : Int) ∧ a = wt (8 : Int) a b c (4 : Int) ∧ c = wt (8 : Int) a b c (5 : Int) ∧ (0 : Int)
  = wt (8 : Int) a b c (6 : Int) ∧ (0 : Int) = wt (8 : Int) a b c (7 : Int) ∧ (0 : Int) = wt (8 : Int) a b c (8 : Int) ∧ b = wt (8 : Int) a b c (9 : Int) ∧ (0 : Int) = wt (8 : Int) a
  b c (10 : Int) ∧ (0 : Int) = wt (8 : Int) a b c (11 : Int) ∧ True) ∧ (((-9223372036854775808 : Int) ≤ (9 : Int) ∧ (9 : Int) ≤ (9223372036854775807 : Int)) ∧ ((-9223372036854775808
  : Int) ≤ a ∧ a ≤ (9223372036854775807 : Int)) ∧ ((-9223372036854775808 : Int) ≤ b ∧ b ≤ (9223372036854775807 : Int)) ∧ ((-9223372036854775808 : Int) ≤ c ∧ c ≤ (9223372036854775807
  : Int)) ∧ True → (0 : Int) = wt (9 : Int) a b c (0 : Int) ∧ c = wt (9 : Int) a b c (1 : Int) ∧ (0 : Int) = wt (9 : Int) a b c (2 : Int) ∧ (0 : Int) = wt (9 : Int) a b c (3 : Int) ∧
  (0 : Int) = wt (9 : Int) a b c (4 : Int) ∧ a = wt (9 : Int) a b c (5 : Int) ∧ (0 : Int) = wt (9 : Int) a b c (6 : Int) ∧ (0 : Int) = wt (9 : Int) a b c (7 : Int) ∧ (0 : Int) = wt
  (9 : Int) a b c (8 : Int) ∧ (0 : Int) = wt (9 : Int) a b c (9 : Int) ∧ b = wt (9 : Int) a b c (10 : Int) ∧ (0 : Int) = wt (9 : Int) a b c (11 : Int) ∧ True) ∧
  (((-9223372036854775808 : Int) ≤ (10 : Int) ∧ (10 : Int) ≤ (9223372036854775807 : Int)) ∧ ((-9223372036854775808 : Int) ≤ a ∧ a ≤ (9223372036854775807 : Int)) ∧
  ((-9223372036854775808 : Int) ≤ b ∧ b ≤ (9223372036854775807 : Int)) ∧ ((-9223372036854775808 : Int) ≤ c ∧ c ≤ (9223372036854775807 : Int)) ∧ True → (0 : Int) = wt (10 : Int) a b c
  (0 : Int) ∧ (0 : Int) = wt (10 : Int) a b c (1 : Int) ∧ c = wt (10 : Int) a b c (2 : Int) ∧ (0 : Int) = wt (10 : Int) a b c (3 : Int) ∧ (0 : Int) = wt (10 : Int) a b c (4 : Int) ∧
  (0 : Int) = wt (10 : Int) a b c (5 : Int) ∧ a = wt (10 : Int) a b c (6 : Int) ∧ b = wt (10 : Int) a b c (7 : Int) ∧ (0 : Int) = wt (10 : Int) a b c (8 : Int) ∧ (0 : Int) = wt (10 :
  Int) a b c (9 : Int) ∧ (0 : Int) = wt (10 : Int) a b c (10 : Int) ∧ (0 : Int) = wt (10 : Int) a b c (11 : Int) ∧ True) ∧ (((-9223372036854775808 : Int) ≤ (11 : Int) ∧ (11 : Int) ≤
  (9223372036854775807 : Int)) ∧ ((-9223372036854775808 : Int) ≤ a ∧ a ≤ (9223372036854775807 : Int)) ∧ ((-9223372036854775808 : Int) ≤ b ∧ b ≤ (9223372036854775807 : Int)) ∧
  ((-9223372036854775808 : Int) ≤ c ∧ c ≤ (9223372036854775807 : Int)) ∧ True → (0 : Int) = wt (11 : Int) a b c (0 : Int) ∧ (0 : Int) = wt (11 : Int) a b c (1 : Int) ∧ (0 : Int) = wt
  (11 : Int) a b c (2 : Int) ∧ c = wt (11 : Int) a b c (3 : Int) ∧ (0 : Int) = wt (11 : Int) a b c (4 : Int) ∧ (0 : Int) = wt (11 : Int) a b c (5 : Int) ∧ (0 : Int) = wt (11 : Int) a
  b c (6 : Int) ∧ a = wt (11 : Int) a b c (7 : Int) ∧ b = wt (11 : Int) a b c (8 : Int) ∧ (0 : Int) = wt (11 : Int) a b c (9 : Int) ∧ (0 : Int) = wt (11 : Int) a b c (10 : Int) ∧ (0
  : Int) = wt (11 : Int) a b c (11 : Int) ∧ True) ∧ (((-9223372036854775808 : Int) ≤ (12 : Int) ∧ (12 : Int) ≤ (9223372036854775807 : Int)) ∧ ((-9223372036854775808 : Int) ≤ a ∧ a ≤
  (9223372036854775807 : Int)) ∧ ((-9223372036854775808 : Int) ≤ b ∧ b ≤ (9223372036854775807 : Int)) ∧ ((-9223372036854775808 : Int) ≤ c ∧ c ≤ (9223372036854775807 : Int)) ∧ True →
  (0 : Int) = wt (12 : Int) a b c (0 : Int) ∧ (0 : Int) = wt (12 : Int) a b c (1 : Int) ∧ (0 : Int) = wt (12 : Int) a b c (2 : Int) ∧ (0 : Int) = wt (12 : Int) a b c (3 : Int) ∧ c =
  wt (12 : Int) a b c (4 : Int) ∧ (0 : Int) = wt (12 : Int) a b c (5 : Int) ∧ (0 : Int) = wt (12 : Int) a b c (6 : Int) ∧ (0 : Int) = wt (12 : Int) a b c (7 : Int) ∧ a = wt (12 :
  Int) a b c (8 : Int) ∧ b = wt (12 : Int) a b c (9 : Int) ∧ (0 : Int) = wt (12 : Int) a b c (10 : Int) ∧ (0 : Int) = wt (12 : Int) a b c (11 : Int) ∧ True) ∧ (((-9223372036854775808
  : Int) ≤ (13 : Int) ∧ (13 : Int) ≤ (9223372036854775807 : Int)) ∧ ((-9223372036854775808 : Int) ≤ a ∧ a ≤ (9223372036854775807 : Int)) ∧ ((-9223372036854775808 : Int) ≤ b ∧ b ≤
  (9223372036854775807 : Int)) ∧ ((-9223372036854775808 : Int) ≤ c ∧ c ≤ (9223372036854775807 : Int)) ∧ True → (0 : Int) = wt (13 : Int) a b c (0 : Int) ∧ (0 : Int) = wt (13 : Int) a
  b c (1 : Int) ∧ (0 : Int) = wt (13 : Int) a b c (2 : Int) ∧ (0 : Int) = wt (13 : Int) a b c (3 : Int) ∧ (0 : Int) = wt (13 : Int) a b c (4 : Int) ∧ c = wt (13 : Int) a b c (5 :
  Int) ∧ (0 : Int) = wt (13 : Int) a b c (6 : Int) ∧ (0 : Int) = wt (13 : Int) a b c (7 : Int) ∧ (0 : Int) = wt (13 : Int) a b c (8 : Int) ∧ a = wt (13 : Int) a b c (9 : Int) ∧ b =
  wt (13 : Int) a b c (10 : Int) ∧ (0 : Int) = wt (13 : Int) a b c (11 : Int) ∧ True) ∧ (((-9223372036854775808 : Int) ≤ (14 : Int) ∧ (14 : Int) ≤ (9223372036854775807 : Int)) ∧
  ((-9223372036854775808 : Int) ≤ a ∧ a ≤ (9223372036854775807 : Int)) ∧ ((-9223372036854775808 : Int) ≤ b ∧ b ≤ (9223372036854775807 : Int)) ∧ ((-9223372036854775808 : Int) ≤ c ∧ c
  ≤ (9223372036854775807 : Int)) ∧ True → (0 : Int) = wt (14 : Int) a b c (0 : Int) ∧ c = wt (14 : Int) a b c (1 : Int) ∧ (0 : Int) = wt (14 : Int) a b c (2 : Int) ∧ (0 : Int) = wt
  (14 : Int) a b c (3 : Int) ∧ (0 : Int) = wt (14 : Int) a b c (4 : Int) ∧ (0 : Int) = wt (14 : Int) a b c (5 : Int) ∧ b = wt (14 : Int) a b c (6 : Int) ∧ (0 : Int) = wt (14 : Int) a
  b c (7 : Int) ∧ (0 : Int) = wt (14 : Int) a b c (8 : Int) ∧ (0 : Int) = wt (14 : Int) a b c (9 : Int) ∧ a = wt (14 : Int) a b c (10 : Int) ∧ (0 : Int) = wt (14 : Int) a b c (11 :
  Int) ∧ True) ∧ (((-9223372036854775808 : Int) ≤ (15 : Int) ∧ (15 : Int) ≤ (9223372036854775807 : Int)) ∧ ((-9223372036854775808 : Int) ≤ a ∧ a ≤ (9223372036854775807 : Int)) ∧
  ((-9223372036854775808 : Int) ≤ b ∧ b ≤ (9223372036854775807 : Int)) ∧ ((-9223372036854775808 : Int) ≤ c ∧ c ≤ (9223372036854775807 : Int)) ∧ True → (0 : Int) = wt (15 : Int) a b c
  (0 : Int) ∧ (0 : Int) = wt (15 : Int) a b c (1 : Int) ∧ (0 : Int) = wt (15 : Int) a b c (2 : Int) ∧ (0 : Int) = wt (15 : Int) a b c (3 : Int) ∧ (0 : Int) = wt (15 : Int) a b c (4 :
  Int) ∧ (0 : Int) = wt (15 : Int) a b c (5 : Int) ∧ c = wt (15 : Int) a b c (6 : Int) ∧ b = wt (15 : Int) a b c (7 : Int) ∧ (0 : Int) = wt (15 : Int) a b c (8 : Int) ∧ (0 : Int) =
  wt (15 : Int) a b c (9 : Int) ∧ (0 : Int) = wt (15 : Int) a b c (10 : Int) ∧ a = wt (15 : Int) a b c (11 : Int) ∧ True) ∧ (((-9223372036854775808 : Int) ≤ (16 : Int) ∧ (16 : Int) ≤
  (9223372036854775807 : Int)) ∧ ((-9223372036854775808 : Int) ≤ a ∧ a ≤ (9223372036854775807 : Int)) ∧ ((-9223372036854775808 : Int) ≤ b ∧ b ≤ (9223372036854775807 : Int)) ∧
  ((-9223372036854775808 : Int) ≤ c ∧ c ≤ (9223372036854775807 : Int)) ∧ True → (0 : Int) = wt (16 : Int) a b c (0 : Int) ∧ (0 : Int) = wt (16 : Int) a b c (1 : Int) ∧ (0 : Int) = wt
  (16 : Int) a b c (2 : Int) ∧ (0 : Int) = wt (16 : Int) a b c (3 : Int) ∧ (0 : Int) = wt (16 : Int) a b c (4 : Int) ∧ (0 : Int) = wt (16 : Int) a b c (5 : Int) ∧ (0 : Int) = wt (16
  : Int) a b c (6 : Int) ∧ c = wt (16 : Int) a b c (7 : Int) ∧ b = wt (16 : Int) a b c (8 : Int) ∧ (0 : Int) = wt (16 : Int) a b c (9 : Int) ∧ (0 : Int) = wt (16 : Int) a b c (10 :
  Int) ∧ a = wt (16 : Int) a b c (11 : Int) ∧ True) ∧ (((-9223372036854775808 : Int) ≤ (17 : Int) ∧ (17 : Int) ≤ (9223372036854775807 : Int)) ∧ ((-9223372036854775808 : Int) ≤ a ∧ a
  ≤ (9223372036854775807 : Int)) ∧ ((-9223372036854775808 : Int) ≤ b ∧ b ≤ (9223372036854775807 : Int)) ∧ ((-9223372036854775808 : Int) ≤ c ∧ c ≤ (9223372036854775807 : Int)) ∧ True
  → (0 : Int) = wt (17 : Int) a b c (0 : Int) ∧ (0 : Int) = wt (17 : Int) a b c (1 : Int) ∧ (0 : Int) = wt (17 : Int) a b c (2 : Int) ∧ (0 : Int) = wt (17 : Int) a b c (3 : Int) ∧ (0
  : Int) = wt (17 : Int) a b c (4 : Int) ∧ (0 : Int) = wt (17 : Int) a b c (5 : Int) ∧ (0 : Int) = wt (17 : Int) a b c (6 : Int) ∧ (0 : Int) = wt (17 : Int) a b c (7 : Int) ∧ c = wt
  (17 : Int) a b c (8 : Int) ∧ b = wt (17 : Int) a b c (9 : Int) ∧ (0 : Int) = wt (17 : Int) a b c (10 : Int) ∧ a = wt (17 : Int) a b c (11 : Int) ∧ True) ∧ (((-9223372036854775808 :
  Int) ≤ (18 : Int) ∧ (18 : Int) ≤ (9223372036854775807 : Int)) ∧ ((-9223372036854775808 : Int) ≤ a ∧ a ≤ (9223372036854775807 : Int)) ∧ ((-9223372036854775808 : Int) ≤ b ∧ b ≤
  (9223372036854775807 : Int)) ∧ ((-9223372036854775808 : Int) ≤ c ∧ c ≤ (9223372036854775807 : Int)) ∧ True → (0 : Int) = wt (18 : Int) a b c (0 : Int) ∧ (0 : Int) = wt (18 : Int) a
  b c (1 : Int) ∧ (0 : Int) = wt (18 : Int) a b c (2 : Int) ∧ (0 : Int) = wt (18 : Int) a b c (3 : Int) ∧ (0 : Int) = wt (18 : Int) a b c (4 : Int) ∧ (0 : Int) = wt (18 : Int) a b c
  (5 : Int) ∧ (0 : Int) = wt (18 : Int) a b c (6 : Int) ∧ (0 : Int) = wt (18 : Int) a b c (7 : Int) ∧ (0 : Int) = wt (18 : Int) a b c (8 : Int) ∧ c = wt (18 : Int) a b c (9 : Int) ∧
  b = wt (18 : Int) a b c (10 : Int) ∧ a = wt (18 : Int) a b c (11 : Int) ∧ True) ∧ (((-9223372036854775808 : Int) ≤ (19 : Int) ∧ (19 : Int) ≤ (9223372036854775807 : Int)) ∧
  ((-9223372036854775808 : Int) ≤ a ∧ a ≤ (9223372036854775807 : Int)) ∧ ((-9223372036854775808 : Int) ≤ b ∧ b ≤ (9223372036854775807 : Int)) ∧ ((-9223372036854775808 : Int) ≤ c ∧ c
  ≤ (9223372036854775807 : Int)) ∧ True → (0 : Int) = wt (19 : Int) a b c (0 : Int) ∧ (0 : Int) = wt (19 : Int) a b c (1 : Int) ∧ (0 : Int) = wt (19 : Int) a b c (2 : Int) ∧ (0 :
  Int) = wt (19 : Int) a b c (3 : Int) ∧ (0 : Int) = wt (19 : Int) a b c (4 : Int) ∧ (0 : Int) = wt (19 : Int) a b c (5 : Int) ∧ b = wt (19 : Int) a b c (6 : Int) ∧ (0 : Int) = wt
  (19 : Int) a b c (7 : Int) ∧ (0 : Int) = wt (19 : Int) a b c (8 : Int) ∧ (0 : Int) = wt (19 : Int) a b c (9 : Int) ∧ c = wt (19 : Int) a b c (10 : Int) ∧ a = wt (19 : Int) a b c
  (11 : Int) ∧ True) ∧ True
set_option maxRecDepth 100000 in
theorem of20_P : of20_T := by
  unfold of20_T
  intro a b c
  repeat' (first | exact trivial | intro _ | rfl | apply And.intro)
def of20_S : Prop := ∀ a b c : Int, allN fcs fun f => fnK Tryd.prog { glob := glb } { nt := 25 } (fun _ _ => none) 6 Tryd.f71 [.agg [.int .i64 f, .int .i64 a, .int .i64 b, .int .i64 c]] (.agg [.int .i64 (wt f a b c 0), .int .i64 (wt f a b c 1), .int .i64 (wt f a b c 2), .int .i64 (wt f a b c 3), .int .i64 (wt f a b c 4), .int .i64 (wt f a b c 5), .int .i64 (wt f a b c 6), .int .i64 (wt f a b c 7), .int .i64 (wt f a b c 8), .int .i64 (wt f a b c 9), .int .i64 (wt f a b c 10), .int .i64 (wt f a b c 11)])
set_option maxRecDepth 100000 in
theorem of20_e : of20_T = of20_S := by kernel_rfl
theorem of20 : of20_S := @Eq.mp (of20_T) (of20_S) (of20_e) of20_P
set_option maxRecDepth 100000 in
def on20_T : Prop :=
  ∀ (w0 w1 w2 w3 w4 w5 w6 w7 w8 w9 w10 w11 : Int), ((-9223372036854775808 : Int) ≤ (0 : Int) ∧ (0 : Int) ≤ (9223372036854775807 : Int) → ((-9223372036854775808 : Int) ≤ w0 ∧ w0 ≤
  (9223372036854775807 : Int)) ∧ ((-9223372036854775808 : Int) ≤ w1 ∧ w1 ≤ (9223372036854775807 : Int)) ∧ ((-9223372036854775808 : Int) ≤ w2 ∧ w2 ≤ (9223372036854775807 : Int)) ∧
  ((-9223372036854775808 : Int) ≤ w3 ∧ w3 ≤ (9223372036854775807 : Int)) ∧ ((-9223372036854775808 : Int) ≤ w4 ∧ w4 ≤ (9223372036854775807 : Int)) ∧ ((-9223372036854775808 : Int) ≤ w5
  ∧ w5 ≤ (9223372036854775807 : Int)) ∧ ((-9223372036854775808 : Int) ≤ w6 ∧ w6 ≤ (9223372036854775807 : Int)) ∧ ((-9223372036854775808 : Int) ≤ w7 ∧ w7 ≤ (9223372036854775807 :
  Int)) ∧ ((-9223372036854775808 : Int) ≤ w8 ∧ w8 ≤ (9223372036854775807 : Int)) ∧ ((-9223372036854775808 : Int) ≤ w9 ∧ w9 ≤ (9223372036854775807 : Int)) ∧ ((-9223372036854775808 :
  Int) ≤ w10 ∧ w10 ≤ (9223372036854775807 : Int)) ∧ ((-9223372036854775808 : Int) ≤ w11 ∧ w11 ≤ (9223372036854775807 : Int)) ∧ True → True ∧ ((0 : Int) = (0 : Int) ∧ w0 = sel [w0,
  w1, w2, w3, w4, w5, w6, w7, w8, w9, w10, w11] (0 : Int) ∧ w1 = sel [w0, w1, w2, w3, w4, w5, w6, w7, w8, w9, w10, w11] (1 : Int) ∧ w2 = sel [w0, w1, w2, w3, w4, w5, w6, w7, w8, w9,
  w10, w11] (2 : Int) ∧ True) ∧ vld (0 : Int) w0 w1 w2 = vld (0 : Int) (sel [w0, w1, w2, w3, w4, w5, w6, w7, w8, w9, w10, w11] (0 : Int)) (sel [w0, w1, w2, w3, w4, w5, w6, w7, w8,
  w9, w10, w11] (1 : Int)) (sel [w0, w1, w2, w3, w4, w5, w6, w7, w8, w9, w10, w11] (2 : Int)) ∧ True) ∧ ((-9223372036854775808 : Int) ≤ (1 : Int) ∧ (1 : Int) ≤ (9223372036854775807 :
  Int) → ((-9223372036854775808 : Int) ≤ w0 ∧ w0 ≤ (9223372036854775807 : Int)) ∧ ((-9223372036854775808 : Int) ≤ w1 ∧ w1 ≤ (9223372036854775807 : Int)) ∧ ((-9223372036854775808 :
  Int) ≤ w2 ∧ w2 ≤ (9223372036854775807 : Int)) ∧ ((-9223372036854775808 : Int) ≤ w3 ∧ w3 ≤ (9223372036854775807 : Int)) ∧ ((-9223372036854775808 : Int) ≤ w4 ∧ w4 ≤
  (9223372036854775807 : Int)) ∧ ((-9223372036854775808 : Int) ≤ w5 ∧ w5 ≤ (9223372036854775807 : Int)) ∧ ((-9223372036854775808 : Int) ≤ w6 ∧ w6 ≤ (9223372036854775807 : Int)) ∧
  ((-9223372036854775808 : Int) ≤ w7 ∧ w7 ≤ (9223372036854775807 : Int)) ∧ ((-9223372036854775808 : Int) ≤ w8 ∧ w8 ≤ (9223372036854775807 : Int)) ∧ ((-9223372036854775808 : Int) ≤ w9
  ∧ w9 ≤ (9223372036854775807 : Int)) ∧ ((-9223372036854775808 : Int) ≤ w10 ∧ w10 ≤ (9223372036854775807 : Int)) ∧ ((-9223372036854775808 : Int) ≤ w11 ∧ w11 ≤ (9223372036854775807 :
  Int)) ∧ True → True ∧ ((1 : Int) = (1 : Int) ∧ w0 = sel [w0, w1, w2, w3, w4, w5, w6, w7, w8, w9, w10, w11] (0 : Int) ∧ w2 = sel [w0, w1, w2, w3, w4, w5, w6, w7, w8, w9, w10, w11]
  (2 : Int) ∧ w3 = sel [w0, w1, w2, w3, w4, w5, w6, w7, w8, w9, w10, w11] (3 : Int) ∧ True) ∧ vld (1 : Int) w0 w2 w3 = vld (1 : Int) (sel [w0, w1, w2, w3, w4, w5, w6, w7, w8, w9,
  w10, w11] (0 : Int)) (sel [w0, w1, w2, w3, w4, w5, w6, w7, w8, w9, w10, w11] (2 : Int)) (sel [w0, w1, w2, w3, w4, w5, w6, w7, w8, w9, w10, w11] (3 : Int)) ∧ True) ∧
  ((-9223372036854775808 : Int) ≤ (2 : Int) ∧ (2 : Int) ≤ (9223372036854775807 : Int) → ((-9223372036854775808 : Int) ≤ w0 ∧ w0 ≤ (9223372036854775807 : Int)) ∧
  ((-9223372036854775808 : Int) ≤ w1 ∧ w1 ≤ (9223372036854775807 : Int)) ∧ ((-9223372036854775808 : Int) ≤ w2 ∧ w2 ≤ (9223372036854775807 : Int)) ∧ ((-9223372036854775808 : Int) ≤ w3
  ∧ w3 ≤ (9223372036854775807 : Int)) ∧ ((-9223372036854775808 : Int) ≤ w4 ∧ w4 ≤ (9223372036854775807 : Int)) ∧ ((-9223372036854775808 : Int) ≤ w5 ∧ w5 ≤ (9223372036854775807 :
  Int)) ∧ ((-9223372036854775808 : Int) ≤ w6 ∧ w6 ≤ (9223372036854775807 : Int)) ∧ ((-9223372036854775808 : Int) ≤ w7 ∧ w7 ≤ (9223372036854775807 : Int)) ∧ ((-9223372036854775808 :
  Int) ≤ w8 ∧ w8 ≤ (9223372036854775807 : Int)) ∧ ((-9223372036854775808 : Int) ≤ w9 ∧ w9 ≤ (9223372036854775807 : Int)) ∧ ((-9223372036854775808 : Int) ≤ w10 ∧ w10 ≤
  (9223372036854775807 : Int)) ∧ ((-9223372036854775808 : Int) ≤ w11 ∧ w11 ≤ (9223372036854775807 : Int)) ∧ True → True ∧ ((2 : Int) = (2 : Int) ∧ w0 = sel [w0, w1, w2, w3, w4, w5,
  w6, w7, w8, w9, w10, w11] (0 : Int) ∧ w3 = sel [w0, w1, w2, w3, w4, w5, w6, w7, w8, w9, w10, w11] (3 : Int) ∧ w4 = sel [w0, w1, w2, w3, w4, w5, w6, w7, w8, w9, w10, w11] (4 : Int)
  ∧ True) ∧ vld (2 : Int) w0 w3 w4 = vld (2 : Int) (sel [w0, w1, w2, w3, w4, w5, w6, w7, w8, w9, w10, w11] (0 : Int)) (sel [w0, w1, w2, w3, w4, w5, w6, w7, w8, w9, w10, w11] (3 :
  Int)) (sel [w0, w1, w2, w3, w4, w5, w6, w7, w8, w9, w10, w11] (4 : Int)) ∧ True) ∧ ((-9223372036854775808 : Int) ≤ (3 : Int) ∧ (3 : Int) ≤ (9223372036854775807 : Int) →
  ((-9223372036854775808 : Int) ≤ w0 ∧ w0 ≤ (9223372036854775807 : Int)) ∧ ((-9223372036854775808 : Int) ≤ w1 ∧ w1 ≤ (9223372036854775807 : Int)) ∧ ((-9223372036854775808 : Int) ≤ w2
  ∧ w2 ≤ (9223372036854775807 : Int)) ∧ ((-9223372036854775808 : Int) ≤ w3 ∧ w3 ≤ (9223372036854775807 : Int)) ∧ ((-9223372036854775808 : Int) ≤ w4 ∧ w4 ≤ (9223372036854775807 :
  Int)) ∧ ((-9223372036854775808 : Int) ≤ w5 ∧ w5 ≤ (9223372036854775807 : Int)) ∧ ((-9223372036854775808 : Int) ≤ w6 ∧ w6 ≤ (9223372036854775807 : Int)) ∧ ((-9223372036854775808 :
  Int) ≤ w7 ∧ w7 ≤ (9223372036854775807 : Int)) ∧ ((-9223372036854775808 : Int) ≤ w8 ∧ w8 ≤ (9223372036854775807 : Int)) ∧ ((-9223372036854775808 : Int) ≤ w9 ∧ w9 ≤
  (9223372036854775807 : Int)) ∧ ((-9223372036854775808 : Int) ≤ w10 ∧ w10 ≤ (9223372036854775807 : Int)) ∧ ((-9223372036854775808 : Int) ≤ w11 ∧ w11 ≤ (9223372036854775807 : Int)) ∧
  True → True ∧ ((3 : Int) = (3 : Int) ∧ w0 = sel [w0, w1, w2, w3, w4, w5, w6, w7, w8, w9, w10, w11] (0 : Int) ∧ w4 = sel [w0, w1, w2, w3, w4, w5, w6, w7, w8, w9, w10, w11] (4 : Int)
  ∧ w5 = sel [w0, w1, w2, w3, w4, w5, w6, w7, w8, w9, w10, w11] (5 : Int) ∧ True) ∧ vld (3 : Int) w0 w4 w5 = vld (3 : Int) (sel [w0, w1, w2, w3, w4, w5, w6, w7, w8, w9, w10, w11] (0
  : Int)) (sel [w0, w1, w2, w3, w4, w5, w6, w7, w8, w9, w10, w11] (4 : Int)) (sel [w0, w1, w2, w3, w4, w5, w6, w7, w8, w9, w10, w11] (5 : Int)) ∧ True) ∧ ((-9223372036854775808 :
  Int) ≤ (4 : Int) ∧ (4 : Int) ≤ (9223372036854775807 : Int) → ((-9223372036854775808 : Int) ≤ w0 ∧ w0 ≤ (9223372036854775807 : Int)) ∧ ((-9223372036854775808 : Int) ≤ w1 ∧ w1 ≤
  (9223372036854775807 : Int)) ∧ ((-9223372036854775808 : Int) ≤ w2 ∧ w2 ≤ (9223372036854775807 : Int)) ∧ ((-9223372036854775808 : Int) ≤ w3 ∧ w3 ≤ (9223372036854775807 : Int)) ∧
  ((-9223372036854775808 : Int) ≤ w4 ∧ w4 ≤ (9223372036854775807 : Int)) ∧ ((-9223372036854775808 : Int) ≤ w5 ∧ w5 ≤ (9223372036854775807 : Int)) ∧ ((-9223372036854775808 : Int) ≤ w6
  ∧ w6 ≤ (9223372036854775807 : Int)) ∧ ((-9223372036854775808 : Int) ≤ w7 ∧ w7 ≤ (9223372036854775807 : Int)) ∧ ((-9223372036854775808 : Int) ≤ w8 ∧ w8 ≤ (9223372036854775807 :
  Int)) ∧ ((-9223372036854775808 : Int) ≤ w9 ∧ w9 ≤ (9223372036854775807 : Int)) ∧ ((-9223372036854775808 : Int) ≤ w10 ∧ w10 ≤ (9223372036854775807 : Int)) ∧ ((-9223372036854775808 :
  Int) ≤ w11 ∧ w11 ≤ (9223372036854775807 : Int)) ∧ True → True ∧ ((4 : Int) = (4 : Int) ∧ w0 = sel [w0, w1, w2, w3, w4, w5, w6, w7, w8, w9, w10, w11] (0 : Int) ∧ w5 = sel [w0, w1,
  w2, w3, w4, w5, w6, w7, w8, w9, w10, w11] (5 : Int) ∧ w1 = sel [w0, w1, w2, w3, w4, w5, w6, w7, w8, w9, w10, w11] (1 : Int) ∧ True) ∧ vld (4 : Int) w0 w5 w1 = vld (4 : Int) (sel
  [w0, w1, w2, w3, w4, w5, w6, w7, w8, w9, w10, w11] (0 : Int)) (sel [w0, w1, w2, w3, w4, w5, w6, w7, w8, w9, w10, w11] (5 : Int)) (sel [w0, w1, w2, w3, w4, w5, w6, w7, w8, w9, w10,
  w11] (1 : Int)) ∧ True) ∧ ((-9223372036854775808 : Int) ≤ (5 : Int) ∧ (5 : Int) ≤ (9223372036854775807 : Int) → ((-9223372036854775808 : Int) ≤ w0 ∧ w0 ≤ (9223372036854775807 :
  Int)) ∧ ((-9223372036854775808 : Int) ≤ w1 ∧ w1 ≤ (9223372036854775807 : Int)) ∧ ((-9223372036854775808 : Int) ≤ w2 ∧ w2 ≤ (9223372036854775807 : Int)) ∧ ((-9223372036854775808 :
  Int) ≤ w3 ∧ w3 ≤ (9223372036854775807 : Int)) ∧ ((-9223372036854775808 : Int) ≤ w4 ∧ w4 ≤ (9223372036854775807 : Int)) ∧ ((-9223372036854775808 : Int) ≤ w5 ∧ w5 ≤
  (9223372036854775807 : Int)) ∧ ((-9223372036854775808 : Int) ≤ w6 ∧ w6 ≤ (9223372036854775807 : Int)) ∧ ((-9223372036854775808 : Int) ≤ w7 ∧ w7 ≤ (9223372036854775807 : Int)) ∧
  ((-9223372036854775808 : Int) ≤ w8 ∧ w8 ≤ (9223372036854775807 : Int)) ∧ ((-9223372036854775808 : Int) ≤ w9 ∧ w9 ≤ (9223372036854775807 : Int)) ∧ ((-9223372036854775808 : Int) ≤
  w10 ∧ w10 ≤ (9223372036854775807 : Int)) ∧ ((-9223372036854775808 : Int) ≤ w11 ∧ w11 ≤ (9223372036854775807 : Int)) ∧ True → True ∧ ((5 : Int) = (5 : Int) ∧ w1 = sel [w0, w1, w2,
  w3, w4, w5, w6, w7, w8, w9, w10, w11] (1 : Int) ∧ w6 = sel [w0, w1, w2, w3, w4, w5, w6, w7, w8, w9, w10, w11] (6 : Int) ∧ w2 = sel [w0, w1, w2, w3, w4, w5, w6, w7, w8, w9, w10,
  w11] (2 : Int) ∧ True) ∧ vld (5 : Int) w1 w6 w2 = vld (5 : Int) (sel [w0, w1, w2, w3, w4, w5, w6, w7, w8, w9, w10, w11] (1 : Int)) (sel [w0, w1, w2, w3, w4, w5, w6, w7, w8, w9,
  w10, w11] (6 : Int)) (sel [w0, w1, w2, w3, w4, w5, w6, w7, w8, w9, w10, w11] (2 : Int)) ∧ True) ∧ ((-9223372036854775808 : Int) ≤ (6 : Int) ∧ (6 : Int) ≤ (9223372036854775807 :
  Int) → ((-9223372036854775808 : Int) ≤ w0 ∧ w0 ≤ (9223372036854775807 : Int)) ∧ ((-9223372036854775808 : Int) ≤ w1 ∧ w1 ≤ (9223372036854775807 : Int)) ∧ ((-9223372036854775808 :
  Int) ≤ w2 ∧ w2 ≤ (9223372036854775807 : Int)) ∧ ((-9223372036854775808 : Int) ≤ w3 ∧ w3 ≤ (9223372036854775807 : Int)) ∧ ((-9223372036854775808 : Int) ≤ w4 ∧ w4 ≤
  (9223372036854775807 : Int)) ∧ ((-9223372036854775808 : Int) ≤ w5 ∧ w5 ≤ (9223372036854775807 : Int)) ∧ ((-9223372036854775808 : Int) ≤ w6 ∧ w6 ≤ (9223372036854775807 : Int)) ∧
  ((-9223372036854775808 : Int) ≤ w7 ∧ w7 ≤ (9223372036854775807 : Int)) ∧ ((-9223372036854775808 : Int) ≤ w8 ∧ w8 ≤ (9223372036854775807 : Int)) ∧ ((-9223372036854775808 : Int) ≤ w9
  ∧ w9 ≤ (9223372036854775807 : Int)) ∧ ((-9223372036854775808 : Int) ≤ w10 ∧ w10 ≤ (9223372036854775807 : Int)) ∧ ((-9223372036854775808 : Int) ≤ w11 ∧ w11 ≤ (9223372036854775807 :
  Int)) ∧ True → True ∧ ((6 : Int) = (6 : Int) ∧ w2 = sel [w0, w1, w2, w3, w4, w5, w6, w7, w8, w9, w10, w11] (2 : Int) ∧ w7 = sel [w0, w1, w2, w3, w4, w5, w6, w7, w8, w9, w10, w11]
  (7 : Int) ∧ w3 = sel [w0, w1, w2, w3, w4, w5, w6, w7, w8, w9, w10, w11] (3 : Int) ∧ True) ∧ vld (6 : Int) w2 w7 w3 = vld (6 : Int) (sel [w0, w1, w2, w3, w4, w5, w6, w7, w8, w9,
  w10, w11] (2 : Int)) (sel [w0, w1, w2, w3, w4, w5, w6, w7, w8, w9, w10, w11] (7 : Int)) (sel [w0, w1, w2, w3, w4, w5, w6, w7, w8, w9, w10, w11] (3 : Int)) ∧ True) ∧
  ((-9223372036854775808 : Int) ≤ (7 : Int) ∧ (7 : Int) ≤ (9223372036854775807 : Int) → ((-9223372036854775808 : Int) ≤ w0 ∧ w0 ≤ (9223372036854775807 : Int)) ∧
  ((-9223372036854775808 : Int) ≤ w1 ∧ w1 ≤ (9223372036854775807 : Int)) ∧ ((-9223372036854775808 : Int) ≤ w2 ∧ w2 ≤ (9223372036854775807 : Int)) ∧ ((-9223372036854775808 : Int) ≤ w3
  ∧ w3 ≤ (9223372036854775807 : Int)) ∧ ((-9223372036854775808 : Int) ≤ w4 ∧ w4 ≤ (9223372036854775807 : Int)) ∧ ((-9223372036854775808 : Int) ≤ w5 ∧ w5 ≤ (9223372036854775807 :
  Int)) ∧ ((-9223372036854775808 : Int) ≤ w6 ∧ w6 ≤ (9223372036854775807 : Int)) ∧ ((-9223372036854775808 : Int) ≤ w7 ∧ w7 ≤ (9223372036854775807 : Int)) ∧ ((-9223372036854775808 :
  Int) ≤ w8 ∧ w8 ≤ (9223372036854775807 : Int)) ∧ ((-9223372036854775808 : Int) ≤ w9 ∧ w9 ≤ (9223372036854775807 : Int)) ∧ ((-9223372036854775808 : Int) ≤ w10 ∧ w10 ≤
  (9223372036854775807 : Int)) ∧ ((-9223372036854775808 : Int) ≤ w11 ∧ w11 ≤ (9223372036854775807 : Int)) ∧ True → True ∧ ((7 : Int) = (7 : Int) ∧ w3 = sel [w0, w1, w2, w3, w4, w5,
  w6, w7, w8, w9, w10, w11] (3 : Int) ∧ w8 = sel [w0, w1, w2, w3, w4, w5, w6, w7, w8, w9, w10, w11] (8 : Int) ∧ w4 = sel [w0, w1, w2, w3, w4, w5, w6, w7, w8, w9, w10, w11] (4 : Int)
  ∧ True) ∧ vld (7 : Int) w3 w8 w4 = vld (7 : Int) (sel [w0, w1, w2, w3, w4, w5, w6, w7, w8, w9, w10, w11] (3 : Int)) (sel [w0, w1, w2, w3, w4, w5, w6, w7, w8, w9, w10, w11] (8 :
  Int)) (sel [w0, w1, w2, w3, w4, w5, w6, w7, w8, w9, w10, w11] (4 : Int)) ∧ True) ∧ ((-9223372036854775808 : Int) ≤ (8 : Int) ∧ (8 : Int) ≤ (9223372036854775807 : Int) →
  ((-9223372036854775808 : Int) ≤ w0 ∧ w0 ≤ (9223372036854775807 : Int)) ∧ ((-9223372036854775808 : Int) ≤ w1 ∧ w1 ≤ (9223372036854775807 : Int)) ∧ ((-9223372036854775808 : Int) ≤ w2
  ∧ w2 ≤ (9223372036854775807 : Int)) ∧ ((-9223372036854775808 : Int) ≤ w3 ∧ w3 ≤ (9223372036854775807 : Int)) ∧ ((-9223372036854775808 : Int) ≤ w4 ∧ w4 ≤ (9223372036854775807 :
  Int)) ∧ ((-9223372036854775808 : Int) ≤ w5 ∧ w5 ≤ (9223372036854775807 : Int)) ∧ ((-9223372036854775808 : Int) ≤ w6 ∧ w6 ≤ (9223372036854775807 : Int)) ∧ ((-9223372036854775808 :
  Int) ≤ w7 ∧ w7 ≤ (9223372036854775807 : Int)) ∧ ((-9223372036854775808 : Int) ≤ w8 ∧ w8 ≤ (9223372036854775807 : Int)) ∧ ((-9223372036854775808 : Int) ≤ w9 ∧ w9 ≤
  (9223372036854775807 : Int)) ∧ ((-9223372036854775808 : Int) ≤ w10 ∧ w10 ≤ (9223372036854775807 : Int)) ∧ ((-9223372036854775808 : Int) ≤ w11 ∧ w11 ≤ (9223372036854775807 : Int)) ∧
  True → True ∧ ((8 : Int) = (8 : Int) ∧ w4 = sel [w0, w1, w2, w3, w4, w5, w6, w7, w8, w9, w10, w11] (4 : Int) ∧ w9 = sel [w0, w1, w2, w3, w4, w5, w6, w7, w8, w9, w10, w11] (9 : Int)
  ∧ w5 = sel [w0, w1, w2, w3, w4, w5, w6, w7, w8, w9, w10, w11] (5 : Int) ∧ True) ∧ vld (8 : Int) w4 w9 w5 = vld (8 : Int) (sel [w0, w1, w2, w3, w4, w5, w6, w7, w8, w9, w10, w11] (4
  : Int)) (sel [w0, w1, w2, w3, w4, w5, w6, w7, w8, w9, w10, w11] (9 : Int)) (sel [w0, w1, w2, w3, w4, w5, w6, w7, w8, w9, w10, w11] (5 : Int)) ∧ True) ∧ ((-9223372036854775808 :
  Int) ≤ (9 : Int) ∧ (9 : Int) ≤ (9223372036854775807 : Int) → ((-9223372036854775808 : Int) ≤ w0 ∧ w0 ≤ (9223372036854775807 : Int)) ∧ ((-9223372036854775808 : Int) ≤ w1 ∧ w1 ≤
  (9223372036854775807 : Int)) ∧ ((-9223372036854775808 : Int) ≤ w2 ∧ w2 ≤ (9223372036854775807 : Int)) ∧ ((-9223372036854775808 : Int) ≤ w3 ∧ w3 ≤ (9223372036854775807 : Int)) ∧
  ((-9223372036854775808 : Int) ≤ w4 ∧ w4 ≤ (9223372036854775807 : Int)) ∧ ((-9223372036854775808 : Int) ≤ w5 ∧ w5 ≤ (9223372036854775807 : Int)) ∧ ((-9223372036854775808 : Int) ≤ w6
  ∧ w6 ≤ (9223372036854775807 : Int)) ∧ ((-9223372036854775808 : Int) ≤ w7 ∧ w7 ≤ (9223372036854775807 : Int)) ∧ ((-9223372036854775808 : Int) ≤ w8 ∧ w8 ≤ (9223372036854775807 :
  Int)) ∧ ((-9223372036854775808 : Int) ≤ w9 ∧ w9 ≤ (9223372036854775807 : Int)) ∧ ((-9223372036854775808 : Int) ≤ w10 ∧ w10 ≤ (9223372036854775807 : Int)) ∧ ((-9223372036854775808 :
  Int) ≤ w11 ∧ w11 ≤ (9223372036854775807 : Int)) ∧ True → True ∧ ((9 : Int) = (9 : Int) ∧ w5 = sel [w0, w1, w2, w3, w4, w5, w6, w7, w8, w9, w10, w11] (5 : Int) ∧ w10 = sel [w0, w1,
  w2, w3, w4, w5, w6, w7, w8, w9, w10, w11] (10 : Int) ∧ w1 = sel [w0, w1, w2, w3, w4, w5, w6, w7, w8, w9, w10, w11] (1 : Int) ∧ True) ∧ vld (9 : Int) w5 w10 w1 = vld (9 : Int) (sel
  [w0, w1, w2, w3, w4, w5, w6, w7, w8, w9, w10, w11] (5 : Int)) (sel [w0, w1, w2, w3, w4, w5, w6, w7, w8, w9, w10, w11] (10 : Int)) (sel [w0, w1, w2, w3, w4, w5, w6, w7, w8, w9, w10,
  w11] (1 : Int)) ∧ True) ∧ ((-9223372036854775808 : Int) ≤ (10 : Int) ∧ (10 : Int) ≤ (9223372036854775807 : Int) → ((-9223372036854775808 : Int) ≤ w0 ∧ w0 ≤ (9223372036854775807 :
  Int)) ∧ ((-9223372036854775808 : Int) ≤ w1 ∧ w1 ≤ (9223372036854775807 : Int)) ∧ ((-9223372036854775808 : Int) ≤ w2 ∧ w2 ≤ (9223372036854775807 : Int)) ∧ ((-9223372036854775808 :
  Int) ≤ w3 ∧ w3 ≤ (9223372036854775807 : Int)) ∧ ((-9223372036854775808 : Int) ≤ w4 ∧ w4 ≤ (9223372036854775807 : Int)) ∧ ((-9223372036854775808 : Int) ≤ w5 ∧ w5 ≤
  (9223372036854775807 : Int)) ∧ ((-9223372036854775808 : Int) ≤ w6 ∧ w6 ≤ (9223372036854775807 : Int)) ∧ ((-9223372036854775808 : Int) ≤ w7 ∧ w7 ≤ (9223372036854775807 : Int)) ∧
  ((-9223372036854775808 : Int) ≤ w8 ∧ w8 ≤ (9223372036854775807 : Int)) ∧ ((-9223372036854775808 : Int) ≤ w9 ∧ w9 ≤ (9223372036854775807 : Int)) ∧ ((-9223372036854775808 : Int) ≤
  w10 ∧ w10 ≤ (9223372036854775807 : Int)) ∧ ((-9223372036854775808 : Int) ≤ w11 ∧ w11 ≤ (9223372036854775807 : Int)) ∧ True → True ∧ ((10 : Int) = (10 : Int) ∧ w6 = sel [w0, w1, w2,
  w3, w4, w5, w6, w7, w8, w9, w10, w11] (6 : Int) ∧ w7 = sel [w0, w1, w2, w3, w4, w5, w6, w7, w8, w9, w10, w11] (7 : Int) ∧ w2 = sel [w0, w1, w2, w3, w4, w5, w6, w7, w8, w9, w10,
  w11] (2 : Int) ∧ True) ∧ vld (10 : Int) w6 w7 w2 = vld (10 : Int) (sel [w0, w1, w2, w3, w4, w5, w6, w7, w8, w9, w10, w11] (6 : Int)) (sel [w0, w1, w2, w3, w4, w5, w6, w7, w8, w9,
  w10, w11] (7 : Int)) (sel [w0, w1, w2, w3, w4, w5, w6, w7, w8, w9, w10, w11] (2 : Int)) ∧ True) ∧ ((-9223372036854775808 : Int) ≤ (11 : Int) ∧ (11 : Int) ≤ (9223372036854775807 :
  Int) → ((-9223372036854775808 : Int) ≤ w0 ∧ w0 ≤ (9223372036854775807 : Int)) ∧ ((-9223372036854775808 : Int) ≤ w1 ∧ w1 ≤ (9223372036854775807 : Int)) ∧ ((-9223372036854775808 :
  Int) ≤ w2 ∧ w2 ≤ (9223372036854775807 : Int)) ∧ ((-9223372036854775808 : Int) ≤ w3 ∧ w3 ≤ (9223372036854775807 : Int)) ∧ ((-9223372036854775808 : Int) ≤ w4 ∧ w4 ≤
  (9223372036854775807 : Int)) ∧ ((-9223372036854775808 : Int) ≤ w5 ∧ w5 ≤ (9223372036854775807 : Int)) ∧ ((-9223372036854775808 : Int) ≤ w6 ∧ w6 ≤ (9223372036854775807 : Int)) ∧
  ((-9223372036854775808 : Int) ≤ w7 ∧ w7 ≤ (9223372036854775807 : Int)) ∧ ((-9223372036854775808 : Int) ≤ w8 ∧ w8 ≤ (9223372036854775807 : Int)) ∧ ((-9223372036854775808 : Int) ≤ w9
  ∧ w9 ≤ (9223372036854775807 : Int)) ∧ ((-9223372036854775808 : Int) ≤ w10 ∧ w10 ≤ (9223372036854775807 : Int)) ∧ ((-9223372036854775808 : Int) ≤ w11 ∧ w11 ≤ (9223372036854775807 :
  Int)) ∧ True → True ∧ ((11 : Int) = (11 : Int) ∧ w7 = sel [w0, w1, w2, w3, w4, w5, w6, w7, w8, w9, w10, w11] (7 : Int) ∧ w8 = sel [w0, w1, w2, w3, w4, w5, w6, w7, w8, w9, w10, w11]
  (8 : Int) ∧ w3 = sel [w0, w1, w2, w3, w4, w5, w6, w7, w8, w9, w10, w11] (3 : Int) ∧ True) ∧ vld (11 : Int) w7 w8 w3 = vld (11 : Int) (sel [w0, w1, w2, w3, w4, w5, w6, w7, w8, w9,
  w10, w11] (7 : Int)) (sel [w0, w1, w2, w3, w4, w5, w6, w7, w8, w9, w10, w11] (8 : Int)) (sel [w0, w1, w2, w3, w4, w5, w6, w7, w8, w9, w10, w11] (3 : Int)) ∧ True) ∧
  ((-9223372036854775808 : Int) ≤ (12 : Int) ∧ (12 : Int) ≤ (9223372036854775807 : Int) → ((-9223372036854775808 : Int) ≤ w0 ∧ w0 ≤ (9223372036854775807 : Int)) ∧
  ((-9223372036854775808 : Int) ≤ w1 ∧ w1 ≤ (9223372036854775807 : Int)) ∧ ((-9223372036854775808 : Int) ≤ w2 ∧ w2 ≤ (9223372036854775807 : Int)) ∧ ((-9223372036854775808 : Int) ≤ w3
  ∧ w3 ≤ (9223372036854775807 : Int)) ∧ ((-9223372036854775808 : Int) ≤ w4 ∧ w4 ≤ (9223372036854775807 : Int)) ∧ ((-9223372036854775808 : Int) ≤ w5 ∧ w5 ≤ (9223372036854775807 :
  Int)) ∧ ((-9223372036854775808 : Int) ≤ w6 ∧ w6 ≤ (9223372036854775807 : Int)) ∧ ((-9223372036854775808 : Int) ≤ w7 ∧ w7 ≤ (9223372036854775807 : Int)) ∧ ((-9223372036854775808 :
  Int) ≤ w8 ∧ w8 ≤ (9223372036854775807 : Int)) ∧ ((-9223372036854775808 : Int) ≤ w9 ∧ w9 ≤ (9223372036854775807 : Int)) ∧ ((-9223372036854775808 : Int) ≤ w10 ∧ w10 ≤
  (9223372036854775807 : Int)) ∧ ((-9223372036854775808 : Int) ≤ w11 ∧ w11 ≤ (9223372036854775807 : Int)) ∧ True → True ∧ ((12 : Int) = (12 : Int) ∧ w8 = sel [w0, w1, w2, w3, w4, w5,
  w6, w7, w8, w9, w10, w11] (8 : Int) ∧ w9 = sel [w0, w1, w2, w3, w4, w5, w6, w7, w8, w9, w10, w11] (9 : Int) ∧ w4 = sel [w0, w1, w2, w3, w4, w5, w6, w7, w8, w9, w10, w11] (4 : Int)
  ∧ True) ∧ vld (12 : Int) w8 w9 w4 = vld (12 : Int) (sel [w0, w1, w2, w3, w4, w5, w6, w7, w8, w9, w10, w11] (8 : Int)) (sel [w0, w1, w2, w3, w4, w5, w6, w7, w8, w9, w10, w11] (9 :
  Int)) (sel [w0, w1, w2, w3, w4, w5, w6, w7, w8, w9, w10, w11] (4 : Int)) ∧ True) ∧ ((-9223372036854775808 : Int) ≤ (13 : Int) ∧ (13 : Int) ≤ (9223372036854775807 : Int) →
  ((-9223372036854775808 : Int) ≤ w0 ∧ w0 ≤ (9223372036854775807 : Int)) ∧ ((-9223372036854775808 : Int) ≤ w1 ∧ w1 ≤ (9223372036854775807 : Int)) ∧ ((-9223372036854775808 : Int) ≤ w2
  ∧ w2 ≤ (9223372036854775807 : Int)) ∧ ((-9223372036854775808 : Int) ≤ w3 ∧ w3 ≤ (9223372036854775807 : Int)) ∧ ((-9223372036854775808 : Int) ≤ w4 ∧ w4 ≤ (9223372036854775807 :
  Int)) ∧ ((-9223372036854775808 : Int) ≤ w5 ∧ w5 ≤ (9223372036854775807 : Int)) ∧ ((-9223372036854775808 : Int) ≤ w6 ∧ w6 ≤ (9223372036854775807 : Int)) ∧ ((-9223372036854775808 :
  Int) ≤ w7 ∧ w7 ≤ (9223372036854775807 : Int)) ∧ ((-9223372036854775808 : Int) ≤ w8 ∧ w8 ≤ (9223372036854775807 : Int)) ∧ ((-9223372036854775808 : Int) ≤ w9 ∧ w9 ≤
  (9223372036854775807 : Int)) ∧ ((-9223372036854775808 : Int) ≤ w10 ∧ w10 ≤ (9223372036854775807 : Int)) ∧ ((-9223372036854775808 : Int) ≤ w11 ∧ w11 ≤ (9223372036854775807 : Int)) ∧
  True → True ∧ ((13 : Int) = (13 : Int) ∧ w9 = sel [w0, w1, w2, w3, w4, w5, w6, w7, w8, w9, w10, w11] (9 : Int) ∧ w10 = sel [w0, w1, w2, w3, w4, w5, w6, w7, w8, w9, w10, w11] (10 :
  Int) ∧ w5 = sel [w0, w1, w2, w3, w4, w5, w6, w7, w8, w9, w10, w11] (5 : Int) ∧ True) ∧ vld (13 : Int) w9 w10 w5 = vld (13 : Int) (sel [w0, w1, w2, w3, w4, w5, w6, w7, w8, w9, w10,
  w11] (9 : Int)) (sel [w0, w1, w2, w3, w4, w5, w6, w7, w8, w9, w10, w11] (10 : Int)) (sel [w0, w1, w2, w3, w4, w5, w6, w7, w8, w9, w10, w11] (5 : Int)) ∧ True) ∧
  ((-9223372036854775808 : Int) ≤ (14 : Int) ∧ (14 : Int) ≤ (9223372036854775807 : Int) → ((-9223372036854775808 : Int) ≤ w0 ∧ w0 ≤ (9223372036854775807 : Int)) ∧
  ((-9223372036854775808 : Int) ≤ w1 ∧ w1 ≤ (9223372036854775807 : Int)) ∧ ((-9223372036854775808 : Int) ≤ w2 ∧ w2 ≤ (9223372036854775807 : Int)) ∧ ((-9223372036854775808 : Int) ≤ w3
  ∧ w3 ≤ (9223372036854775807 : Int)) ∧ ((-9223372036854775808 : Int) ≤ w4 ∧ w4 ≤ (9223372036854775807 : Int)) ∧ ((-9223372036854775808 : Int) ≤ w5 ∧ w5 ≤ (9223372036854775807 :
  Int)) ∧ ((-9223372036854775808 : Int) ≤ w6 ∧ w6 ≤ (9223372036854775807 : Int)) ∧ ((-9223372036854775808 : Int) ≤ w7 ∧ w7 ≤ (9223372036854775807 : Int)) ∧ ((-9223372036854775808 :
  Int) ≤ w8 ∧ w8 ≤ (9223372036854775807 : Int)) ∧ ((-9223372036854775808 : Int) ≤ w9 ∧ w9 ≤ (9223372036854775807 : Int)) ∧ ((-9223372036854775808 : Int) ≤ w10 ∧ w10 ≤
  (9223372036854775807 : Int)) ∧ ((-9223372036854775808 : Int) ≤ w11 ∧ w11 ≤ (9223372036854775807 : Int)) ∧ True → True ∧ ((14 : Int) = (14 : Int) ∧ w10 = sel [w0, w1, w2, w3, w4,
  w5, w6, w7, w8, w9, w10, w11] (10 : Int) ∧ w6 = sel [w0, w1, w2, w3, w4, w5, w6, w7, w8, w9, w10, w11] (6 : Int) ∧ w1 = sel [w0, w1, w2, w3, w4, w5, w6, w7, w8, w9, w10, w11] (1 :
  Int) ∧ True) ∧ vld (14 : Int) w10 w6 w1 = vld (14 : Int) (sel [w0, w1, w2, w3, w4, w5, w6, w7, w8, w9, w10, w11] (10 : Int)) (sel [w0, w1, w2, w3, w4, w5, w6, w7, w8, w9, w10, w11]
  (6 : Int)) (sel [w0, w1, w2, w3, w4, w5, w6, w7, w8, w9, w10, w11] (1 : Int)) ∧ True) ∧ ((-9223372036854775808 : Int) ≤ (15 : Int) ∧ (15 : Int) ≤ (9223372036854775807 : Int) →
  ((-9223372036854775808 : Int) ≤ w0 ∧ w0 ≤ (9223372036854775807 : Int)) ∧ ((-9223372036854775808 : Int) ≤ w1 ∧ w1 ≤ (9223372036854775807 : Int)) ∧ ((-9223372036854775808 : Int) ≤ w2
  ∧ w2 ≤ (9223372036854775807 : Int)) ∧ ((-9223372036854775808 : Int) ≤ w3 ∧ w3 ≤ (9223372036854775807 : Int)) ∧ ((-9223372036854775808 : Int) ≤ w4 ∧ w4 ≤ (9223372036854775807 :
  Int)) ∧ ((-9223372036854775808 : Int) ≤ w5 ∧ w5 ≤ (9223372036854775807 : Int)) ∧ ((-9223372036854775808 : Int) ≤ w6 ∧ w6 ≤ (9223372036854775807 : Int)) ∧ ((-9223372036854775808 :
  Int) ≤ w7 ∧ w7 ≤ (9223372036854775807 : Int)) ∧ ((-9223372036854775808 : Int) ≤ w8 ∧ w8 ≤ (9223372036854775807 : Int)) ∧ ((-9223372036854775808 : Int) ≤ w9 ∧ w9 ≤
  (9223372036854775807 : Int)) ∧ ((-9223372036854775808 : Int) ≤ w10 ∧ w10 ≤ (9223372036854775807 : Int)) ∧ ((-9223372036854775808 : Int) ≤ w11 ∧ w11 ≤ (9223372036854775807 : Int)) ∧
  True → True ∧ ((15 : Int) = (15 : Int) ∧ w11 = sel [w0, w1, w2, w3, w4, w5, w6, w7, w8, w9, w10, w11] (11 : Int) ∧ w7 = sel [w0, w1, w2, w3, w4, w5, w6, w7, w8, w9, w10, w11] (7 :
  Int) ∧ w6 = sel [w0, w1, w2, w3, w4, w5, w6, w7, w8, w9, w10, w11] (6 : Int) ∧ True) ∧ vld (15 : Int) w11 w7 w6 = vld (15 : Int) (sel [w0, w1, w2, w3, w4, w5, w6, w7, w8, w9, w10,
  w11] (11 : Int)) (sel [w0, w1, w2, w3, w4, w5, w6, w7, w8, w9, w10, w11] (7 : Int)) (sel [w0, w1, w2, w3, w4, w5, w6, w7, w8, w9, w10, w11] (6 : Int)) ∧ True) ∧
  ((-9223372036854775808 : Int) ≤ (16 : Int) ∧ (16 : Int) ≤ (9223372036854775807 : Int) → ((-9223372036854775808 : Int) ≤ w0 ∧ w0 ≤ (9223372036854775807 : Int)) ∧
  ((-9223372036854775808 : Int) ≤ w1 ∧ w1 ≤ (9223372036854775807 : Int)) ∧ ((-9223372036854775808 : Int) ≤ w2 ∧ w2 ≤ (9223372036854775807 : Int)) ∧ ((-9223372036854775808 : Int) ≤ w3
  ∧ w3 ≤ (9223372036854775807 : Int)) ∧ ((-9223372036854775808 : Int) ≤ w4 ∧ w4 ≤ (9223372036854775807 : Int)) ∧ ((-9223372036854775808 : Int) ≤ w5 ∧ w5 ≤ (9223372036854775807 :
  Int)) ∧ ((-9223372036854775808 : Int) ≤ w6 ∧ w6 ≤ (9223372036854775807 : Int)) ∧ ((-9223372036854775808 : Int) ≤ w7 ∧ w7 ≤ (9223372036854775807 : Int)) ∧ ((-9223372036854775808 :
  Int) ≤ w8 ∧ w8 ≤ (9223372036854775807 : Int)) ∧ ((-9223372036854775808 : Int) ≤ w9 ∧ w9 ≤ (9223372036854775807 : Int)) ∧ ((-9223372036854775808 : Int) ≤ w10 ∧ w10 ≤
  (9223372036854775807 : Int)) ∧ ((-9223372036854775808 : Int) ≤ w11 ∧ w11 ≤ (9223372036854775807 : Int)) ∧ True → True ∧ ((16 : Int) = (16 : Int) ∧ w11 = sel [w0, w1, w2, w3, w4,
  w5, w6, w7, w8, w9, w10, w11] (11 : Int) ∧ w8 = sel [w0, w1, w2, w3, w4, w5, w6, w7, w8, w9, w10, w11] (8 : Int) ∧ w7 = sel [w0, w1, w2, w3, w4, w5, w6, w7, w8, w9, w10, w11] (7 :
  Int) ∧ True) ∧ vld (16 : Int) w11 w8 w7 = vld (16 : Int) (sel [w0, w1, w2, w3, w4, w5, w6, w7, w8, w9, w10, w11] (11 : Int)) (sel [w0, w1, w2, w3, w4, w5, w6, w7, w8, w9, w10, w11]
  (8 : Int)) (sel [w0, w1, w2, w3, w4, w5, w6, w7, w8, w9, w10, w11] (7 : Int)) ∧ True) ∧ ((-9223372036854775808 : Int) ≤ (17 : Int) ∧ (17 : Int) ≤ (9223372036854775807 : Int) →
  ((-9223372036854775808 : Int) ≤ w0 ∧ w0 ≤ (9223372036854775807 : Int)) ∧ ((-9223372036854775808 : Int) ≤ w1 ∧ w1 ≤ (9223372036854775807 : Int)) ∧ ((-9223372036854775808 : Int) ≤ w2
  ∧ w2 ≤ (9223372036854775807 : Int)) ∧ ((-9223372036854775808 : Int) ≤ w3 ∧ w3 ≤ (9223372036854775807 : Int)) ∧ ((-9223372036854775808 : Int) ≤ w4 ∧ w4 ≤ (9223372036854775807 :
  Int)) ∧ ((-9223372036854775808 : Int) ≤ w5 ∧ w5 ≤ (9223372036854775807 : Int)) ∧ ((-9223372036854775808 : Int) ≤ w6 ∧ w6 ≤ (9223372036854775807 : Int)) ∧ ((-9223372036854775808 :
  Int) ≤ w7 ∧ w7 ≤ (9223372036854775807 : Int)) ∧ ((-9223372036854775808 : Int) ≤ w8 ∧ w8 ≤ (9223372036854775807 : Int)) ∧ ((-9223372036854775808 : Int) ≤ w9 ∧ w9 ≤
  (9223372036854775807 : Int)) ∧ ((-9223372036854775808 : Int) ≤ w10 ∧ w10 ≤ (9223372036854775807 : Int)) ∧ ((-9223372036854775808 : Int) ≤ w11 ∧ w11 ≤ (9223372036854775807 : Int)) ∧
  True → True ∧ ((17 : Int) = (17 : Int) ∧ w11 = sel [w0, w1, w2, w3, w4, w5, w6, w7, w8, w9, w10, w11] (11 : Int) ∧ w9 = sel [w0, w1, w2, w3, w4, w5, w6, w7, w8, w9, w10, w11] (9 :
  Int) ∧ w8 = sel [w0, w1, w2, w3, w4, w5, w6, w7, w8, w9, w10, w11] (8 : Int) ∧ True) ∧ vld (17 : Int) w11 w9 w8 = vld (17 : Int) (sel [w0, w1, w2, w3, w4, w5, w6, w7, w8, w9, w10,
  w11] (11 : Int)) (sel [w0, w1, w2, w3, w4, w5, w6, w7, w8, w9, w10, w11] (9 : Int)) (sel [w0, w1, w2, w3, w4, w5, w6, w7, w8, w9, w10, w11] (8 : Int)) ∧ True) ∧
  ((-9223372036854775808 : Int) ≤ (18 : Int) ∧ (18 : Int) ≤ (9223372036854775807 : Int) → ((-9223372036854775808 : Int) ≤ w0 ∧ w0 ≤ (9223372036854775807 : Int)) ∧
  ((-9223372036854775808 : Int) ≤ w1 ∧ w1 ≤ (9223372036854775807 : Int)) ∧ ((-9223372036854775808 : Int) ≤ w2 ∧ w2 ≤ (9223372036854775807 : Int)) ∧ ((-9223372036854775808 : Int) ≤ w3
  ∧ w3 ≤ (9223372036854775807 : Int)) ∧ ((-9223372036854775808 : Int) ≤ w4 ∧ w4 ≤ (9223372036854775807 : Int)) ∧ ((-9223372036854775808 : Int) ≤ w5 ∧ w5 ≤ (9223372036854775807 :
  Int)) ∧ ((-9223372036854775808 : Int) ≤ w6 ∧ w6 ≤ (9223372036854775807 : Int)) ∧ ((-9223372036854775808 : Int) ≤ w7 ∧ w7 ≤ (9223372036854775807 : Int)) ∧ ((-9223372036854775808 :
  Int) ≤ w8 ∧ w8 ≤ (9223372036854775807 : Int)) ∧ ((-9223372036854775808 : Int) ≤ w9 ∧ w9 ≤ (9223372036854775807 : Int)) ∧ ((-9223372036854775808 : Int) ≤ w10 ∧ w10 ≤
  (9223372036854775807 : Int)) ∧ ((-9223372036854775808 : Int) ≤ w11 ∧ w11 ≤ (9223372036854775807 : Int)) ∧ True → True ∧ ((18 : Int) = (18 : Int) ∧ w11 = sel [w0, w1, w2, w3, w4,
  w5, w6, w7, w8, w9, w10, w11] (11 : Int) ∧ w10 = sel [w0, w1, w2, w3, w4, w5, w6, w7, w8, w9, w10, w11] (10 : Int) ∧ w9 = sel [w0, w1, w2, w3, w4, w5, w6, w7, w8, w9, w10, w11] (9
  : Int) ∧ True) ∧ vld (18 : Int) w11 w10 w9 = vld (18 : Int) (sel [w0, w1, w2, w3, w4, w5, w6, w7, w8, w9, w10, w11] (11 : Int)) (sel [w0, w1, w2, w3, w4, w5, w6, w7, w8, w9, w10,
  w11] (10 : Int)) (sel [w0, w1, w2, w3, w4, w5, w6, w7, w8, w9, w10, w11] (9 : Int)) ∧ True) ∧ ((-9223372036854775808 : Int) ≤ (19 : Int) ∧ (19 : Int) ≤ (9223372036854775807 : Int)
  → ((-9223372036854775808 : Int) ≤ w0 ∧ w0 ≤ (9223372036854775807 : Int)) ∧ ((-9223372036854775808 : Int) ≤ w1 ∧ w1 ≤ (9223372036854775807 : Int)) ∧ ((-9223372036854775808 : Int) ≤
  w2 ∧ w2 ≤ (9223372036854775807 : Int)) ∧ ((-9223372036854775808 : Int) ≤ w3 ∧ w3 ≤ (9223372036854775807 : Int)) ∧ ((-9223372036854775808 : Int) ≤ w4 ∧ w4 ≤ (9223372036854775807 :
  Int)) ∧ ((-9223372036854775808 : Int) ≤ w5 ∧ w5 ≤ (9223372036854775807 : Int)) ∧ ((-9223372036854775808 : Int) ≤ w6 ∧ w6 ≤ (9223372036854775807 : Int)) ∧ ((-9223372036854775808 :
  Int) ≤ w7 ∧ w7 ≤ (9223372036854775807 : Int)) ∧ ((-9223372036854775808 : Int) ≤ w8 ∧ w8 ≤ (9223372036854775807 : Int)) ∧ ((-9223372036854775808 : Int) ≤ w9 ∧ w9 ≤
  (9223372036854775807 : Int)) ∧ ((-9223372036854775808 : Int) ≤ w10 ∧ w10 ≤ (9223372036854775807 : Int)) ∧ ((-9223372036854775808 : Int) ≤ w11 ∧ w11 ≤ (9223372036854775807 : Int)) ∧
  True → True ∧ ((19 : Int) = (19 : Int) ∧ w11 = sel [w0, w1, w2, w3, w4, w5, w6, w7, w8, w9, w10, w11] (11 : Int) ∧ w6 = sel [w0, w1, w2, w3, w4, w5, w6, w7, w8, w9, w10, w11] (6 :
  Int) ∧ w10 = sel [w0, w1, w2, w3, w4, w5, w6, w7, w8, w9, w10, w11] (10 : Int) ∧ True) ∧ vld (19 : Int) w11 w6 w10 = vld (19 : Int) (sel [w0, w1, w2, w3, w4, w5, w6, w7, w8, w9,
  w10, w11] (11 : Int)) (sel [w0, w1, w2, w3, w4, w5, w6, w7, w8, w9, w10, w11] (6 : Int)) (sel [w0, w1, w2, w3, w4, w5, w6, w7, w8, w9, w10, w11] (10 : Int)) ∧ True) ∧ True
set_option maxRecDepth 100000 in
theorem on20_P : on20_T := by
  unfold on20_T
  intro w0 w1 w2 w3 w4 w5 w6 w7 w8 w9 w10 w11
  repeat' (first | exact trivial | intro _ | rfl | apply And.intro)
def on20_S : Prop := ∀ w0 w1 w2 w3 w4 w5 w6 w7 w8 w9 w10 w11 : Int, allN fcs fun n => fnK Tryd.prog { glob := glb, spec := lk [(52, valid_s vld)] } { nt := 28 } (fun _ _ => none) 6 Tryd.f72 [.int .i64 n, .agg [.int .i64 w0, .int .i64 w1, .int .i64 w2, .int .i64 w3, .int .i64 w4, .int .i64 w5, .int .i64 w6, .int .i64 w7, .int .i64 w8, .int .i64 w9, .int .i64 w10, .int .i64 w11]] (.tup [.agg [.int .i64 n, .int .i64 (sel [w0, w1, w2, w3, w4, w5, w6, w7, w8, w9, w10, w11] (crn n 0)), .int .i64 (sel [w0, w1, w2, w3, w4, w5, w6, w7, w8, w9, w10, w11] (crn n 1)), .int .i64 (sel [w0, w1, w2, w3, w4, w5, w6, w7, w8, w9, w10, w11] (crn n 2))], .bool (vld n (sel [w0, w1, w2, w3, w4, w5, w6, w7, w8, w9, w10, w11] (crn n 0)) (sel [w0, w1, w2, w3, w4, w5, w6, w7, w8, w9, w10, w11] (crn n 1)) (sel [w0, w1, w2, w3, w4, w5, w6, w7, w8, w9, w10, w11] (crn n 2)))])
set_option maxRecDepth 100000 in
theorem on20_e : on20_T = on20_S := by kernel_rfl
theorem on20 : on20_S := @Eq.mp (on20_T) (on20_S) (on20_e) on20_P
theorem of_ok : SOK Tryd.prog glb 71 of_s := by
  refine ⟨fok Tryd.func71 (by kernel_rfl) (by kernel_rfl), ?_⟩
  intro xs pre r h hp
  unfold of_s at h
  split at h
  · simp only [Option.some.injEq, Prod.mk.injEq] at h
    obtain ⟨h1, h2⟩ := h
    subst h1 h2
    exact fnK_sound tyNil (by exact specOK (l := []) (l' := []) rfl rfl trivial trivial) (by kernel_rfl) Tryd.func71 rfl (allN_get (of20 _ _ _) (mem_fcs hp))
  · cases h
theorem on_ok : SOK Tryd.prog glb 72 on_s := by
  refine ⟨fok Tryd.func72 (by kernel_rfl) (by kernel_rfl), ?_⟩
  intro xs pre r h hp
  unfold on_s at h
  split at h
  · simp only [Option.some.injEq, Prod.mk.injEq] at h
    obtain ⟨h1, h2⟩ := h
    subst h1 h2
    exact fnK_sound tyNil (by exact specOK (l' := []) rfl rfl ⟨valid_ok glb, trivial⟩ trivial) (by kernel_rfl) Tryd.func72 rfl (allN_get (on20 _ _ _ _ _ _ _ _ _ _ _ _) (mem_fcs hp))
  · cases h
end Go.Proofs.YtceknalhogbbnaaDoor
