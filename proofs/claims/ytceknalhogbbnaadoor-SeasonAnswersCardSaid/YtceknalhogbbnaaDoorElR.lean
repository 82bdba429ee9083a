/- The elements: the reference (Describe, in, Validate). -/
import Derived.Test.YtceknalhogbbnaaDoorElA
namespace Go.Proofs.YtceknalhogbbnaaDoor
open Go
set_option linter.unusedVariables false
set_option linter.unusedSimpArgs false

def rdesc_s (iL : Int → ByteArray) (inLo : Int → Int) (inHi : Int → Int) (inD : Int → Int) (inE : Int → Int) : Sp
  | [.int .i64 c] => some (True, .tup [.agg [.str (iL c), .int .i64 (inLo c), .int .i64 (inHi c), .int .i64 (inD c)], .int .i64 (inE c)])
  | _ => none
set_option maxRecDepth 100000 in
def rdesc_T (iL : Int → ByteArray) (inLo : Int → Int) (inHi : Int → Int) (inD : Int → Int) (inE : Int → Int) : Prop :=
  ∀ (gl : Glob) (c : Int), (-9223372036854775808 : Int) ≤ c ∧ c ≤ (9223372036854775807 : Int) → bif decide (c < (1 : Int)) then ({ data := #[] } = iL c ∧ (0 : Int) = inLo c ∧ (0 :
  Int) = inHi c ∧ (0 : Int) = inD c ∧ True) ∧ (4 : Int) = inE c ∧ True else bif decide ((11 : Int) < c) then ({ data := #[] } = iL c ∧ (0 : Int) = inLo c ∧ (0 : Int) = inHi c ∧ (0 :
  Int) = inD c ∧ True) ∧ (4 : Int) = inE c ∧ True else bif decide (rng IntKind.i64 (c - (1 : Int))) then bif decide ((0 : Int) ≤ c - (1 : Int) ∧ c - (1 : Int) < (11 : Int)) then bif
  decide ((11 : Nat) = (11 : Nat) ∧ (c - (1 : Int)).toNat < (11 : Nat)) then ∃ s n n_1 n_2, List.take [AV.str s, AV.int IntKind.i64 n, AV.int IntKind.i64 n_1, AV.int IntKind.i64
  n_2].length (List.drop (0 : Nat) ([[AV.str { data := #[(80 : UInt8)] }, AV.int IntKind.i64 (8000 : Int), AV.int IntKind.i64 (11000 : Int), AV.int IntKind.i64 (5 : Int)], [AV.str {
  data := #[(84 : UInt8)] }, AV.int IntKind.i64 (1800 : Int), AV.int IntKind.i64 (3300 : Int), AV.int IntKind.i64 (4 : Int)], [AV.str { data := #[(68 : UInt8)] }, AV.int IntKind.i64
  (1800 : Int), AV.int IntKind.i64 (3300 : Int), AV.int IntKind.i64 (4 : Int)], [AV.str { data := #[(69 : UInt8)] }, AV.int IntKind.i64 (-1000 : Int), AV.int IntKind.i64 (1000 :
  Int), AV.int IntKind.i64 (4 : Int)], [AV.str { data := #[(78 : UInt8)] }, AV.int IntKind.i64 (-1000 : Int), AV.int IntKind.i64 (1000 : Int), AV.int IntKind.i64 (4 : Int)], [AV.str
  { data := #[(65 : UInt8)] }, AV.int IntKind.i64 (900 : Int), AV.int IntKind.i64 (1700 : Int), AV.int IntKind.i64 (4 : Int)], [AV.str { data := #[(66 : UInt8)] }, AV.int IntKind.i64
  (2000 : Int), AV.int IntKind.i64 (3200 : Int), AV.int IntKind.i64 (4 : Int)], [AV.str { data := #[(70 : UInt8)] }, AV.int IntKind.i64 (2400 : Int), AV.int IntKind.i64 (3400 : Int),
  AV.int IntKind.i64 (4 : Int)], [AV.str { data := #[(71 : UInt8)] }, AV.int IntKind.i64 (2000 : Int), AV.int IntKind.i64 (3000 : Int), AV.int IntKind.i64 (4 : Int)], [AV.str { data
  := #[(74 : UInt8)] }, AV.int IntKind.i64 (4400 : Int), AV.int IntKind.i64 (6200 : Int), AV.int IntKind.i64 (4 : Int)], [AV.str { data := #[(75 : UInt8)] }, AV.int IntKind.i64 (2000
  : Int), AV.int IntKind.i64 (2900 : Int), AV.int IntKind.i64 (4 : Int)]].getD (c - (1 : Int)).toNat [])) = [AV.str s, AV.int IntKind.i64 n, AV.int IntKind.i64 n_1, AV.int
  IntKind.i64 n_2] ∧ (s = iL c ∧ n = inLo c ∧ n_1 = inHi c ∧ n_2 = inD c ∧ True) ∧ (0 : Int) = inE c ∧ True else False else False else False
set_option maxRecDepth 100000 in
theorem rdesc_P : rdesc_T iL inLo inHi inD inE := by
  unfold rdesc_T
  intro gl c hc
  have hn : okC c = false → ((⟨#[]⟩ : ByteArray) = iL c ∧ 0 = inLo c ∧ 0 = inHi c ∧ 0 = inD c ∧ True) ∧ 4 = inE c ∧ True := by
    intro h; unfold iL inLo inHi inD inE; rw [h]; exact ⟨⟨rfl, rfl, rfl, rfl, trivial⟩, rfl, trivial⟩
  refine cs (fun h => hn (decide_eq_false (by omega))) (fun h1 => cs (fun h => hn (decide_eq_false (by omega))) (fun h2 => ?_))
  have hk : okC c = true := decide_eq_true (by omega)
  refine cdI (by omega) (cd1 (by omega) (cd1 (by omega) ⟨iL c, inLo c, inHi c, inD c, ?_, ⟨rfl, rfl, rfl, rfl, trivial⟩, ?_, trivial⟩))
  · rcases okC_cases hk with rfl | rfl | rfl | rfl | rfl | rfl | rfl | rfl | rfl | rfl | rfl <;> kernel_rfl
  · unfold inE; rw [hk]; rfl
def rdesc_S (iL : Int → ByteArray) (inLo : Int → Int) (inHi : Int → Int) (inD : Int → Int) (inE : Int → Int) : Prop := ∀ (gl : Glob) (c : Int), fnK Tryd.prog { glob := gl, spec := lk [], specH := lk [], shape := [26], nowf := true } { nt := 27, drop := drp [(1, 496), (2, 1024), (3, 134215680)] } (fun _ _ => none) 6 Tryd.f45 [.int .i64 c] (.tup [.agg [.str (iL c), .int .i64 (inLo c), .int .i64 (inHi c), .int .i64 (inD c)], .int .i64 (inE c)])
set_option maxRecDepth 100000 in
theorem rdesc_e (iL : Int → ByteArray) (inLo : Int → Int) (inHi : Int → Int) (inD : Int → Int) (inE : Int → Int) : rdesc_T iL inLo inHi inD inE = rdesc_S iL inLo inHi inD inE := by kernel_rfl
theorem rdesc_v : rdesc_S iL inLo inHi inD inE := @Eq.mp (rdesc_T iL inLo inHi inD inE) (rdesc_S iL inLo inHi inD inE) (rdesc_e iL inLo inHi inD inE) rdesc_P
theorem rdesc_ok (gl : Glob) : SOK Tryd.prog gl 45 (rdesc_s iL inLo inHi inD inE) := by
  refine ⟨fok Tryd.func45 (by kernel_rfl) (by kernel_rfl), ?_⟩
  intro xs pre r h hp
  unfold rdesc_s at h
  split at h
  · simp only [Option.some.injEq, Prod.mk.injEq] at h
    obtain ⟨h1, h2⟩ := h
    subst h1 h2
    exact fnK_sound tyNil (by exact specOK rfl rfl trivial trivial) (by kernel_rfl) Tryd.func45 rfl (rdesc_v gl _)
  · cases h
def inR (e v : Int) : Bool := decide (inLo e ≤ v) && decide (v ≤ inHi e)
def rin_s (inR : Int → Int → Bool) : Sp
  | [.agg [.int .i64 e, .int .i64 v]] => some (True, .bool (inR e v))
  | _ => none
set_option maxRecDepth 100000 in
def rin_T (inR : Int → Int → Bool) (iL : Int → ByteArray) (inLo : Int → Int) (inHi : Int → Int) (inD : Int → Int) (inE : Int → Int) : Prop :=
  ∀ (gl : Glob) (e v : Int), ((-9223372036854775808 : Int) ≤ e ∧ e ≤ (9223372036854775807 : Int)) ∧ ((-9223372036854775808 : Int) ≤ v ∧ v ≤ (9223372036854775807 : Int)) ∧ True → True
  ∧ bif decide (inLo e ≤ v) then decide (v ≤ inHi e) = inR e v else false = inR e v
set_option maxRecDepth 100000 in
theorem rin_P : rin_T inR iL inLo inHi inD inE := by
  unfold rin_T
  intro gl e v h
  refine ⟨trivial, ?_⟩
  unfold inR
  refine cs (fun q => ?_) (fun q => ?_)
  · rw [decide_eq_true q]; rfl
  · rw [decide_eq_false q]; rfl
def rin_S (inR : Int → Int → Bool) (iL : Int → ByteArray) (inLo : Int → Int) (inHi : Int → Int) (inD : Int → Int) (inE : Int → Int) : Prop := ∀ (gl : Glob) (e v : Int), fnK Tryd.prog { glob := gl, spec := lk [(45, (rdesc_s iL inLo inHi inD inE))], specH := lk [], nowf := true } { nt := 23, drop := drp [(1, 2016), (2, 8386560)] } (fun _ _ => none) 6 Tryd.f47 [.agg [.int .i64 e, .int .i64 v]] (.bool (inR e v))
set_option maxRecDepth 100000 in
theorem rin_e (inR : Int → Int → Bool) (iL : Int → ByteArray) (inLo : Int → Int) (inHi : Int → Int) (inD : Int → Int) (inE : Int → Int) : rin_T inR iL inLo inHi inD inE = rin_S inR iL inLo inHi inD inE := by kernel_rfl
theorem rin_v : rin_S inR iL inLo inHi inD inE := @Eq.mp (rin_T inR iL inLo inHi inD inE) (rin_S inR iL inLo inHi inD inE) (rin_e inR iL inLo inHi inD inE) rin_P
theorem rin_ok (gl : Glob) : SOK Tryd.prog gl 47 (rin_s inR) := by
  refine ⟨fok Tryd.func47 (by kernel_rfl) (by kernel_rfl), ?_⟩
  intro xs pre r h hp
  unfold rin_s at h
  split at h
  · simp only [Option.some.injEq, Prod.mk.injEq] at h
    obtain ⟨h1, h2⟩ := h
    subst h1 h2
    exact fnK_sound tyNil (by exact specOK rfl rfl ⟨rdesc_ok gl, trivial⟩ trivial) (by kernel_rfl) Tryd.func47 rfl (rin_v gl _ _)
  · cases h
structure RviI (p : List AV → Bool) (xs : List (List AV)) (i : Int) : Prop where
  lo : 0 ≤ i
  hi : i ≤ xs.length
  no : ∀ j : Nat, (j : Int) < i → p (xs.getD j []) = false
def rv1 (f : Bool) (xs : List (List AV)) : LInv := ⟨Int, fun i => ⟨[(0, .sl 2 f xs), (3, .int .i64 i)], []⟩, RviI (ckP 4) xs, fun i => (xs.length - i).toNat, none⟩
structure NoK (xs : List (List AV)) (u : Unit) : Prop where
  no : ∀ j : Nat, j < xs.length → ckP 4 (xs.getD j []) = false
def rvc (f : Bool) (xs : List (List AV)) : LInv := ⟨Unit, fun _ => ⟨[(0, .sl 2 f xs)], []⟩, NoK xs, fun _ => 0, none⟩
def rv2 (f : Bool) (xs : List (List AV)) : LInv := ⟨Int, fun i => ⟨[(0, .sl 2 f xs), (6, .int .i64 i)], []⟩, RviI (ckP 1) xs, fun i => (xs.length - i).toNat, none⟩
def rv3 (f : Bool) (xs : List (List AV)) : LInv := ⟨Int, fun i => ⟨[(0, .sl 2 f xs), (7, .int .i64 i)], []⟩, AscI xs, fun i => (xs.length + 1 - i).toNat, none⟩
def rvalid_s (vdE : List (List AV) → Int) : Sp
  | [.sl 2 f xs] => some (RdsP xs, .int .i64 (vdE xs))
  | _ => none
set_option maxRecDepth 100000 in
def rvalid_T (vdE : List (List AV) → Int) (iL : Int → ByteArray) (inLo : Int → Int) (inHi : Int → Int) (inD : Int → Int) (inE : Int → Int) (inR : Int → Int → Bool) : Prop :=
  ∀ (gl : Glob) (f : Bool) (xs : List (List AV)), RdsP xs → True → (∃ x, RviI (ckP (4 : Int)) xs x ∧ (((bif f then f = true else True) ∧ xs = xs) ∧ (0 : Int) = x ∧ True) ∧ True) ∧ ∀
  (x : Int), RviI (ckP (4 : Int)) xs x → bif decide (x < (↑xs.length : Int)) then bif decide ((0 : Int) ≤ x ∧ x < (↑xs.length : Int)) then ∃ n, List.take [AV.int IntKind.i64
  n].length (List.drop (0 : Nat) (xs.getD x.toNat [])) = [AV.int IntKind.i64 n] ∧ True ∧ bif decide ¬inE n = (0 : Int) then inE n = vdE xs else bif decide (rng IntKind.i64 (x + (1 :
  Int))) then ∃ y, RviI (ckP (4 : Int)) xs y ∧ (rv1 f xs).m y < (rv1 f xs).m x ∧ (((bif f then f = true else True) ∧ xs = xs) ∧ x + (1 : Int) = y ∧ True) ∧ True else False else False
  else (∃ x, RviI (ckP (1 : Int)) xs x ∧ (((bif f then f = true else True) ∧ xs = xs) ∧ (0 : Int) = x ∧ True) ∧ True) ∧ ∀ (x : Int), RviI (ckP (1 : Int)) xs x → bif decide (x <
  (↑xs.length : Int)) then bif decide ((0 : Int) ≤ x ∧ x < (↑xs.length : Int)) then ∃ n n_1, List.take [AV.int IntKind.i64 n, AV.int IntKind.i64 n_1].length (xs.getD x.toNat []) =
  [AV.int IntKind.i64 n, AV.int IntKind.i64 n_1] ∧ True ∧ bif !inR n n_1 then (1 : Int) = vdE xs else bif decide (rng IntKind.i64 (x + (1 : Int))) then ∃ y, RviI (ckP (1 : Int)) xs y
  ∧ (rv2 f xs).m y < (rv2 f xs).m x ∧ (((bif f then f = true else True) ∧ xs = xs) ∧ x + (1 : Int) = y ∧ True) ∧ True else False else False else (∃ x, AscI xs x ∧ (((bif f then f =
  true else True) ∧ xs = xs) ∧ (1 : Int) = x ∧ True) ∧ True) ∧ ∀ (x : Int), AscI xs x → bif decide (x < (↑xs.length : Int)) then bif decide (rng IntKind.i64 (x - (1 : Int))) then bif
  decide ((0 : Int) ≤ x - (1 : Int) ∧ x - (1 : Int) < (↑xs.length : Int)) then ∃ n, List.take [AV.int IntKind.i64 n].length (List.drop (0 : Nat) (xs.getD (x - (1 : Int)).toNat [])) =
  [AV.int IntKind.i64 n] ∧ bif decide ((0 : Int) ≤ x ∧ x < (↑xs.length : Int)) then ∃ n_1, List.take [AV.int IntKind.i64 n_1].length (List.drop (0 : Nat) (xs.getD x.toNat [])) =
  [AV.int IntKind.i64 n_1] ∧ bif decide (n_1 ≤ n) then (8 : Int) = vdE xs else bif decide (rng IntKind.i64 (x + (1 : Int))) then ∃ y, AscI xs y ∧ (rv3 f xs).m y < (rv3 f xs).m x ∧
  (((bif f then f = true else True) ∧ xs = xs) ∧ x + (1 : Int) = y ∧ True) ∧ True else False else False else False else False else (0 : Int) = vdE xs
set_option maxRecDepth 100000 in
theorem rvalid_P : rvalid_T vdE iL inLo inHi inD inE inR := by
  unfold rvalid_T
  intro gl f xs ⟨hr, hs⟩ _
  have bf : cond f (f = true) True := by cases f <;> trivial
  have al : ∀ (p : List AV → Bool), (∀ j : Nat, j < xs.length → p (xs.getD j []) = false) → xs.any p = false := fun p h => by
    rw [Bool.eq_false_iff]
    intro q
    obtain ⟨x, hx, hp⟩ := List.any_eq_true.1 q
    obtain ⟨j, hj, rfl⟩ := List.mem_iff_getElem.1 hx
    have := h j hj
    rw [List.getD_eq_getElem?_getD, List.getElem?_eq_getElem hj] at this
    rw [show (some xs[j]).getD [] = xs[j] from rfl, hp] at this
    cases this
  have ae : ∀ (p : List AV → Bool) (j : Nat), j < xs.length → p (xs.getD j []) = true → xs.any p = true := fun p j hj h => by
    rw [List.getD_eq_getElem?_getD, List.getElem?_eq_getElem hj] at h
    exact List.any_eq_true.2 ⟨xs[j], List.getElem_mem hj, h⟩
  refine ⟨⟨0, ⟨by decide, by omega, fun j h => by omega⟩, ⟨⟨bf, rfl⟩, rfl, trivial⟩, trivial⟩, ?_⟩
  rintro i ⟨h0, h1, hn⟩
  refine cs (fun hl => ?_) (fun hl => ?_)
  · obtain ⟨e, v, he, _, _⟩ := hr i.toNat (by omega)
    refine cd1 ⟨h0, hl⟩ ⟨e, by rw [he]; rfl, trivial, cs (fun q => ?_) (fun q => ?_)⟩
    · have hk : okC e = false := by
        cases hk : okC e with
        | false => rfl
        | true => unfold inE at q; rw [hk] at q; exact absurd rfl q
      have : ckA 4 xs = true := ae _ i.toNat (by omega) (by rw [he]; show decide (ck e v = 4) = true; unfold ck; rw [hk]; rfl)
      unfold vdE inE; rw [this, hk]; rfl
    · have hk : okC e = true := by
        cases hk : okC e with
        | true => rfl
        | false => unfold inE at q; rw [hk] at q; exact absurd (by decide) q
      refine cdI (by omega) ⟨i + 1, ⟨by omega, by omega, fun j hj => ?_⟩, by simp only [rv1]; omega, ⟨⟨bf, rfl⟩, rfl, trivial⟩, trivial⟩
      rcases Nat.lt_or_ge j i.toNat with k | k
      · exact hn j (by omega)
      · rw [show j = i.toNat by omega, he]; show decide (ck e v = 4) = false; unfold ck; rw [hk]; refine decide_eq_false ?_; simp only [if_true]; split <;> decide
  have k4 : ckA 4 xs = false := al _ fun j hj => hn j (by omega)
  have ok : ∀ j : Nat, j < xs.length → ∀ e v, xs.getD j [] = [.int .i64 e, .int .i64 v] → okC e = true := fun j hj e v he => by
    have := hn j (by omega)
    rw [he] at this
    cases hk : okC e with
    | true => rfl
    | false => have h2 : decide (ck e v = 4) = false := this; unfold ck at h2; rw [hk] at h2; simp at h2
  refine ⟨⟨0, ⟨by decide, by omega, fun j h => by omega⟩, ⟨⟨bf, rfl⟩, rfl, trivial⟩, trivial⟩, ?_⟩
  rintro i ⟨h0, h1, hn⟩
  refine cs (fun hl => ?_) (fun hl => ?_)
  · obtain ⟨e, v, he, _, _⟩ := hr i.toNat (by omega)
    have hk := ok i.toNat (by omega) e v he
    have hc : inR e v = decide (¬ ck e v = 1) := by
      unfold inR ck; rw [hk]; simp only [if_true]
      by_cases q : v < inLo e ∨ inHi e < v
      · rw [if_pos q]
        rcases q with q | q
        · rw [decide_eq_false (by omega : ¬ inLo e ≤ v)]; rfl
        · rw [decide_eq_false (by omega : ¬ v ≤ inHi e), Bool.and_false]; rfl
      · rw [if_neg q, decide_eq_true (by omega : inLo e ≤ v), decide_eq_true (by omega : v ≤ inHi e)]; rfl
    refine cd1 ⟨h0, hl⟩ ⟨e, v, by rw [he]; rfl, trivial, ?_⟩
    rw [hc]
    refine csplit (fun q => ?_) (fun q => ?_)
    · have q : ck e v = 1 := by simpa using q
      have : ckA 1 xs = true := ae _ i.toNat (by omega) (by rw [he]; exact decide_eq_true q)
      unfold vdE; rw [k4, this]; rfl
    · have q : ¬ ck e v = 1 := by simpa using q
      refine cdI (by omega) ⟨i + 1, ⟨by omega, by omega, fun j hj => ?_⟩, by simp only [rv2]; omega, ⟨⟨bf, rfl⟩, rfl, trivial⟩, trivial⟩
      rcases Nat.lt_or_ge j i.toNat with k | k
      · exact hn j (by omega)
      · rw [show j = i.toNat by omega, he]; exact decide_eq_false q
  have k1 : ckA 1 xs = false := al _ fun j hj => hn j (by omega)
  have hv : vdE xs = if ascB xs then 0 else 8 := by unfold vdE; rw [k4, k1]; rfl
  rw [hv]
  refine ⟨⟨1, ⟨by decide, .inr rfl, fun j hj _ => .inl (by omega)⟩, ⟨⟨bf, rfl⟩, rfl, trivial⟩, trivial⟩, ?_⟩
  clear hn h0 h1 hl
  rintro i ⟨h0, h2, hn⟩
  refine cs (fun hl => ?_) (fun hl => ?_)
  · obtain ⟨e, v, he, _, _⟩ := hr (i - 1).toNat (by omega)
    obtain ⟨e', v', he', _, _⟩ := hr i.toNat (by omega)
    have hi : i.toNat - 1 = (i - 1).toNat := by omega
    have q1 : rE (xs.getD (i.toNat - 1) []) = e := by rw [hi, he]; rfl
    have q2 : rE (xs.getD i.toNat []) = e' := by rw [he']; rfl
    refine cdI (by omega) (cd1 (by omega) ⟨e, by rw [he]; rfl, cd1 (by omega) ⟨e', by rw [he']; rfl, cs (fun q => ?_) (fun q => ?_)⟩⟩)
    · have : ascB xs = false := by
        refine decide_eq_false fun h => ?_
        rcases h i.toNat (by omega) with k | k
        · omega
        · rw [q1, q2] at k; omega
      rw [this]; rfl
    · refine cdI (by omega) ⟨i + 1, ⟨by omega, .inl (by omega), fun j hj hlj => ?_⟩, by simp only [rv3]; omega, ⟨⟨bf, rfl⟩, rfl, trivial⟩, trivial⟩
      rcases Nat.lt_or_ge j i.toNat with k | k
      · exact hn j (by omega) hlj
      · rw [show j = i.toNat by omega, q1, q2]; exact .inr (by omega)
  · have : ascB xs = true := decide_eq_true fun j hj => hn j (by omega) hj
    rw [this]; rfl
def rvalid_S (vdE : List (List AV) → Int) (iL : Int → ByteArray) (inLo : Int → Int) (inHi : Int → Int) (inD : Int → Int) (inE : Int → Int) (inR : Int → Int → Bool) : Prop := ∀ (gl : Glob) (f : Bool) (xs : List (List AV)), RdsP xs → fnK Tryd.prog { glob := gl, spec := lk [(45, (rdesc_s iL inLo inHi inD inE)), (47, (rin_s inR))], specH := lk [], shape := [19, 35, 49, 54], nowf := true } { nt := 56, drop := drp [(2, 1792), (3, 12288), (4, 8372240), (5, 8388608), (6, 33554432), (8, 469762048), (9, 3221225472), (10, 133143986176), (13, 1924145348608), (14, 13194139533312), (15, 36011204832919552)] } (invs [(2, rv1 f xs), (8, rv2 f xs), (13, rv3 f xs)]) 6 Tryd.f31 [.sl 2 f xs] (.int .i64 (vdE xs))
set_option maxRecDepth 100000 in
theorem rvalid_e (vdE : List (List AV) → Int) (iL : Int → ByteArray) (inLo : Int → Int) (inHi : Int → Int) (inD : Int → Int) (inE : Int → Int) (inR : Int → Int → Bool) : rvalid_T vdE iL inLo inHi inD inE inR = rvalid_S vdE iL inLo inHi inD inE inR := by kernel_rfl
theorem rvalid_v : rvalid_S vdE iL inLo inHi inD inE inR := @Eq.mp (rvalid_T vdE iL inLo inHi inD inE inR) (rvalid_S vdE iL inLo inHi inD inE inR) (rvalid_e vdE iL inLo inHi inD inE inR) rvalid_P
theorem rvalid_ok (gl : Glob) : SOK Tryd.prog gl 31 (rvalid_s vdE) := by
  refine ⟨fok Tryd.func31 (by kernel_rfl) (by kernel_rfl), ?_⟩
  intro xs pre r h hp
  unfold rvalid_s at h
  split at h
  · simp only [Option.some.injEq, Prod.mk.injEq] at h
    obtain ⟨h1, h2⟩ := h
    subst h1 h2
    exact fnK_sound tyNil (by exact specOK rfl rfl ⟨rdesc_ok gl, rin_ok gl, trivial⟩ trivial) (by kernel_rfl) Tryd.func31 rfl (rvalid_v gl _ _ hp)
  · cases h
end Go.Proofs.YtceknalhogbbnaaDoor
