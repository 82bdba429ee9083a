/- The elements: Describe, check, Validate, Find. -/
import Derived.Test.YthdfkiopppkfcaaDoorGl
import Derived.Test.YthdfkiopppkfcaaDoorDg
namespace Go.Proofs.YthdfkiopppkfcaaDoor
open Go
set_option linter.unusedVariables false
set_option linter.unusedSimpArgs false

def letC : ByteArray := ⟨#[80, 84, 68, 69, 78, 65, 66, 70, 71, 74, 75]⟩
def okC (c : Int) : Bool := decide (1 ≤ c ∧ c ≤ 11)
def inLo (c : Int) : Int := if okC c then bndT.getD (2 * (c - 1).toNat) 0 else 0
def inHi (c : Int) : Int := if okC c then bndT.getD (2 * (c - 1).toNat + 1) 0 else 0
def iL (c : Int) : ByteArray := if okC c then Utf8.encode (byteI letC (c - 1).toNat) else ⟨#[]⟩
def inD (c : Int) : Int := if okC c then (if c = 1 then 5 else 4) else 0
def inE (c : Int) : Int := if okC c then 0 else 4
theorem okC_cases {c : Int} (h : okC c = true) : c = 1 ∨ c = 2 ∨ c = 3 ∨ c = 4 ∨ c = 5 ∨ c = 6 ∨ c = 7 ∨ c = 8 ∨ c = 9 ∨ c = 10 ∨ c = 11 := by
  have : 1 ≤ c ∧ c ≤ 11 := of_decide_eq_true h
  omega
def edesc_s (iL : Int → ByteArray) (inLo : Int → Int) (inHi : Int → Int) (inD : Int → Int) (inE : Int → Int) : Sp
  | [.int .i64 c] => some (True, .tup [.agg [.str (iL c), .int .i64 (inLo c), .int .i64 (inHi c), .int .i64 (inD c)], .int .i64 (inE c)])
  | _ => none
set_option maxRecDepth 100000 in
def edesc_T (iL : Int → ByteArray) (inLo : Int → Int) (inHi : Int → Int) (inD : Int → Int) (inE : Int → Int) : Prop :=
  ∀ (c : Int), (-9223372036854775808 : Int) ≤ c ∧ c ≤ (9223372036854775807 : Int) → bif decide (c < (1 : Int)) then ({ data := #[] } = iL c ∧ (0 : Int) = inLo c ∧ (0 : Int) = inHi c
  ∧ (0 : Int) = inD c ∧ True) ∧ (4 : Int) = inE c ∧ True else bif decide ((11 : Int) < c) then ({ data := #[] } = iL c ∧ (0 : Int) = inLo c ∧ (0 : Int) = inHi c ∧ (0 : Int) = inD c ∧
  True) ∧ (4 : Int) = inE c ∧ True else bif decide (rng IntKind.i64 (c - (1 : Int))) then bif decide ((0 : Int) ≤ c - (1 : Int) ∧ c - (1 : Int) < (11 : Int)) then ∃ n n_1, List.take
  [AV.int IntKind.i64 n, AV.int IntKind.i64 n_1].length (List.drop ((c - (1 : Int)).toNat * (2 : Nat)) (List.map (AV.int IntKind.i64) bndT)) = [AV.int IntKind.i64 n, AV.int
  IntKind.i64 n_1] ∧ bif decide (rng IntKind.i64 (c - (1 : Int))) then bif decide ((0 : Int) ≤ c - (1 : Int) ∧ c - (1 : Int) < (11 : Int)) then bif decide (c = (1 : Int)) then
  (Utf8.encode (byteI { data := #[(80 : UInt8), (84 : UInt8), (68 : UInt8), (69 : UInt8), (78 : UInt8), (65 : UInt8), (66 : UInt8), (70 : UInt8), (71 : UInt8), (74 : UInt8), (75 :
  UInt8)] } (c - (1 : Int)).toNat) = iL c ∧ n = inLo c ∧ n_1 = inHi c ∧ (5 : Int) = inD c ∧ True) ∧ (0 : Int) = inE c ∧ True else (Utf8.encode (byteI { data := #[(80 : UInt8), (84 :
  UInt8), (68 : UInt8), (69 : UInt8), (78 : UInt8), (65 : UInt8), (66 : UInt8), (70 : UInt8), (71 : UInt8), (74 : UInt8), (75 : UInt8)] } (c - (1 : Int)).toNat) = iL c ∧ n = inLo c ∧
  n_1 = inHi c ∧ (4 : Int) = inD c ∧ True) ∧ (0 : Int) = inE c ∧ True else False else False else False else False
set_option maxRecDepth 100000 in
theorem edesc_P : edesc_T iL inLo inHi inD inE := by
  unfold edesc_T
  intro c hc
  have hn : okC c = false → ((⟨#[]⟩ : ByteArray) = iL c ∧ 0 = inLo c ∧ 0 = inHi c ∧ 0 = inD c ∧ True) ∧ 4 = inE c ∧ True := by
    intro h; unfold iL inLo inHi inD inE; rw [h]; exact ⟨⟨rfl, rfl, rfl, rfl, trivial⟩, rfl, trivial⟩
  refine cs (fun h => hn (decide_eq_false (by omega))) (fun h1 => cs (fun h => hn (decide_eq_false (by omega))) (fun h2 => ?_))
  have hk : okC c = true := decide_eq_true (by omega)
  refine cdI (by omega) (cd1 (by omega) ⟨inLo c, inHi c, ?_, cdI (by omega) (cd1 (by omega) ?_)⟩)
  · rcases okC_cases hk with rfl | rfl | rfl | rfl | rfl | rfl | rfl | rfl | rfl | rfl | rfl <;> rfl
  · unfold iL inD inE
    rw [hk]
    simp only [if_true]
    refine cs (fun h => ?_) (fun h => ?_)
    · rw [if_pos h]; exact (by repeat' (first | apply And.intro | exact trivial | exact rfl))
    · rw [if_neg h]; exact (by repeat' (first | apply And.intro | exact trivial | exact rfl))
def edesc_S (iL : Int → ByteArray) (inLo : Int → Int) (inHi : Int → Int) (inD : Int → Int) (inE : Int → Int) : Prop := ∀ (c : Int), fnK Tryd.prog { glob := glb, spec := lk [], specH := lk [], shape := [16], nowf := true } { nt := 30, drop := drp [(1, 1984), (2, 4096), (3, 122880), (4, 66977792), (5, 67108864), (6, 268435456), (7, 536870912)] } (fun _ _ => none) 6 Tryd.f59 [.int .i64 c] (.tup [.agg [.str (iL c), .int .i64 (inLo c), .int .i64 (inHi c), .int .i64 (inD c)], .int .i64 (inE c)])
set_option maxRecDepth 100000 in
theorem edesc_e (iL : Int → ByteArray) (inLo : Int → Int) (inHi : Int → Int) (inD : Int → Int) (inE : Int → Int) : edesc_T iL inLo inHi inD inE = edesc_S iL inLo inHi inD inE := by kernel_rfl
theorem edesc_v : edesc_S iL inLo inHi inD inE := @Eq.mp (edesc_T iL inLo inHi inD inE) (edesc_S iL inLo inHi inD inE) (edesc_e iL inLo inHi inD inE) edesc_P
theorem edesc_ok : SOK Tryd.prog glb 59 (edesc_s iL inLo inHi inD inE) := by
  refine ⟨fok Tryd.func59 (by kernel_rfl) (by kernel_rfl), ?_⟩
  intro xs pre r h hp
  unfold edesc_s at h
  split at h
  · simp only [Option.some.injEq, Prod.mk.injEq] at h
    obtain ⟨h1, h2⟩ := h
    subst h1 h2
    exact fnK_sound tyNil (by exact specOK rfl rfl trivial trivial) (by kernel_rfl) Tryd.func59 rfl (edesc_v  _)
  · cases h
def ck (e v : Int) : Int := if okC e then (if v < inLo e ∨ inHi e < v then 1 else 0) else 4

/-! Searching in lists. -/
def idxP (p : List AV → Bool) (xs : List (List AV)) : Int := if xs.any p then (xs.findIdx p : Int) else -1
theorem idx_some {p : List AV → Bool} {xs : List (List AV)} {i : Nat} (hi : i < xs.length) (h : p (xs.getD i []) = true) (hn : ∀ j, j < i → p (xs.getD j []) = false) : (i : Int) = idxP p xs := by
  have e : ∀ j (hj : j < xs.length), xs.getD j [] = xs[j] := fun j hj => by rw [List.getD_eq_getElem?_getD, List.getElem?_eq_getElem hj]; rfl
  unfold idxP
  rw [if_pos (List.any_eq_true.2 ⟨xs[i], List.getElem_mem hi, by rw [← e i hi]; exact h⟩)]
  rw [(List.findIdx_eq hi).2 ⟨by rw [← e i hi]; exact h, fun j hj => by rw [← e j (by omega)]; exact hn j hj⟩]
theorem idx_none {p : List AV → Bool} {xs : List (List AV)} (hn : ∀ j, j < xs.length → p (xs.getD j []) = false) : -1 = idxP p xs := by
  unfold idxP
  rw [if_neg]
  intro h
  obtain ⟨x, hx, hp⟩ := List.any_eq_true.1 h
  obtain ⟨j, hj, rfl⟩ := List.mem_iff_getElem.1 hx
  have := hn j hj
  rw [List.getD_eq_getElem?_getD, List.getElem?_eq_getElem hj] at this
  rw [show (some xs[j]).getD [] = xs[j] from rfl, hp] at this
  cases this
theorem idx_ge {p : List AV → Bool} {xs : List (List AV)} : decide (0 ≤ idxP p xs) = xs.any p := by
  unfold idxP
  cases h : xs.any p with
  | true => rw [if_pos rfl]; exact decide_eq_true (by omega)
  | false => rw [if_neg (by simp)]; rfl
/-- Readings: rows of two numbers. -/
structure RdsP (xs : List (List AV)) : Prop where
  row : ∀ i, i < xs.length → ∃ e v : Int, xs.getD i [] = [.int .i64 e, .int .i64 v] ∧ rng .i64 e ∧ rng .i64 v
  sm : xs.length ≤ 9223372036854775807
def rE (r : List AV) : Int := cellI (r.take 1)
def rV (r : List AV) : Int := cellI (r.drop 1)
def ckP (bad : Int) (r : List AV) : Bool := decide (ck (rE r) (rV r) = bad)
def cdP (code : Int) (r : List AV) : Bool := decide (rE r = code)
def ckI (bad : Int) (xs : List (List AV)) : Int := idxP (ckP bad) xs
def ckA (bad : Int) (xs : List (List AV)) : Bool := xs.any (ckP bad)
def cdI' (code : Int) (xs : List (List AV)) : Int := idxP (cdP code) xs

structure IdxI (p : List AV → Bool) (xs : List (List AV)) (i : Int) : Prop where
  lo : 0 ≤ i
  hi : i ≤ xs.length
  no : ∀ j : Nat, (j : Int) < i → p (xs.getD j []) = false
def ixI (k : Nat) (p : List AV → Bool) (f : Bool) (bad : Int) (xs : List (List AV)) : LInv := ⟨Int, fun i => ⟨[(0, .sl 2 f xs), (1, .fn k [.ptr 0 0]), (7, .int .i64 xs.length), (8, .int .i64 i)], [(0, .cells [.int .i64 bad])]⟩, IdxI p xs, fun i => (xs.length - i).toNat, none⟩



def ascB (xs : List (List AV)) : Bool := decide (∀ j, j < xs.length → j = 0 ∨ rE (xs.getD (j - 1) []) < rE (xs.getD j []))
def vdE (xs : List (List AV)) : Int := if ckA 4 xs then 4 else if ckA 1 xs then 1 else if ascB xs then 0 else 8
structure AscI (xs : List (List AV)) (i : Int) : Prop where
  lo : 1 ≤ i
  hi : i ≤ xs.length ∨ i = 1
  asc : ∀ j : Nat, (j : Int) < i → j < xs.length → j = 0 ∨ rE (xs.getD (j - 1) []) < rE (xs.getD j [])
def ascL (f : Bool) (xs : List (List AV)) : LInv := ⟨Int, fun i => ⟨[(1, .ptr 1 0), (4, .int .i64 i)], [(1, .cells [.sl 2 f xs])]⟩, AscI xs, fun i => (xs.length + 1 - i).toNat, none⟩



def fdB (xs : List (List AV)) (code : Int) : Bool := decide (0 ≤ cdI' code xs)
def fdV (xs : List (List AV)) (code : Int) : Int := if fdB xs code then rV (xs.getD (cdI' code xs).toNat []) else 0

end Go.Proofs.YthdfkiopppkfcaaDoor
