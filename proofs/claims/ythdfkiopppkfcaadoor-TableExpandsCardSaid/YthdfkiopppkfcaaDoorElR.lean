/- The elements: the reference (Describe, in, Validate). -/
import Derived.Test.YthdfkiopppkfcaaDoorElA
namespace Go.Proofs.YthdfkiopppkfcaaDoor
open Go
set_option linter.unusedVariables false
set_option linter.unusedSimpArgs false

def rdesc_s (iL : Int → ByteArray) (inLo : Int → Int) (inHi : Int → Int) (inD : Int → Int) (inE : Int → Int) : Sp
  | [.int .i64 c] => some (True, .tup [.agg [.str (iL c), .int .i64 (inLo c), .int .i64 (inHi c), .int .i64 (inD c)], .int .i64 (inE c)])
  | _ => none
set_option maxRecDepth 100000 in
def rdesc_T (iL : Int → ByteArray) (inLo : Int → Int) (inHi : Int → Int) (inD : Int → Int) (inE : Int → Int) : Prop :=
  ∀ (gl : Glob) (c : Int), (-9223372036854775808 : Int) ≤ c ∧ c ≤ (9223372036854775807 : Int) → bif decide (c < (1 : Int)) then ({ data := #[] } = iL c ∧ (0 : Int) = inLo c ∧ (0 :
  Int) = inHi c ∧ (0 : Int) = inD c ∧ True) ∧ (4 : Int) = inE c ∧ True else bif decide ((11 : Int) < c) then ({ data := #[] } = iL c ∧ (0 : Int) = inLo c ∧ (0 : Int) = inHi c ∧ (0 :
  Int) = inD c ∧ True) ∧ (4 : Int) = inE c ∧ True else bif decide (rng IntKind.i64 (c - (1 : Int))) then bif decide ((0 : Int) ≤ c - (1 : Int) ∧ c - (1 : Int) < (11 : Int)) then bif
  decide ((11 : Nat) = (11 : Nat) ∧ (c - (1 : Int)).toNat < (11 : Nat)) then ∃ s n n_1 n_2, List.take [AV.str s, AV.int IntKind.i64 n, AV.int IntKind.i64 n_1, AV.int IntKind.i64
  n_2].length (List.drop (0 : Nat) ([[AV.str { data := #[(80 : UInt8)] }, AV.int IntKind.i64 (8000 : Int), AV.int IntKind.i64 (11000 : Int), AV.int IntKind.i64 (5 : Int)], [AV.str {
  data := #[(84 : UInt8)] }, AV.int IntKind.i64 (1800 : Int), AV.int IntKind.i64 (3300 : Int), AV.int IntKind.i64 (4 : Int)], [AV.str { data := #[(68 : UInt8)] }, AV.int IntKind.i64
  (1800 : Int), AV.int IntKind.i64 (3300 : Int), AV.int IntKind.i64 (4 : Int)], [AV.str { data := #[(69 : UInt8)] }, AV.int IntKind.i64 (-1000 : Int), AV.int IntKind.i64 (1000 :
  Int), AV.int IntKind.i64 (4 : Int)], [AV.str { data := #[(78 : UInt8)] }, AV.int IntKind.i64 (-1000 : Int), AV.int IntKind.i64 (1000 : Int), AV.int IntKind.i64 (4 : Int)], [AV.str
  { data := #[(65 : UInt8)] }, AV.int IntKind.i64 (900 : Int), AV.int IntKind.i64 (1700 : Int), AV.int IntKind.i64 (4 : Int)], [AV.str { data := #[(66 : UInt8)] }, AV.int IntKind.i64
  (2000 : Int), AV.int IntKind.i64 (3200 : Int), AV.int IntKind.i64 (4 : Int)], [AV.str { data := #[(70 : UInt8)] }, AV.int IntKind.i64 (2400 : Int), AV.int IntKind.i64 (3400 : Int),
  AV.int IntKind.i64 (4 : Int)], [AV.str { data := #[(71 : UInt8)] }, AV.int IntKind.i64 (2000 : Int), AV.int IntKind.i64 (3000 : Int), AV.int IntKind.i64 (4 : Int)], [AV.str { data
  := #[(74 : UInt8)] }, AV.int IntKind.i64 (4400 : Int), AV.int IntKind.i64 (6200 : Int), AV.int IntKind.i64 (4 : Int)], [AV.str { data := #[(75 : UInt8)] }, AV.int IntKind.i64 (2000
  : Int), AV.int IntKind.i64 (2900 : Int), AV.int IntKind.i64 (4 : Int)]].getD (c - (1 : Int)).toNat [])) = [AV.str s, AV.int IntKind.i64 n, AV.int IntKind.i64 n_1, AV.int
  IntKind.i64 n_2] ∧ (s = iL c ∧ n = inLo c ∧ n_1 = inHi c ∧ n_2 = inD c ∧ True) ∧ (0 : Int) = inE c ∧ True else False else False else False
set_option maxRecDepth 100000 in
theorem rdesc_P : rdesc_T iL inLo inHi inD inE := by
  unfold rdesc_T
  intro gl c hc
  have hn : okC c = false → ((⟨#[]⟩ : ByteArray) = iL c ∧ 0 = inLo c ∧ 0 = inHi c ∧ 0 = inD c ∧ True) ∧ 4 = inE c ∧ True := by
    intro h; unfold iL inLo inHi inD inE; rw [h]; exact ⟨⟨rfl, rfl, rfl, rfl, trivial⟩, rfl, trivial⟩
  refine cs (fun h => hn (decide_eq_false (by omega))) (fun h1 => cs (fun h => hn (decide_eq_false (by omega))) (fun h2 => ?_))
  have hk : okC c = true := decide_eq_true (by omega)
  refine cdI (by omega) (cd1 (by omega) (cd1 (by omega) ⟨iL c, inLo c, inHi c, inD c, ?_, ⟨rfl, rfl, rfl, rfl, trivial⟩, ?_, trivial⟩))
  · rcases okC_cases hk with rfl | rfl | rfl | rfl | rfl | rfl | rfl | rfl | rfl | rfl | rfl <;> kernel_rfl
  · unfold inE; rw [hk]; rfl
def rdesc_S (iL : Int → ByteArray) (inLo : Int → Int) (inHi : Int → Int) (inD : Int → Int) (inE : Int → Int) : Prop := ∀ (gl : Glob) (c : Int), fnK Tryd.prog { glob := gl, spec := lk [], specH := lk [], shape := [26], nowf := true } { nt := 27, drop := drp [(1, 496), (2, 1024), (3, 134215680)] } (fun _ _ => none) 6 Tryd.f29 [.int .i64 c] (.tup [.agg [.str (iL c), .int .i64 (inLo c), .int .i64 (inHi c), .int .i64 (inD c)], .int .i64 (inE c)])
set_option maxRecDepth 100000 in
theorem rdesc_e (iL : Int → ByteArray) (inLo : Int → Int) (inHi : Int → Int) (inD : Int → Int) (inE : Int → Int) : rdesc_T iL inLo inHi inD inE = rdesc_S iL inLo inHi inD inE := by kernel_rfl
theorem rdesc_v : rdesc_S iL inLo inHi inD inE := @Eq.mp (rdesc_T iL inLo inHi inD inE) (rdesc_S iL inLo inHi inD inE) (rdesc_e iL inLo inHi inD inE) rdesc_P
theorem rdesc_ok (gl : Glob) : SOK Tryd.prog gl 29 (rdesc_s iL inLo inHi inD inE) := by
  refine ⟨fok Tryd.func29 (by kernel_rfl) (by kernel_rfl), ?_⟩
  intro xs pre r h hp
  unfold rdesc_s at h
  split at h
  · simp only [Option.some.injEq, Prod.mk.injEq] at h
    obtain ⟨h1, h2⟩ := h
    subst h1 h2
    exact fnK_sound tyNil (by exact specOK rfl rfl trivial trivial) (by kernel_rfl) Tryd.func29 rfl (rdesc_v gl _)
  · cases h
def inR (e v : Int) : Bool := decide (inLo e ≤ v) && decide (v ≤ inHi e)

structure RviI (p : List AV → Bool) (xs : List (List AV)) (i : Int) : Prop where
  lo : 0 ≤ i
  hi : i ≤ xs.length
  no : ∀ j : Nat, (j : Int) < i → p (xs.getD j []) = false
def rv1 (f : Bool) (xs : List (List AV)) : LInv := ⟨Int, fun i => ⟨[(0, .sl 2 f xs), (3, .int .i64 i)], []⟩, RviI (ckP 4) xs, fun i => (xs.length - i).toNat, none⟩
structure NoK (xs : List (List AV)) (u : Unit) : Prop where
  no : ∀ j : Nat, j < xs.length → ckP 4 (xs.getD j []) = false
def rvc (f : Bool) (xs : List (List AV)) : LInv := ⟨Unit, fun _ => ⟨[(0, .sl 2 f xs)], []⟩, NoK xs, fun _ => 0, none⟩
def rv2 (f : Bool) (xs : List (List AV)) : LInv := ⟨Int, fun i => ⟨[(0, .sl 2 f xs), (6, .int .i64 i)], []⟩, RviI (ckP 1) xs, fun i => (xs.length - i).toNat, none⟩
def rv3 (f : Bool) (xs : List (List AV)) : LInv := ⟨Int, fun i => ⟨[(0, .sl 2 f xs), (7, .int .i64 i)], []⟩, AscI xs, fun i => (xs.length + 1 - i).toNat, none⟩

end Go.Proofs.YthdfkiopppkfcaaDoor
