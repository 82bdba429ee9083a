/- The elements: Describe, check, Validate, Find. -/
import Derived.Test.YtceknalhogbbnaaDoorGl
import Derived.Test.YtceknalhogbbnaaDoorDg
namespace Go.Proofs.YtceknalhogbbnaaDoor
open Go
set_option linter.unusedVariables false
set_option linter.unusedSimpArgs false

def letC : ByteArray := ⟨#[80, 84, 68, 69, 78, 65, 66, 70, 71, 74, 75]⟩
def okC (c : Int) : Bool := decide (1 ≤ c ∧ c ≤ 11)
def inLo (c : Int) : Int := if okC c then bndT.getD (2 * (c - 1).toNat) 0 else 0
def inHi (c : Int) : Int := if okC c then bndT.getD (2 * (c - 1).toNat + 1) 0 else 0
def iL (c : Int) : ByteArray := if okC c then Utf8.encode (byteI letC (c - 1).toNat) else ⟨#[]⟩
def inD (c : Int) : Int := if okC c then (if c = 1 then 5 else 4) else 0
def inE (c : Int) : Int := if okC c then 0 else 4
theorem okC_cases {c : Int} (h : okC c = true) : c = 1 ∨ c = 2 ∨ c = 3 ∨ c = 4 ∨ c = 5 ∨ c = 6 ∨ c = 7 ∨ c = 8 ∨ c = 9 ∨ c = 10 ∨ c = 11 := by
  have : 1 ≤ c ∧ c ≤ 11 := of_decide_eq_true h
  omega
def edesc_s (iL : Int → ByteArray) (inLo : Int → Int) (inHi : Int → Int) (inD : Int → Int) (inE : Int → Int) : Sp
  | [.int .i64 c] => some (True, .tup [.agg [.str (iL c), .int .i64 (inLo c), .int .i64 (inHi c), .int .i64 (inD c)], .int .i64 (inE c)])
  | _ => none
set_option maxRecDepth 100000 in
def edesc_T (iL : Int → ByteArray) (inLo : Int → Int) (inHi : Int → Int) (inD : Int → Int) (inE : Int → Int) : Prop :=
  ∀ (c : Int), (-9223372036854775808 : Int) ≤ c ∧ c ≤ (9223372036854775807 : Int) → bif decide (c < (1 : Int)) then ({ data := #[] } = iL c ∧ (0 : Int) = inLo c ∧ (0 : Int) = inHi c
  ∧ (0 : Int) = inD c ∧ True) ∧ (4 : Int) = inE c ∧ True else bif decide ((11 : Int) < c) then ({ data := #[] } = iL c ∧ (0 : Int) = inLo c ∧ (0 : Int) = inHi c ∧ (0 : Int) = inD c ∧
  True) ∧ (4 : Int) = inE c ∧ True else bif decide (rng IntKind.i64 (c - (1 : Int))) then bif decide ((0 : Int) ≤ c - (1 : Int) ∧ c - (1 : Int) < (11 : Int)) then ∃ n n_1, List.take
  [AV.int IntKind.i64 n, AV.int IntKind.i64 n_1].length (List.drop ((c - (1 : Int)).toNat * (2 : Nat)) (List.map (AV.int IntKind.i64) bndT)) = [AV.int IntKind.i64 n, AV.int
  IntKind.i64 n_1] ∧ bif decide (rng IntKind.i64 (c - (1 : Int))) then bif decide ((0 : Int) ≤ c - (1 : Int) ∧ c - (1 : Int) < (11 : Int)) then bif decide (c = (1 : Int)) then
  (Utf8.encode (byteI { data := #[(80 : UInt8), (84 : UInt8), (68 : UInt8), (69 : UInt8), (78 : UInt8), (65 : UInt8), (66 : UInt8), (70 : UInt8), (71 : UInt8), (74 : UInt8), (75 :
  UInt8)] } (c - (1 : Int)).toNat) = iL c ∧ n = inLo c ∧ n_1 = inHi c ∧ (5 : Int) = inD c ∧ True) ∧ (0 : Int) = inE c ∧ True else (Utf8.encode (byteI { data := #[(80 : UInt8), (84 :
  UInt8), (68 : UInt8), (69 : UInt8), (78 : UInt8), (65 : UInt8), (66 : UInt8), (70 : UInt8), (71 : UInt8), (74 : UInt8), (75 : UInt8)] } (c - (1 : Int)).toNat) = iL c ∧ n = inLo c ∧
  n_1 = inHi c ∧ (4 : Int) = inD c ∧ True) ∧ (0 : Int) = inE c ∧ True else False else False else False else False
set_option maxRecDepth 100000 in
theorem edesc_P : edesc_T iL inLo inHi inD inE := by
  unfold edesc_T
  intro c hc
  have hn : okC c = false → ((⟨#[]⟩ : ByteArray) = iL c ∧ 0 = inLo c ∧ 0 = inHi c ∧ 0 = inD c ∧ True) ∧ 4 = inE c ∧ True := by
    intro h; unfold iL inLo inHi inD inE; rw [h]; exact ⟨⟨rfl, rfl, rfl, rfl, trivial⟩, rfl, trivial⟩
  refine cs (fun h => hn (decide_eq_false (by omega))) (fun h1 => cs (fun h => hn (decide_eq_false (by omega))) (fun h2 => ?_))
  have hk : okC c = true := decide_eq_true (by omega)
  refine cdI (by omega) (cd1 (by omega) ⟨inLo c, inHi c, ?_, cdI (by omega) (cd1 (by omega) ?_)⟩)
  · rcases okC_cases hk with rfl | rfl | rfl | rfl | rfl | rfl | rfl | rfl | rfl | rfl | rfl <;> rfl
  · unfold iL inD inE
    rw [hk]
    simp only [if_true]
    refine cs (fun h => ?_) (fun h => ?_)
    · rw [if_pos h]; exact (by repeat' (first | apply And.intro | exact trivial | exact rfl))
    · rw [if_neg h]; exact (by repeat' (first | apply And.intro | exact trivial | exact rfl))
def edesc_S (iL : Int → ByteArray) (inLo : Int → Int) (inHi : Int → Int) (inD : Int → Int) (inE : Int → Int) : Prop := ∀ (c : Int), fnK Tryd.prog { glob := glb, spec := lk [], specH := lk [], shape := [16], nowf := true } { nt := 30, drop := drp [(1, 1984), (2, 4096), (3, 122880), (4, 66977792), (5, 67108864), (6, 268435456), (7, 536870912)] } (fun _ _ => none) 6 Tryd.f81 [.int .i64 c] (.tup [.agg [.str (iL c), .int .i64 (inLo c), .int .i64 (inHi c), .int .i64 (inD c)], .int .i64 (inE c)])
set_option maxRecDepth 100000 in
theorem edesc_e (iL : Int → ByteArray) (inLo : Int → Int) (inHi : Int → Int) (inD : Int → Int) (inE : Int → Int) : edesc_T iL inLo inHi inD inE = edesc_S iL inLo inHi inD inE := by kernel_rfl
theorem edesc_v : edesc_S iL inLo inHi inD inE := @Eq.mp (edesc_T iL inLo inHi inD inE) (edesc_S iL inLo inHi inD inE) (edesc_e iL inLo inHi inD inE) edesc_P
theorem edesc_ok : SOK Tryd.prog glb 81 (edesc_s iL inLo inHi inD inE) := by
  refine ⟨fok Tryd.func81 (by kernel_rfl) (by kernel_rfl), ?_⟩
  intro xs pre r h hp
  unfold edesc_s at h
  split at h
  · simp only [Option.some.injEq, Prod.mk.injEq] at h
    obtain ⟨h1, h2⟩ := h
    subst h1 h2
    exact fnK_sound tyNil (by exact specOK rfl rfl trivial trivial) (by kernel_rfl) Tryd.func81 rfl (edesc_v  _)
  · cases h
def ck (e v : Int) : Int := if okC e then (if v < inLo e ∨ inHi e < v then 1 else 0) else 4
def echeck_s (ck : Int → Int → Int) : Sp
  | [.agg [.int .i64 e, .int .i64 v]] => some (True, .int .i64 (ck e v))
  | _ => none
set_option maxRecDepth 100000 in
def echeck_T (ck : Int → Int → Int) (iL : Int → ByteArray) (inLo : Int → Int) (inHi : Int → Int) (inD : Int → Int) (inE : Int → Int) : Prop :=
  ∀ (e v : Int), ((-9223372036854775808 : Int) ≤ e ∧ e ≤ (9223372036854775807 : Int)) ∧ ((-9223372036854775808 : Int) ≤ v ∧ v ≤ (9223372036854775807 : Int)) ∧ True → True ∧ bif
  decide (inE e = (0 : Int)) then bif decide (v < inLo e) then (1 : Int) = ck e v else bif decide (inHi e < v) then (1 : Int) = ck e v else inE e = ck e v else inE e = ck e v
set_option maxRecDepth 100000 in
theorem echeck_P : echeck_T ck iL inLo inHi inD inE := by
  unfold echeck_T
  intro e v h
  refine ⟨trivial, ?_⟩
  unfold ck inE
  cases hk : okC e with
  | false => exact cd0 (by decide) rfl
  | true =>
    simp only [if_true]
    refine cd1 (by trivial) (cs (fun q => ?_) (fun q => cs (fun r => ?_) (fun r => ?_)))
    · rw [if_pos (.inl q)]
    · rw [if_pos (.inr r)]
    · rw [if_neg (by omega)]
def echeck_S (ck : Int → Int → Int) (iL : Int → ByteArray) (inLo : Int → Int) (inHi : Int → Int) (inD : Int → Int) (inE : Int → Int) : Prop := ∀ (e v : Int), fnK Tryd.prog { glob := glb, spec := lk [(81, (edesc_s iL inLo inHi inD inE))], specH := lk [], nowf := true } { nt := 28, drop := drp [(1, 2016), (2, 67106816), (4, 134217728)] } (fun _ _ => none) 6 Tryd.f69 [.agg [.int .i64 e, .int .i64 v]] (.int .i64 (ck e v))
set_option maxRecDepth 100000 in
theorem echeck_e (ck : Int → Int → Int) (iL : Int → ByteArray) (inLo : Int → Int) (inHi : Int → Int) (inD : Int → Int) (inE : Int → Int) : echeck_T ck iL inLo inHi inD inE = echeck_S ck iL inLo inHi inD inE := by kernel_rfl
theorem echeck_v : echeck_S ck iL inLo inHi inD inE := @Eq.mp (echeck_T ck iL inLo inHi inD inE) (echeck_S ck iL inLo inHi inD inE) (echeck_e ck iL inLo inHi inD inE) echeck_P
theorem echeck_ok : SOK Tryd.prog glb 69 (echeck_s ck) := by
  refine ⟨fok Tryd.func69 (by kernel_rfl) (by kernel_rfl), ?_⟩
  intro xs pre r h hp
  unfold echeck_s at h
  split at h
  · simp only [Option.some.injEq, Prod.mk.injEq] at h
    obtain ⟨h1, h2⟩ := h
    subst h1 h2
    exact fnK_sound tyNil (by exact specOK rfl rfl ⟨edesc_ok, trivial⟩ trivial) (by kernel_rfl) Tryd.func69 rfl (echeck_v  _ _)
  · cases h
/-! Searching in lists. -/
def idxP (p : List AV → Bool) (xs : List (List AV)) : Int := if xs.any p then (xs.findIdx p : Int) else -1
theorem idx_some {p : List AV → Bool} {xs : List (List AV)} {i : Nat} (hi : i < xs.length) (h : p (xs.getD i []) = true) (hn : ∀ j, j < i → p (xs.getD j []) = false) : (i : Int) = idxP p xs := by
  have e : ∀ j (hj : j < xs.length), xs.getD j [] = xs[j] := fun j hj => by rw [List.getD_eq_getElem?_getD, List.getElem?_eq_getElem hj]; rfl
  unfold idxP
  rw [if_pos (List.any_eq_true.2 ⟨xs[i], List.getElem_mem hi, by rw [← e i hi]; exact h⟩)]
  rw [(List.findIdx_eq hi).2 ⟨by rw [← e i hi]; exact h, fun j hj => by rw [← e j (by omega)]; exact hn j hj⟩]
theorem idx_none {p : List AV → Bool} {xs : List (List AV)} (hn : ∀ j, j < xs.length → p (xs.getD j []) = false) : -1 = idxP p xs := by
  unfold idxP
  rw [if_neg]
  intro h
  obtain ⟨x, hx, hp⟩ := List.any_eq_true.1 h
  obtain ⟨j, hj, rfl⟩ := List.mem_iff_getElem.1 hx
  have := hn j hj
  rw [List.getD_eq_getElem?_getD, List.getElem?_eq_getElem hj] at this
  rw [show (some xs[j]).getD [] = xs[j] from rfl, hp] at this
  cases this
theorem idx_ge {p : List AV → Bool} {xs : List (List AV)} : decide (0 ≤ idxP p xs) = xs.any p := by
  unfold idxP
  cases h : xs.any p with
  | true => rw [if_pos rfl]; exact decide_eq_true (by omega)
  | false => rw [if_neg (by simp)]; rfl
/-- Readings: rows of two numbers. -/
structure RdsP (xs : List (List AV)) : Prop where
  row : ∀ i, i < xs.length → ∃ e v : Int, xs.getD i [] = [.int .i64 e, .int .i64 v] ∧ rng .i64 e ∧ rng .i64 v
  sm : xs.length ≤ 9223372036854775807
def rE (r : List AV) : Int := cellI (r.take 1)
def rV (r : List AV) : Int := cellI (r.drop 1)
def ckP (bad : Int) (r : List AV) : Bool := decide (ck (rE r) (rV r) = bad)
def cdP (code : Int) (r : List AV) : Bool := decide (rE r = code)
def ckI (bad : Int) (xs : List (List AV)) : Int := idxP (ckP bad) xs
def ckA (bad : Int) (xs : List (List AV)) : Bool := xs.any (ckP bad)
def cdI' (code : Int) (xs : List (List AV)) : Int := idxP (cdP code) xs
def evc29_s (ck : Int → Int → Int) : SpH
  | [.agg [.int .i64 e, .int .i64 v], .ptr 0 0], [.cells [.int .i64 bad]] => some (True, .bool (decide (ck e v = bad)), [.cells [.int .i64 bad]])
  | _, _ => none
set_option maxRecDepth 100000 in
def evc29_T (ck : Int → Int → Int) : Prop :=
  ∀ (e v bad : Int), ((-9223372036854775808 : Int) ≤ e ∧ e ≤ (9223372036854775807 : Int)) ∧ ((-9223372036854775808 : Int) ≤ v ∧ v ≤ (9223372036854775807 : Int)) ∧ True → True →
  (-9223372036854775808 : Int) ≤ bad ∧ bad ≤ (9223372036854775807 : Int) → True ∧ decide (ck e v = bad) = decide (ck e v = bad) ∧ (bad = bad ∧ True) ∧ True
set_option maxRecDepth 100000 in
theorem evc29_P : evc29_T ck := by
  unfold evc29_T
  intro e v bad h _ hb
  exact ⟨trivial, rfl, ⟨rfl, trivial⟩, trivial⟩
def evc29_S (ck : Int → Int → Int) : Prop := ∀ (e v bad : Int), fnH Tryd.prog { glob := glb, spec := lk [(69, (echeck_s ck))], specH := lk [], nowf := true } { nt := 8, drop := drp [(1, 240)], fr := 1000, kp := [0] } (fun _ _ => none) 6 Tryd.f68 [.agg [.int .i64 e, .int .i64 v], .ptr 0 0] [.cells [.int .i64 bad]] (.bool (decide (ck e v = bad))) [.cells [.int .i64 bad]]
set_option maxRecDepth 100000 in
theorem evc29_e (ck : Int → Int → Int) : evc29_T ck = evc29_S ck := by kernel_rfl
theorem evc29_v : evc29_S ck := @Eq.mp (evc29_T ck) (evc29_S ck) (evc29_e ck) evc29_P
theorem evc29_ok : HOK Tryd.prog glb 68 (evc29_s ck) := by
  refine ⟨fok Tryd.func68 (by kernel_rfl) (by kernel_rfl), ?_⟩
  intro xs bs pre r bs2 h hp
  unfold evc29_s at h
  split at h
  · simp only [Option.some.injEq, Prod.mk.injEq] at h
    obtain ⟨h1, h2, h3⟩ := h
    subst h1 h2 h3
    exact fnH_sound tyNil (by exact specOK rfl rfl ⟨echeck_ok, trivial⟩ trivial) (by kernel_rfl) Tryd.func68 (evc29_v  _ _ _)
  · cases h
structure IdxI (p : List AV → Bool) (xs : List (List AV)) (i : Int) : Prop where
  lo : 0 ≤ i
  hi : i ≤ xs.length
  no : ∀ j : Nat, (j : Int) < i → p (xs.getD j []) = false
def ixI (k : Nat) (p : List AV → Bool) (f : Bool) (bad : Int) (xs : List (List AV)) : LInv := ⟨Int, fun i => ⟨[(0, .sl 2 f xs), (1, .fn k [.ptr 0 0]), (7, .int .i64 xs.length), (8, .int .i64 i)], [(0, .cells [.int .i64 bad])]⟩, IdxI p xs, fun i => (xs.length - i).toNat, none⟩
def eix_s (ck : Int → Int → Int) (ckI : Int → List (List AV) → Int) : SpH
  | [.sl 2 f xs, .fn 68 [.ptr 0 0]], [.cells [.int .i64 bad]] => some (RdsP xs, .int .i64 (ckI bad xs), [.cells [.int .i64 bad]])
  | _, _ => none
set_option maxRecDepth 100000 in
def eix_T (ck : Int → Int → Int) (ckI : Int → List (List AV) → Int) : Prop :=
  ∀ (f : Bool) (xs : List (List AV)) (bad : Int), RdsP xs → True → True → (-9223372036854775808 : Int) ≤ bad ∧ bad ≤ (9223372036854775807 : Int) → (∃ x, IdxI (ckP bad) xs x ∧ (((bif
  f then f = true else True) ∧ xs = xs) ∧ ((0 : Nat) = (0 : Nat) ∧ True) ∧ (↑xs.length : Int) = (↑xs.length : Int) ∧ (0 : Int) = x ∧ True) ∧ (bad = bad ∧ True) ∧ True) ∧ ∀ (x : Int),
  IdxI (ckP bad) xs x → bif decide (x < (↑xs.length : Int)) then bif decide ((0 : Int) ≤ x ∧ x < (↑xs.length : Int)) then ∃ n n_1, List.take [AV.int IntKind.i64 n, AV.int IntKind.i64
  n_1].length (xs.getD x.toNat []) = [AV.int IntKind.i64 n, AV.int IntKind.i64 n_1] ∧ True ∧ bif decide (ck n n_1 = bad) then x = ckI bad xs ∧ (bad = bad ∧ True) ∧ True else bif
  decide (rng IntKind.i64 (x + (1 : Int))) then ∃ y, IdxI (ckP bad) xs y ∧ (ixI (68 : Nat) (ckP bad) f bad xs).m y < (ixI (68 : Nat) (ckP bad) f bad xs).m x ∧ (((bif f then f = true
  else True) ∧ xs = xs) ∧ ((0 : Nat) = (0 : Nat) ∧ True) ∧ (↑xs.length : Int) = (↑xs.length : Int) ∧ x + (1 : Int) = y ∧ True) ∧ (bad = bad ∧ True) ∧ True else False else False else
  (-1 : Int) = ckI bad xs ∧ (bad = bad ∧ True) ∧ True
set_option maxRecDepth 100000 in
theorem eix_P : eix_T ck ckI := by
  unfold eix_T
  intro f xs bad ⟨hr, hs⟩ _ _ hb
  have bf : cond f (f = true) True := by cases f <;> trivial
  refine ⟨⟨0, ⟨by decide, by omega, fun j h => by omega⟩, ⟨⟨bf, rfl⟩, ⟨rfl, trivial⟩, rfl, rfl, trivial⟩, ⟨rfl, trivial⟩, trivial⟩, ?_⟩
  rintro i ⟨h0, h1, hn⟩
  have ei : ((i.toNat : Nat) : Int) = i := by omega
  refine cs (fun hl => ?_) (fun hl => ?_)
  · obtain ⟨e, v, he, _, _⟩ := hr i.toNat (by omega)
    refine cd1 ⟨h0, hl⟩ ⟨e, v, by rw [he]; rfl, trivial, cs (fun q => ?_) (fun q => ?_)⟩
    · have := idx_some (p := ckP bad) (xs := xs) (i := i.toNat) (by omega) (by rw [he]; exact decide_eq_true q) (fun j hj => hn j (by omega))
      exact ⟨ei.symm.trans this, ⟨rfl, trivial⟩, trivial⟩
    · refine cdI (by omega) ⟨i + 1, ⟨by omega, by omega, fun j hj => ?_⟩, by simp only [ixI]; omega, ⟨⟨bf, rfl⟩, ⟨rfl, trivial⟩, rfl, rfl, trivial⟩, ⟨rfl, trivial⟩, trivial⟩
      rcases Nat.lt_or_ge j i.toNat with k | k
      · exact hn j (by omega)
      · rw [show j = i.toNat by omega, he]; exact decide_eq_false q
  · exact ⟨idx_none fun j hj => hn j (by omega), ⟨rfl, trivial⟩, trivial⟩
def eix_S (ck : Int → Int → Int) (ckI : Int → List (List AV) → Int) : Prop := ∀ (f : Bool) (xs : List (List AV)) (bad : Int), RdsP xs → fnH Tryd.prog { glob := glb, spec := lk [], specH := lk [(68, (evc29_s ck))], shape := [15], nowf := true } { nt := 19, drop := drp [(1, 64), (3, 1024), (4, 63488), (5, 131072), (6, 262144)], fr := 1000, kp := [0] } (invs [(2, ixI 68 (ckP bad) f bad xs)]) 6 Tryd.f57 [.sl 2 f xs, .fn 68 [.ptr 0 0]] [.cells [.int .i64 bad]] (.int .i64 (ckI bad xs)) [.cells [.int .i64 bad]]
set_option maxRecDepth 100000 in
theorem eix_e (ck : Int → Int → Int) (ckI : Int → List (List AV) → Int) : eix_T ck ckI = eix_S ck ckI := by kernel_rfl
theorem eix_v : eix_S ck ckI := @Eq.mp (eix_T ck ckI) (eix_S ck ckI) (eix_e ck ckI) eix_P
theorem eix_ok : HOK Tryd.prog glb 57 (eix_s ck ckI) := by
  refine ⟨fok Tryd.func57 (by kernel_rfl) (by kernel_rfl), ?_⟩
  intro xs bs pre r bs2 h hp
  unfold eix_s at h
  split at h
  · simp only [Option.some.injEq, Prod.mk.injEq] at h
    obtain ⟨h1, h2, h3⟩ := h
    subst h1 h2 h3
    exact fnH_sound tyNil (by exact specOK rfl rfl trivial ⟨evc29_ok, trivial⟩) (by kernel_rfl) Tryd.func57 (eix_v  _ _ _ hp)
  · cases h
def ecf_s (ckA : Int → List (List AV) → Bool) : SpH
  | [.sl 2 f xs, .fn 68 [.ptr 0 0]], [.cells [.int .i64 bad]] => some (RdsP xs, .bool (ckA bad xs), [.cells [.int .i64 bad]])
  | _, _ => none
set_option maxRecDepth 100000 in
def ecf_T (ckA : Int → List (List AV) → Bool) (ck : Int → Int → Int) (ckI : Int → List (List AV) → Int) : Prop :=
  ∀ (f : Bool) (xs : List (List AV)) (bad : Int), RdsP xs → True → True → (-9223372036854775808 : Int) ≤ bad ∧ bad ≤ (9223372036854775807 : Int) → RdsP xs ∧ decide ((0 : Int) ≤ ckI
  bad xs) = ckA bad xs ∧ (bad = bad ∧ True) ∧ True
set_option maxRecDepth 100000 in
theorem ecf_P : ecf_T ckA ck ckI := by
  unfold ecf_T
  intro f xs bad h _ _ hb
  exact ⟨h, idx_ge, ⟨rfl, trivial⟩, trivial⟩
def ecf_S (ckA : Int → List (List AV) → Bool) (ck : Int → Int → Int) (ckI : Int → List (List AV) → Int) : Prop := ∀ (f : Bool) (xs : List (List AV)) (bad : Int), RdsP xs → fnH Tryd.prog { glob := glb, spec := lk [], specH := lk [(57, (eix_s ck ckI))], nowf := true } { nt := 9, drop := drp [(1, 480)], fr := 1000, kp := [0] } (fun _ _ => none) 6 Tryd.f67 [.sl 2 f xs, .fn 68 [.ptr 0 0]] [.cells [.int .i64 bad]] (.bool (ckA bad xs)) [.cells [.int .i64 bad]]
set_option maxRecDepth 100000 in
theorem ecf_e (ckA : Int → List (List AV) → Bool) (ck : Int → Int → Int) (ckI : Int → List (List AV) → Int) : ecf_T ckA ck ckI = ecf_S ckA ck ckI := by kernel_rfl
theorem ecf_v : ecf_S ckA ck ckI := @Eq.mp (ecf_T ckA ck ckI) (ecf_S ckA ck ckI) (ecf_e ckA ck ckI) ecf_P
theorem ecf_ok : HOK Tryd.prog glb 67 (ecf_s ckA) := by
  refine ⟨fok Tryd.func67 (by kernel_rfl) (by kernel_rfl), ?_⟩
  intro xs bs pre r bs2 h hp
  unfold ecf_s at h
  split at h
  · simp only [Option.some.injEq, Prod.mk.injEq] at h
    obtain ⟨h1, h2, h3⟩ := h
    subst h1 h2 h3
    exact fnH_sound tyNil (by exact specOK rfl rfl trivial ⟨eix_ok, trivial⟩) (by kernel_rfl) Tryd.func67 (ecf_v  _ _ _ hp)
  · cases h
def evc27_s : SpH
  | [.int .i64 bad, .ptr 0 0], [.cells [.sl 2 f xs]] => some (RdsP xs, .bool (ckA bad xs), [.cells [.sl 2 f xs]])
  | _, _ => none
set_option maxRecDepth 100000 in
def evc27_T (ckA : Int → List (List AV) → Bool) : Prop :=
  ∀ (f : Bool) (xs : List (List AV)) (bad : Int), RdsP xs → (-9223372036854775808 : Int) ≤ bad ∧ bad ≤ (9223372036854775807 : Int) → True → True → RdsP xs ∧ ckA bad xs = ckA bad xs ∧
  (((bif f then f = true else True) ∧ xs = xs) ∧ True) ∧ True
set_option maxRecDepth 100000 in
theorem evc27_P : evc27_T ckA := by
  unfold evc27_T
  intro f xs bad h _ _ _
  have bf : cond f (f = true) True := by cases f <;> trivial
  exact ⟨h, rfl, ⟨⟨bf, rfl⟩, trivial⟩, trivial⟩
def evc27_S (ckA : Int → List (List AV) → Bool) : Prop := ∀ (f : Bool) (xs : List (List AV)) (bad : Int), RdsP xs → fnH Tryd.prog { glob := glb, spec := lk [], specH := lk [(67, (ecf_s ckA))], nowf := true } { nt := 7, drop := drp [(1, 112)], fr := 1000, kp := [0] } (fun _ _ => none) 6 Tryd.f66 [.int .i64 bad, .ptr 0 0] [.cells [.sl 2 f xs]] (.bool (ckA bad xs)) [.cells [.sl 2 f xs]]
set_option maxRecDepth 100000 in
theorem evc27_e (ckA : Int → List (List AV) → Bool) : evc27_T ckA = evc27_S ckA := by kernel_rfl
theorem evc27_v : evc27_S ckA := @Eq.mp (evc27_T ckA) (evc27_S ckA) (evc27_e ckA) evc27_P
theorem evc27_ok : HOK Tryd.prog glb 66 evc27_s := by
  refine ⟨fok Tryd.func66 (by kernel_rfl) (by kernel_rfl), ?_⟩
  intro xs bs pre r bs2 h hp
  unfold evc27_s at h
  split at h
  · simp only [Option.some.injEq, Prod.mk.injEq] at h
    obtain ⟨h1, h2, h3⟩ := h
    subst h1 h2 h3
    exact fnH_sound tyNil (by exact specOK rfl rfl trivial ⟨ecf_ok, trivial⟩) (by kernel_rfl) Tryd.func66 (evc27_v  _ _ _ hp)
  · cases h
def ascB (xs : List (List AV)) : Bool := decide (∀ j, j < xs.length → j = 0 ∨ rE (xs.getD (j - 1) []) < rE (xs.getD j []))
def vdE (xs : List (List AV)) : Int := if ckA 4 xs then 4 else if ckA 1 xs then 1 else if ascB xs then 0 else 8
structure AscI (xs : List (List AV)) (i : Int) : Prop where
  lo : 1 ≤ i
  hi : i ≤ xs.length ∨ i = 1
  asc : ∀ j : Nat, (j : Int) < i → j < xs.length → j = 0 ∨ rE (xs.getD (j - 1) []) < rE (xs.getD j [])
def ascL (f : Bool) (xs : List (List AV)) : LInv := ⟨Int, fun i => ⟨[(1, .ptr 1 0), (4, .int .i64 i)], [(1, .cells [.sl 2 f xs])]⟩, AscI xs, fun i => (xs.length + 1 - i).toNat, none⟩
def evalid_s (vdE : List (List AV) → Int) : Sp
  | [.sl 2 f xs] => some (RdsP xs, .int .i64 (vdE xs))
  | _ => none
set_option maxRecDepth 100000 in
def evalid_T (vdE : List (List AV) → Int) : Prop :=
  ∀ (f : Bool) (xs : List (List AV)), RdsP xs → True → RdsP xs ∧ bif ckA (4 : Int) xs then (4 : Int) = vdE xs else RdsP xs ∧ bif ckA (1 : Int) xs then (1 : Int) = vdE xs else (∃ x,
  AscI xs x ∧ ((0 : Nat) = (0 : Nat) ∧ (1 : Int) = x ∧ True) ∧ (((bif f then f = true else True) ∧ xs = xs) ∧ True) ∧ True) ∧ ∀ (x : Int), AscI xs x → bif decide (x < (↑xs.length :
  Int)) then bif decide (rng IntKind.i64 (x - (1 : Int))) then bif decide ((0 : Int) ≤ x - (1 : Int) ∧ x - (1 : Int) < (↑xs.length : Int)) then ∃ n, List.take [AV.int IntKind.i64
  n].length (List.drop (0 : Nat) (xs.getD (x - (1 : Int)).toNat [])) = [AV.int IntKind.i64 n] ∧ bif decide ((0 : Int) ≤ x ∧ x < (↑xs.length : Int)) then ∃ n_1, List.take [AV.int
  IntKind.i64 n_1].length (List.drop (0 : Nat) (xs.getD x.toNat [])) = [AV.int IntKind.i64 n_1] ∧ bif decide (n_1 ≤ n) then (8 : Int) = vdE xs else bif decide (rng IntKind.i64 (x +
  (1 : Int))) then ∃ y, AscI xs y ∧ (ascL f xs).m y < (ascL f xs).m x ∧ ((0 : Nat) = (0 : Nat) ∧ x + (1 : Int) = y ∧ True) ∧ (((bif f then f = true else True) ∧ xs = xs) ∧ True) ∧
  True else False else False else False else False else (0 : Int) = vdE xs
set_option maxRecDepth 100000 in
theorem evalid_P : evalid_T vdE := by
  unfold evalid_T
  intro f xs ⟨hr, hs⟩ _
  have bf : cond f (f = true) True := by cases f <;> trivial
  refine ⟨⟨hr, hs⟩, csplit (fun h4 => ?_) (fun h4 => ⟨⟨hr, hs⟩, csplit (fun h1 => ?_) (fun h1 => ?_)⟩)⟩
  · unfold vdE; rw [h4]; rfl
  · unfold vdE; rw [h4, h1]; rfl
  have hv : vdE xs = if ascB xs then 0 else 8 := by unfold vdE; rw [h4, h1]; rfl
  rw [hv]
  refine ⟨⟨1, ⟨by decide, .inr rfl, fun j hj _ => .inl (by omega)⟩, ⟨rfl, rfl, trivial⟩, ⟨⟨bf, rfl⟩, trivial⟩, trivial⟩, ?_⟩
  rintro i ⟨h0, h2, hn⟩
  refine cs (fun hl => ?_) (fun hl => ?_)
  · obtain ⟨e, v, he, _, _⟩ := hr (i - 1).toNat (by omega)
    obtain ⟨e', v', he', _, _⟩ := hr i.toNat (by omega)
    have hi : i.toNat - 1 = (i - 1).toNat := by omega
    have q1 : rE (xs.getD (i.toNat - 1) []) = e := by rw [hi, he]; rfl
    have q2 : rE (xs.getD i.toNat []) = e' := by rw [he']; rfl
    refine cdI (by omega) (cd1 (by omega) ⟨e, by rw [he]; rfl, cd1 (by omega) ⟨e', by rw [he']; rfl, cs (fun q => ?_) (fun q => ?_)⟩⟩)
    · have : ascB xs = false := by
        refine decide_eq_false fun h => ?_
        rcases h i.toNat (by omega) with k | k
        · omega
        · rw [q1, q2] at k; omega
      rw [this]; rfl
    · refine cdI (by omega) ⟨i + 1, ⟨by omega, .inl (by omega), fun j hj hlj => ?_⟩, by simp only [ascL]; omega, ⟨rfl, rfl, trivial⟩, ⟨⟨bf, rfl⟩, trivial⟩, trivial⟩
      rcases Nat.lt_or_ge j i.toNat with k | k
      · exact hn j (by omega) hlj
      · rw [show j = i.toNat by omega, q1, q2]; exact .inr (by omega)
  · have : ascB xs = true := decide_eq_true fun j hj => hn j (by omega) hj
    rw [this]; rfl
def evalid_S (vdE : List (List AV) → Int) : Prop := ∀ (f : Bool) (xs : List (List AV)), RdsP xs → fnK Tryd.prog { glob := glb, spec := lk [], specH := lk [(66, evc27_s)], shape := [23, 28], nowf := true } { nt := 30, drop := drp [(1, 32), (2, 384), (4, 3072), (7, 28672), (8, 196608), (9, 536608768)] } (invs [(7, ascL f xs)]) 6 Tryd.f51 [.sl 2 f xs] (.int .i64 (vdE xs))
set_option maxRecDepth 100000 in
theorem evalid_e (vdE : List (List AV) → Int) : evalid_T vdE = evalid_S vdE := by kernel_rfl
theorem evalid_v : evalid_S vdE := @Eq.mp (evalid_T vdE) (evalid_S vdE) (evalid_e vdE) evalid_P
theorem evalid_ok : SOK Tryd.prog glb 51 (evalid_s vdE) := by
  refine ⟨fok Tryd.func51 (by kernel_rfl) (by kernel_rfl), ?_⟩
  intro xs pre r h hp
  unfold evalid_s at h
  split at h
  · simp only [Option.some.injEq, Prod.mk.injEq] at h
    obtain ⟨h1, h2⟩ := h
    subst h1 h2
    exact fnK_sound tyNil (by exact specOK rfl rfl trivial ⟨evc27_ok, trivial⟩) (by kernel_rfl) Tryd.func51 rfl (evalid_v  _ _ hp)
  · cases h
def efc_s : SpH
  | [.agg [.int .i64 e, .int .i64 v], .ptr 0 0], [.cells [.int .i64 code]] => some (True, .bool (decide (e = code)), [.cells [.int .i64 code]])
  | _, _ => none
set_option maxRecDepth 100000 in
def efc_T : Prop :=
  ∀ (gl : Glob) (e v code : Int), ((-9223372036854775808 : Int) ≤ e ∧ e ≤ (9223372036854775807 : Int)) ∧ ((-9223372036854775808 : Int) ≤ v ∧ v ≤ (9223372036854775807 : Int)) ∧ True →
  True → (-9223372036854775808 : Int) ≤ code ∧ code ≤ (9223372036854775807 : Int) → decide (e = code) = decide (e = code) ∧ (code = code ∧ True) ∧ True
set_option maxRecDepth 100000 in
theorem efc_P : efc_T := by
  unfold efc_T
  intro gl e v code h _ hb
  exact ⟨rfl, ⟨rfl, trivial⟩, trivial⟩
def efc_S : Prop := ∀ (gl : Glob) (e v code : Int), fnH Tryd.prog { glob := gl, spec := lk [], specH := lk [], nowf := true } { nt := 8, drop := drp [(1, 240)], fr := 1000, kp := [0] } (fun _ _ => none) 6 Tryd.f58 [.agg [.int .i64 e, .int .i64 v], .ptr 0 0] [.cells [.int .i64 code]] (.bool (decide (e = code))) [.cells [.int .i64 code]]
set_option maxRecDepth 100000 in
theorem efc_e : efc_T = efc_S := by kernel_rfl
theorem efc_v : efc_S := @Eq.mp (efc_T) (efc_S) (efc_e) efc_P
theorem efc_ok (gl : Glob) : HOK Tryd.prog gl 58 efc_s := by
  refine ⟨fok Tryd.func58 (by kernel_rfl) (by kernel_rfl), ?_⟩
  intro xs bs pre r bs2 h hp
  unfold efc_s at h
  split at h
  · simp only [Option.some.injEq, Prod.mk.injEq] at h
    obtain ⟨h1, h2, h3⟩ := h
    subst h1 h2 h3
    exact fnH_sound tyNil (by exact specOK rfl rfl trivial trivial) (by kernel_rfl) Tryd.func58 (efc_v gl _ _ _)
  · cases h
def eixF_s (cdI' : Int → List (List AV) → Int) : SpH
  | [.sl 2 f xs, .fn 58 [.ptr 0 0]], [.cells [.int .i64 code]] => some (RdsP xs, .int .i64 (cdI' code xs), [.cells [.int .i64 code]])
  | _, _ => none
set_option maxRecDepth 100000 in
def eixF_T (cdI' : Int → List (List AV) → Int) : Prop :=
  ∀ (gl : Glob) (f : Bool) (xs : List (List AV)) (code : Int), RdsP xs → True → True → (-9223372036854775808 : Int) ≤ code ∧ code ≤ (9223372036854775807 : Int) → (∃ x, IdxI (cdP
  code) xs x ∧ (((bif f then f = true else True) ∧ xs = xs) ∧ ((0 : Nat) = (0 : Nat) ∧ True) ∧ (↑xs.length : Int) = (↑xs.length : Int) ∧ (0 : Int) = x ∧ True) ∧ (code = code ∧ True)
  ∧ True) ∧ ∀ (x : Int), IdxI (cdP code) xs x → bif decide (x < (↑xs.length : Int)) then bif decide ((0 : Int) ≤ x ∧ x < (↑xs.length : Int)) then ∃ n n_1, List.take [AV.int
  IntKind.i64 n, AV.int IntKind.i64 n_1].length (xs.getD x.toNat []) = [AV.int IntKind.i64 n, AV.int IntKind.i64 n_1] ∧ True ∧ bif decide (n = code) then x = cdI' code xs ∧ (code =
  code ∧ True) ∧ True else bif decide (rng IntKind.i64 (x + (1 : Int))) then ∃ y, IdxI (cdP code) xs y ∧ (ixI (58 : Nat) (cdP code) f code xs).m y < (ixI (58 : Nat) (cdP code) f code
  xs).m x ∧ (((bif f then f = true else True) ∧ xs = xs) ∧ ((0 : Nat) = (0 : Nat) ∧ True) ∧ (↑xs.length : Int) = (↑xs.length : Int) ∧ x + (1 : Int) = y ∧ True) ∧ (code = code ∧ True)
  ∧ True else False else False else (-1 : Int) = cdI' code xs ∧ (code = code ∧ True) ∧ True
set_option maxRecDepth 100000 in
theorem eixF_P : eixF_T cdI' := by
  unfold eixF_T
  intro gl f xs bad ⟨hr, hs⟩ _ _ hb
  have bf : cond f (f = true) True := by cases f <;> trivial
  refine ⟨⟨0, ⟨by decide, by omega, fun j h => by omega⟩, ⟨⟨bf, rfl⟩, ⟨rfl, trivial⟩, rfl, rfl, trivial⟩, ⟨rfl, trivial⟩, trivial⟩, ?_⟩
  rintro i ⟨h0, h1, hn⟩
  have ei : ((i.toNat : Nat) : Int) = i := by omega
  refine cs (fun hl => ?_) (fun hl => ?_)
  · obtain ⟨e, v, he, _, _⟩ := hr i.toNat (by omega)
    refine cd1 ⟨h0, hl⟩ ⟨e, v, by rw [he]; rfl, trivial, cs (fun q => ?_) (fun q => ?_)⟩
    · have := idx_some (p := cdP bad) (xs := xs) (i := i.toNat) (by omega) (by rw [he]; exact decide_eq_true q) (fun j hj => hn j (by omega))
      exact ⟨ei.symm.trans this, ⟨rfl, trivial⟩, trivial⟩
    · refine cdI (by omega) ⟨i + 1, ⟨by omega, by omega, fun j hj => ?_⟩, by simp only [ixI]; omega, ⟨⟨bf, rfl⟩, ⟨rfl, trivial⟩, rfl, rfl, trivial⟩, ⟨rfl, trivial⟩, trivial⟩
      rcases Nat.lt_or_ge j i.toNat with k | k
      · exact hn j (by omega)
      · rw [show j = i.toNat by omega, he]; exact decide_eq_false q
  · exact ⟨idx_none fun j hj => hn j (by omega), ⟨rfl, trivial⟩, trivial⟩
def eixF_S (cdI' : Int → List (List AV) → Int) : Prop := ∀ (gl : Glob) (f : Bool) (xs : List (List AV)) (code : Int), RdsP xs → fnH Tryd.prog { glob := gl, spec := lk [], specH := lk [(58, efc_s)], shape := [15], nowf := true } { nt := 19, drop := drp [(1, 64), (3, 1024), (4, 63488), (5, 131072), (6, 262144)], fr := 1000, kp := [0] } (invs [(2, ixI 58 (cdP code) f code xs)]) 6 Tryd.f57 [.sl 2 f xs, .fn 58 [.ptr 0 0]] [.cells [.int .i64 code]] (.int .i64 (cdI' code xs)) [.cells [.int .i64 code]]
set_option maxRecDepth 100000 in
theorem eixF_e (cdI' : Int → List (List AV) → Int) : eixF_T cdI' = eixF_S cdI' := by kernel_rfl
theorem eixF_v : eixF_S cdI' := @Eq.mp (eixF_T cdI') (eixF_S cdI') (eixF_e cdI') eixF_P
theorem eixF_ok (gl : Glob) : HOK Tryd.prog gl 57 (eixF_s cdI') := by
  refine ⟨fok Tryd.func57 (by kernel_rfl) (by kernel_rfl), ?_⟩
  intro xs bs pre r bs2 h hp
  unfold eixF_s at h
  split at h
  · simp only [Option.some.injEq, Prod.mk.injEq] at h
    obtain ⟨h1, h2, h3⟩ := h
    subst h1 h2 h3
    exact fnH_sound tyNil (by exact specOK rfl rfl trivial ⟨efc_ok gl, trivial⟩) (by kernel_rfl) Tryd.func57 (eixF_v gl _ _ _ hp)
  · cases h
def fdB (xs : List (List AV)) (code : Int) : Bool := decide (0 ≤ cdI' code xs)
def fdV (xs : List (List AV)) (code : Int) : Int := if fdB xs code then rV (xs.getD (cdI' code xs).toNat []) else 0
def efind_s (fdV : List (List AV) → Int → Int) (fdB : List (List AV) → Int → Bool) : Sp
  | [.sl 2 f xs, .int .i64 code] => some (RdsP xs, .tup [.int .i64 (fdV xs code), .bool (fdB xs code)])
  | _ => none
set_option maxRecDepth 100000 in
def efind_T (fdV : List (List AV) → Int → Int) (fdB : List (List AV) → Int → Bool) (cdI' : Int → List (List AV) → Int) : Prop :=
  ∀ (gl : Glob) (f : Bool) (xs : List (List AV)) (code : Int), RdsP xs → True → (-9223372036854775808 : Int) ≤ code ∧ code ≤ (9223372036854775807 : Int) → RdsP xs ∧ bif decide (cdI'
  code xs < (0 : Int)) then (0 : Int) = fdV xs code ∧ false = fdB xs code ∧ True else bif decide ((0 : Int) ≤ cdI' code xs ∧ cdI' code xs < (↑xs.length : Int)) then ∃ n, List.take
  [AV.int IntKind.i64 n].length (List.drop (1 : Nat) (xs.getD (cdI' code xs).toNat [])) = [AV.int IntKind.i64 n] ∧ n = fdV xs code ∧ true = fdB xs code ∧ True else False
set_option maxRecDepth 100000 in
theorem efind_P : efind_T fdV fdB cdI' := by
  unfold efind_T
  intro gl f xs code ⟨hr, hs⟩ _ _
  refine ⟨⟨hr, hs⟩, cs (fun q => ?_) (fun q => ?_)⟩
  · have : fdB xs code = false := decide_eq_false (by omega)
    unfold fdV; rw [this]; exact ⟨rfl, rfl, trivial⟩
  · have hb : fdB xs code = true := decide_eq_true (by omega)
    have hl : cdI' code xs < (xs.length : Int) := by
      unfold cdI' idxP
      split
      · next h => have := List.findIdx_lt_length_of_exists (p := cdP code) (xs := xs) (by simpa [List.any_eq_true] using h); omega
      · omega
    obtain ⟨e, v, he, _, _⟩ := hr (cdI' code xs).toNat (by omega)
    refine cd1 ⟨by omega, hl⟩ ⟨v, by rw [he]; rfl, ?_, hb.symm, trivial⟩
    unfold fdV; rw [if_pos hb, he]; rfl
def efind_S (fdV : List (List AV) → Int → Int) (fdB : List (List AV) → Int → Bool) (cdI' : Int → List (List AV) → Int) : Prop := ∀ (gl : Glob) (f : Bool) (xs : List (List AV)) (code : Int), RdsP xs → fnK Tryd.prog { glob := gl, spec := lk [], specH := lk [(57, (eixF_s cdI'))], shape := [16], nowf := true } { nt := 17, drop := drp [(1, 896), (2, 1024), (4, 126976)] } (fun _ _ => none) 6 Tryd.f43 [.sl 2 f xs, .int .i64 code] (.tup [.int .i64 (fdV xs code), .bool (fdB xs code)])
set_option maxRecDepth 100000 in
theorem efind_e (fdV : List (List AV) → Int → Int) (fdB : List (List AV) → Int → Bool) (cdI' : Int → List (List AV) → Int) : efind_T fdV fdB cdI' = efind_S fdV fdB cdI' := by kernel_rfl
theorem efind_v : efind_S fdV fdB cdI' := @Eq.mp (efind_T fdV fdB cdI') (efind_S fdV fdB cdI') (efind_e fdV fdB cdI') efind_P
theorem efind_ok (gl : Glob) : SOK Tryd.prog gl 43 (efind_s fdV fdB) := by
  refine ⟨fok Tryd.func43 (by kernel_rfl) (by kernel_rfl), ?_⟩
  intro xs pre r h hp
  unfold efind_s at h
  split at h
  · simp only [Option.some.injEq, Prod.mk.injEq] at h
    obtain ⟨h1, h2⟩ := h
    subst h1 h2
    exact fnK_sound tyNil (by exact specOK rfl rfl trivial ⟨eixF_ok gl, trivial⟩) (by kernel_rfl) Tryd.func43 rfl (efind_v gl _ _ _ hp)
  · cases h
end Go.Proofs.YtceknalhogbbnaaDoor
