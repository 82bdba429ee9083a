/- Places: the law of texts. -/
import Derived.Test.YtddmmjkhkoencaaDoorPlN
import Derived.Test.YtddmmjkhkoencaaDoorPlP
namespace Go.Proofs.YtddmmjkhkoencaaDoor
open Go
set_option linter.unusedVariables false
set_option linter.unusedSimpArgs false

theorem fmt_prs {f a b c : Int} (v : Vld f a b c) : (fmt f a b c).size = 8 ∧ prE (fmt f a b c) = 0 ∧ f = prF (fmt f a b c) ∧ a = prA (fmt f a b c) ∧ b = prB (fmt f a b c) ∧ c = prC (fmt f a b c) := by
  have v' := v
  obtain ⟨hf, ha, hb, hc, hs⟩ := v
  unfold fmt
  rw [vld_t v', if_pos rfl]
  unfold fmtS
  rw [dgt0, dgt0, dgt0, dgt1, dgt1, dgt1, dgt2, dgt2]
  generalize hS : strOfNums _ = s
  have hz : s.size = 8 := by rw [← hS, strOf_size]; rfl
  have hB : ∀ k, byteI s k = _ := fun k => by rw [← hS, byteI_str (by intro b hb; simp only [List.mem_cons, List.not_mem_nil, or_false] at hb; omega) k]
  have b0 : byteI s 0 = 48 + f / 10 % 10 := hB 0
  have b1 : byteI s 1 = 48 + f % 10 := hB 1
  have b2 : byteI s 2 = 48 + a / 10 / 10 % 10 := hB 2
  have b3 : byteI s 3 = 48 + a / 10 % 10 := hB 3
  have b4 : byteI s 4 = 48 + a % 10 := hB 4
  have b5 : byteI s 5 = 48 + b / 10 / 10 % 10 := hB 5
  have b6 : byteI s 6 = 48 + b / 10 % 10 := hB 6
  have b7 : byteI s 7 = 48 + b % 10 := hB 7
  clear hB hS
  have eF : rF s = f := by
    refine (num2 (s := s) (a := 0) (by omega)).trans ?_
    simp only [Nat.reduceAdd]
    rw [num_dig (by omega), num_dig (by omega)]; omega
  have eA : rA s = a := by
    refine (num3 (s := s) (a := 2) (by omega)).trans ?_
    simp only [Nat.reduceAdd]
    rw [num_dig (by omega), num_dig (by omega), num_dig (by omega)]; omega
  have eB : rB s = b := by
    refine (num3 (s := s) (a := 5) (by omega)).trans ?_
    simp only [Nat.reduceAdd]
    rw [num_dig (by omega), num_dig (by omega), num_dig (by omega)]; omega
  have hd : allD s 8 = true := by
    simp only [allD]
    repeat rw [isD_t (by omega) (by omega)]
    rfl
  have hp : prs s = true := by
    unfold prs
    rw [decide_eq_true hz, hd, eF, eA, eB, vld_t ⟨hf, ha, hb, by omega, by omega⟩]; rfl
  unfold prE prF prA prB prC
  rw [hp, eF, eA, eB]
  exact ⟨hz, rfl, rfl, rfl, rfl, by show c = 840 - a - b; omega⟩
theorem modZ_in (x : Int) {n : Int} (hn : 1 ≤ n) : 0 ≤ modZ x n ∧ modZ x n < n := by
  unfold modZ; rw [if_neg (by omega)]; exact ⟨Int.emod_nonneg _ (by omega), Int.emod_lt_of_pos _ (by omega)⟩
theorem bl (l : List Int) : (brow l).length = l.length := by simp [brow]
theorem bset (l : List Int) (k : Nat) (v : Int) : (brow l).set k [.int .u8 v] = brow (l.set k v) := by simp [brow, List.map_set]
theorem brow_one (l : List Int) : ∀ y ∈ brow l, y.length = 1 := by
  intro y hy
  obtain ⟨n, _, rfl⟩ := List.mem_map.1 hy
  rfl
theorem setEl_one {ys : List (List AV)} {j : Nat} {a : AV} (h : j < ys.length) (h1 : ∀ y ∈ ys, y.length = 1) : setEl ys j 0 [a] = ys.set j [a] := by
  unfold setEl spl
  have := h1 ys[j] (List.getElem_mem h)
  rw [List.getD_eq_getElem?_getD, List.getElem?_eq_getElem h]
  congr 1
  simp only [Option.getD_some, List.take_zero, List.nil_append, List.length_singleton]
  rw [List.drop_eq_nil_of_le (by omega)]
  rfl
theorem e4 (p q r t : Int) {A : Prop} (a : A) : cond (!(decide (p = p) && (decide (q = q) && (decide (r = r) && (decide (t = t) && true))))) (false = true) A := by
  rw [decide_eq_true rfl, decide_eq_true rfl, decide_eq_true rfl, decide_eq_true rfl]; exact a
theorem e1 (x : Int) {A : Prop} (a : A) : cond (decide (¬ x = x)) (false = true) A := cs (fun q => absurd rfl q) (fun _ => a)
set_option maxRecDepth 100000 in
def lPTx_T (vld : Int → Int → Int → Int → Bool) (fmt : Int → Int → Int → Int → ByteArray) (prF : ByteArray → Int) (prA : ByteArray → Int) (prB : ByteArray → Int) (prC : ByteArray → Int) (prE : ByteArray → Int) : Prop :=
  ∀ (tx : ByteArray) (zs X : List (List AV)) (a b : Int) (F A B C J : Int → Int), (∀ (x : List AV), List.Mem x zs → ∃ n, x = [AV.int IntKind.i64 n] ∧ rng IntKind.i64 n) ∧ SwP zs X F
  A B C J → tx.size.le (9223372036854775807 : Nat) → True → (-9223372036854775808 : Int) ≤ a ∧ a ≤ (9223372036854775807 : Int) → (0 : Int) ≤ b ∧ b ≤ (255 : Int) → bif decide ((60 :
  Int) < (↑tx.size : Int)) then True ∧ true = true else List.take (2000 : Nat) zs = X ∧ (X = X ∧ (0 : Int) ≤ (0 : Int)) ∧ True ∧ True ∧ bif decide ¬err (vld (F (0 : Int)) (A (0 :
  Int)) (B (0 : Int)) (C (0 : Int))) = (0 : Int) then false = true else bif decide ¬prE (fmt (F (0 : Int)) (A (0 : Int)) (B (0 : Int)) (C (0 : Int))) = (0 : Int) then false = true
  else bif !(decide (F (0 : Int) = prF (fmt (F (0 : Int)) (A (0 : Int)) (B (0 : Int)) (C (0 : Int)))) && (decide (A (0 : Int) = prA (fmt (F (0 : Int)) (A (0 : Int)) (B (0 : Int)) (C
  (0 : Int)))) && (decide (B (0 : Int) = prB (fmt (F (0 : Int)) (A (0 : Int)) (B (0 : Int)) (C (0 : Int)))) && (decide (C (0 : Int) = prC (fmt (F (0 : Int)) (A (0 : Int)) (B (0 :
  Int)) (C (0 : Int)))) && true)))) then false = true else True ∧ bif decide ((0 : Int) ≤ modZ a (↑(fmt (F (0 : Int)) (A (0 : Int)) (B (0 : Int)) (C (0 : Int))).size : Int) ∧ modZ a
  (↑(fmt (F (0 : Int)) (A (0 : Int)) (B (0 : Int)) (C (0 : Int))).size : Int) < (↑(fmt (F (0 : Int)) (A (0 : Int)) (B (0 : Int)) (C (0 : Int))).size : Int)) then bif decide ((fmt (F
  (0 : Int)) (A (0 : Int)) (B (0 : Int)) (C (0 : Int))).size = (brow (strNums (fmt (F (0 : Int)) (A (0 : Int)) (B (0 : Int)) (C (0 : Int))))).length ∧ (modZ a (↑(fmt (F (0 : Int)) (A
  (0 : Int)) (B (0 : Int)) (C (0 : Int))).size : Int)).toNat < (brow (strNums (fmt (F (0 : Int)) (A (0 : Int)) (B (0 : Int)) (C (0 : Int))))).length) then ∃ n, List.take [AV.int
  IntKind.u8 n].length (List.drop (0 : Nat) ((brow (strNums (fmt (F (0 : Int)) (A (0 : Int)) (B (0 : Int)) (C (0 : Int))))).getD (modZ a (↑(fmt (F (0 : Int)) (A (0 : Int)) (B (0 :
  Int)) (C (0 : Int))).size : Int)).toNat [])) = [AV.int IntKind.u8 n] ∧ bif decide ((0 : Int) ≤ modZ a (↑(fmt (F (0 : Int)) (A (0 : Int)) (B (0 : Int)) (C (0 : Int))).size : Int) ∧
  modZ a (↑(fmt (F (0 : Int)) (A (0 : Int)) (B (0 : Int)) (C (0 : Int))).size : Int) < (↑(fmt (F (0 : Int)) (A (0 : Int)) (B (0 : Int)) (C (0 : Int))).size : Int)) then bif decide
  ((fmt (F (0 : Int)) (A (0 : Int)) (B (0 : Int)) (C (0 : Int))).size = (brow (strNums (fmt (F (0 : Int)) (A (0 : Int)) (B (0 : Int)) (C (0 : Int))))).length ∧ (modZ a (↑(fmt (F (0 :
  Int)) (A (0 : Int)) (B (0 : Int)) (C (0 : Int))).size : Int)).toNat < (brow (strNums (fmt (F (0 : Int)) (A (0 : Int)) (B (0 : Int)) (C (0 : Int))))).length) then bif decide ((fmt
  (F (0 : Int)) (A (0 : Int)) (B (0 : Int)) (C (0 : Int))).size = (setEl (brow (strNums (fmt (F (0 : Int)) (A (0 : Int)) (B (0 : Int)) (C (0 : Int))))) (modZ a (↑(fmt (F (0 : Int))
  (A (0 : Int)) (B (0 : Int)) (C (0 : Int))).size : Int)).toNat (0 : Nat) [AV.int IntKind.u8 (bits BinOp.xor IntKind.u8 n b)]).length) then ∃ ns, setEl (brow (strNums (fmt (F (0 :
  Int)) (A (0 : Int)) (B (0 : Int)) (C (0 : Int))))) (modZ a (↑(fmt (F (0 : Int)) (A (0 : Int)) (B (0 : Int)) (C (0 : Int))).size : Int)).toNat (0 : Nat) [AV.int IntKind.u8 (bits
  BinOp.xor IntKind.u8 n b)] = brow ns ∧ bif decide (ns.length ≤ (9223372036854775807 : Nat)) then bif decide ((fmt (F (0 : Int)) (A (0 : Int)) (B (0 : Int)) (C (0 : Int))).size + (1
  : Nat) ≤ (9223372036854775807 : Nat)) then bif decide ((0 : Int) ≤ (↑(fmt (F (0 : Int)) (A (0 : Int)) (B (0 : Int)) (C (0 : Int))).size : Int) ∧ (↑(fmt (F (0 : Int)) (A (0 : Int))
  (B (0 : Int)) (C (0 : Int))).size : Int) ≤ (↑(fmt (F (0 : Int)) (A (0 : Int)) (B (0 : Int)) (C (0 : Int))).size : Int)) then bif decide ((0 : Int) ≤ (1 : Int) ∧ (1 : Int) ≤ (↑(fmt
  (F (0 : Int)) (A (0 : Int)) (B (0 : Int)) (C (0 : Int))).size : Int)) then True ∧ True ∧ bif !(decide (prF tx = prF tx) && (decide (prA tx = prA tx) && (decide (prB tx = prB tx) &&
  (decide (prC tx = prC tx) && true)))) then false = true else bif decide ¬prE tx = prE tx then false = true else True ∧ True ∧ bif !(decide (prF (strOfNums ns) = prF (strOfNums ns))
  && (decide (prA (strOfNums ns) = prA (strOfNums ns)) && (decide (prB (strOfNums ns) = prB (strOfNums ns)) && (decide (prC (strOfNums ns) = prC (strOfNums ns)) && true)))) then
  false = true else bif decide ¬prE (strOfNums ns) = prE (strOfNums ns) then false = true else True ∧ True ∧ bif !(decide (prF (fmt (F (0 : Int)) (A (0 : Int)) (B (0 : Int)) (C (0 :
  Int)) ++ { data := #[(48 : UInt8)] }) = prF (fmt (F (0 : Int)) (A (0 : Int)) (B (0 : Int)) (C (0 : Int)) ++ { data := #[(48 : UInt8)] })) && (decide (prA (fmt (F (0 : Int)) (A (0 :
  Int)) (B (0 : Int)) (C (0 : Int)) ++ { data := #[(48 : UInt8)] }) = prA (fmt (F (0 : Int)) (A (0 : Int)) (B (0 : Int)) (C (0 : Int)) ++ { data := #[(48 : UInt8)] })) && (decide
  (prB (fmt (F (0 : Int)) (A (0 : Int)) (B (0 : Int)) (C (0 : Int)) ++ { data := #[(48 : UInt8)] }) = prB (fmt (F (0 : Int)) (A (0 : Int)) (B (0 : Int)) (C (0 : Int)) ++ { data :=
  #[(48 : UInt8)] })) && (decide (prC (fmt (F (0 : Int)) (A (0 : Int)) (B (0 : Int)) (C (0 : Int)) ++ { data := #[(48 : UInt8)] }) = prC (fmt (F (0 : Int)) (A (0 : Int)) (B (0 :
  Int)) (C (0 : Int)) ++ { data := #[(48 : UInt8)] })) && true)))) then false = true else bif decide ¬prE (fmt (F (0 : Int)) (A (0 : Int)) (B (0 : Int)) (C (0 : Int)) ++ { data :=
  #[(48 : UInt8)] }) = prE (fmt (F (0 : Int)) (A (0 : Int)) (B (0 : Int)) (C (0 : Int)) ++ { data := #[(48 : UInt8)] }) then false = true else True ∧ True ∧ bif !(decide (prF ((fmt
  (F (0 : Int)) (A (0 : Int)) (B (0 : Int)) (C (0 : Int))).extract (1 : Nat) (↑(fmt (F (0 : Int)) (A (0 : Int)) (B (0 : Int)) (C (0 : Int))).size : Int).toNat) = prF ((fmt (F (0 :
  Int)) (A (0 : Int)) (B (0 : Int)) (C (0 : Int))).extract (1 : Nat) (↑(fmt (F (0 : Int)) (A (0 : Int)) (B (0 : Int)) (C (0 : Int))).size : Int).toNat)) && (decide (prA ((fmt (F (0 :
  Int)) (A (0 : Int)) (B (0 : Int)) (C (0 : Int))).extract (1 : Nat) (↑(fmt (F (0 : Int)) (A (0 : Int)) (B (0 : Int)) (C (0 : Int))).size : Int).toNat) = prA ((fmt (F (0 : Int)) (A
  (0 : Int)) (B (0 : Int)) (C (0 : Int))).extract (1 : Nat) (↑(fmt (F (0 : Int)) (A (0 : Int)) (B (0 : Int)) (C (0 : Int))).size : Int).toNat)) && (decide (prB ((fmt (F (0 : Int)) (A
  (0 : Int)) (B (0 : Int)) (C (0 : Int))).extract (1 : Nat) (↑(fmt (F (0 : Int)) (A (0 : Int)) (B (0 : Int)) (C (0 : Int))).size : Int).toNat) = prB ((fmt (F (0 : Int)) (A (0 : Int))
  (B (0 : Int)) (C (0 : Int))).extract (1 : Nat) (↑(fmt (F (0 : Int)) (A (0 : Int)) (B (0 : Int)) (C (0 : Int))).size : Int).toNat)) && (decide (prC ((fmt (F (0 : Int)) (A (0 : Int))
  (B (0 : Int)) (C (0 : Int))).extract (1 : Nat) (↑(fmt (F (0 : Int)) (A (0 : Int)) (B (0 : Int)) (C (0 : Int))).size : Int).toNat) = prC ((fmt (F (0 : Int)) (A (0 : Int)) (B (0 :
  Int)) (C (0 : Int))).extract (1 : Nat) (↑(fmt (F (0 : Int)) (A (0 : Int)) (B (0 : Int)) (C (0 : Int))).size : Int).toNat)) && true)))) then false = true else bif decide ¬prE ((fmt
  (F (0 : Int)) (A (0 : Int)) (B (0 : Int)) (C (0 : Int))).extract (1 : Nat) (↑(fmt (F (0 : Int)) (A (0 : Int)) (B (0 : Int)) (C (0 : Int))).size : Int).toNat) = prE ((fmt (F (0 :
  Int)) (A (0 : Int)) (B (0 : Int)) (C (0 : Int))).extract (1 : Nat) (↑(fmt (F (0 : Int)) (A (0 : Int)) (B (0 : Int)) (C (0 : Int))).size : Int).toNat) then false = true else True ∧
  true = true else False else False else False else False else False else False else False else False else False
set_option maxRecDepth 100000 in
theorem lPTx_P : lPTx_T vld fmt prF prA prB prC prE := by
  unfold lPTx_T
  intro tx zs X a b F A B C J ⟨hz, hs⟩ _
  have v := hs.vld 0 (by decide)
  have hX := hs.X
  clear hs hz
  generalize F 0 = f at *
  generalize A 0 = a1 at *
  generalize B 0 = b1 at *
  generalize C 0 = c1 at *
  intro _ _ _
  refine cs (fun _ => ⟨trivial, rfl⟩) (fun _ => ⟨hX, ⟨rfl, by decide⟩, trivial, trivial, ?_⟩)
  have he : err (vld f a1 b1 c1) = 0 := by rw [vld_t v]; rfl
  obtain ⟨hz, h2, h3, h4, h5, h6⟩ := fmt_prs v
  rw [he, h2]
  have hl := strNums_len (fmt f a1 b1 c1)
  generalize fmt f a1 b1 c1 = s at *
  rw [← h3, ← h4, ← h5, ← h6]
  have hm := modZ_in a (n := (s.size : Int)) (by omega)
  refine cd0 (by decide) (cd0 (by decide) (e4 _ _ _ _ ⟨trivial, ?_⟩))
  generalize modZ a (s.size : Int) = j at *
  have hj : j.toNat < (strNums s).length := by omega
  have hb1 : (brow (strNums s)).getD j.toNat [] = [.int .u8 ((strNums s).getD j.toNat 0)] := by
    rw [List.getD_eq_getElem?_getD, List.getD_eq_getElem?_getD]
    simp [brow, List.getElem?_eq_getElem hj]
  refine cd1 hm (cd1 ⟨by rw [bl, hl], by rw [bl]; exact hj⟩ ⟨(strNums s).getD j.toNat 0, by rw [List.drop_zero, hb1]; rfl, cd1 hm (cd1 ⟨by rw [bl, hl], by rw [bl]; exact hj⟩ ?_)⟩)
  generalize bits BinOp.xor .u8 ((strNums s).getD j.toNat 0) b = v
  rw [setEl_one (by rw [bl]; exact hj) (brow_one _), bset]
  refine cd1 (by rw [bl, List.length_set, hl]) ⟨(strNums s).set j.toNat v, rfl, cd1 (by rw [List.length_set, hl]; omega) (cd1 (by omega) (cd1 (by omega) (cd1 (by omega) ⟨trivial, trivial, e4 _ _ _ _ (e1 _ ⟨trivial, trivial, e4 _ _ _ _ (e1 _ ⟨trivial, trivial, e4 _ _ _ _ (e1 _ ⟨trivial, trivial, e4 _ _ _ _ (e1 _ ⟨trivial, rfl⟩)⟩)⟩)⟩)⟩)))⟩
def lPTx_S (vld : Int → Int → Int → Int → Bool) (fmt : Int → Int → Int → Int → ByteArray) (prF : ByteArray → Int) (prA : ByteArray → Int) (prB : ByteArray → Int) (prC : ByteArray → Int) (prE : ByteArray → Int) : Prop := ∀ (tx : ByteArray) (zs X : List (List AV)) (a b : Int) (F A B C J : Int → Int), IntsA zs ∧ SwP zs X F A B C J → fnK Tryd.prog { glob := glb, spec := lk [(15, mod_s), (18, (parse_s prF prA prB prC prE vld)), (19, (rParse_s prF prA prB prC prE)), (17, (format_s vld fmt)), (14, awake_s)], specH := lk [(9, newg_s X), (10, swg_s X F A B C J)], shape := [59, 65], nowf := true } { nt := 96, drop := drp [(1, 12582912), (2, 33554432), (3, 201326592), (4, 805306368), (5, 33285996544), (6, 1065151889408), (7, 1124800395214848), (9, 6755399441055744), (10, 9214364837600034816), (11, 1171368248680556527616), (13, 56668397794435742564352), (14, 2342293775503344025993216), (15, 74953400816107008831782912), (16, 9826149061827705932011798528), (18, 19807040628566084398385987584), (19, 39614081257132168796771975168)], tys := [26] } (fun _ _ => none) 6 Tryd.f5 [.str tx, .sl 1 false zs, .int .i64 a, .int .u8 b] (.bool true)
set_option maxRecDepth 100000 in
theorem lPTx_e (vld : Int → Int → Int → Int → Bool) (fmt : Int → Int → Int → Int → ByteArray) (prF : ByteArray → Int) (prA : ByteArray → Int) (prB : ByteArray → Int) (prC : ByteArray → Int) (prE : ByteArray → Int) : lPTx_T vld fmt prF prA prB prC prE = lPTx_S vld fmt prF prA prB prC prE := by kernel_rfl
theorem lPTx_v : lPTx_S vld fmt prF prA prB prC prE := @Eq.mp (lPTx_T vld fmt prF prA prB prC prE) (lPTx_S vld fmt prF prA prB prC prE) (lPTx_e vld fmt prF prA prB prC prE) lPTx_P
theorem texts_law (tx : ByteArray) (zs : List (List AV)) (a b : Int) (hz : IntsA zs) : PureC Tryd.prog glb 5 [.str tx, .sl 1 false zs, .int .i64 a, .int .u8 b] (.bool true) :=
  fnK_sound (tyOf (by kernel_rfl)) (by exact specOK rfl rfl ⟨mod_ok glb, parse_ok glb, rParse_ok glb, format_ok glb, awake_ok, trivial⟩ ⟨newg_ok glb _, swg_ok glb _ (SrcI.take hz), trivial⟩) (by kernel_rfl) Tryd.func5 rfl (lPTx_v tx zs _ a b _ _ _ _ _ ⟨hz, swg_P zs _ rfl⟩)
end Go.Proofs.YtddmmjkhkoencaaDoor
