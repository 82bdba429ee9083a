/- Tables: Validate of the reference. -/
import Derived.Test.YthdfkiopppkfcaaDoorTbM
namespace Go.Proofs.YthdfkiopppkfcaaDoor
open Go
set_option linter.unusedVariables false
set_option linter.unusedSimpArgs false

structure RvP (n : Nat) (Q : Int → Prop) (i : Int) : Prop where
  flo : 0 ≤ i
  fhi : i ≤ n
  fq : Q i
structure RwP (n : Nat) (Q : Int → Bool → Prop) (x : Int × Bool) : Prop where
  flo : 0 ≤ x.1
  fhi : x.1 ≤ n
  fq : Q x.1 x.2
def rvH (es ss : LLA) (v : Int) (f g : Bool) : List (Nat × Blk) := [(1, .cells [.int .i64 v, .sl 5 f es, .sl 2 g ss])]
def noQ (p : List AV → Bool) (xs : LLA) (i : Int) : Prop := (xs.take i.toNat).any p = false
def hdAt (xs : LLA) (i : Nat) : Int := hdI (xs.getD i [])
def dfQ (xs : LLA) (i : Int) : Prop := ∀ a b : Nat, b < a → (a : Int) < i → hdAt xs a ≠ hdAt xs b
def deQ (xs : LLA) (i k : Int) : Prop := ∀ b : Nat, (b : Int) < k → hdAt xs i.toNat ≠ hdAt xs b
def rv6 (es ss : LLA) (v : Int) (f g : Bool) : LInv := ⟨Int, fun i => ⟨[(1, .ptr 1 0), (3, .int .i64 i)], rvH es ss v f g⟩, RvP ss.length (noQ lgP ss), fun i => (ss.length - i).toNat, none⟩
def rv11 (es ss : LLA) (v : Int) (f g : Bool) : LInv := ⟨Int, fun i => ⟨[(1, .ptr 1 0), (4, .int .i64 i)], rvH es ss v f g⟩, RvP es.length (noQ neP es), fun i => (es.length - i).toNat, none⟩
def rv18 (es ss : LLA) (v : Int) (f g : Bool) : LInv := ⟨Int × Bool, fun x => ⟨[(1, .ptr 1 0), (7, .bool x.2), (8, .int .i64 x.1)], rvH es ss v f g⟩, RwP es.length (fun i b => b = !((es.take i.toNat).any ivP)), fun x => (es.length - x.1).toNat, none⟩
def rv22 (es ss : LLA) (v : Int) (f g : Bool) : LInv := ⟨Int × Bool, fun x => ⟨[(1, .ptr 1 0), (7, .bool x.2), (9, .int .i64 x.1)], rvH es ss v f g⟩, RwP ss.length (fun i b => b = (!(es.any ivP) && !((ss.take i.toNat).any ipP))), fun x => (ss.length - x.1).toNat, none⟩
def rv26 (es ss : LLA) (v : Int) (f g : Bool) (i : Int) (b0 : Bool) : LInv := ⟨Int × Bool, fun x => ⟨[(1, .ptr 1 0), (7, .bool x.2), (9, .int .i64 i), (10, .int .i64 x.1)], rvH es ss v f g⟩, RwP (sqC (ss.getD i.toNat [])).length (fun k b => b = (b0 && !(((sqC (ss.getD i.toNat [])).take k.toNat).any k0P))), fun x => ((sqC (ss.getD i.toNat [])).length - x.1).toNat, none⟩
def rv32 (es ss : LLA) (v : Int) (f g : Bool) : LInv := ⟨Int, fun i => ⟨[(1, .ptr 1 0), (11, .int .i64 i)], rvH es ss v f g⟩, RvP es.length (dfQ es), fun i => (es.length - i).toNat, none⟩
def rv35 (es ss : LLA) (v : Int) (f g : Bool) (i : Int) : LInv := ⟨Int, fun k => ⟨[(1, .ptr 1 0), (11, .int .i64 i), (12, .int .i64 k)], rvH es ss v f g⟩, RvP i.toNat (deQ es i), fun k => (i - k).toNat, none⟩
def rv40 (es ss : LLA) (v : Int) (f g : Bool) : LInv := ⟨Int, fun i => ⟨[(1, .ptr 1 0), (13, .int .i64 i)], rvH es ss v f g⟩, RvP ss.length (dfQ ss), fun i => (ss.length - i).toNat, none⟩
def rv43 (es ss : LLA) (v : Int) (f g : Bool) (i : Int) : LInv := ⟨Int, fun k => ⟨[(1, .ptr 1 0), (13, .int .i64 i), (14, .int .i64 k)], rvH es ss v f g⟩, RvP i.toNat (deQ ss i), fun k => (i - k).toNat, none⟩
def rvJ (es ss : LLA) (v : Int) (f g : Bool) (id : Nat) (st : St) : Option LInv :=
  cond (Nat.beq id 6) (some (rv6 es ss v f g)) (cond (Nat.beq id 11) (some (rv11 es ss v f g)) (cond (Nat.beq id 18) (some (rv18 es ss v f g)) (cond (Nat.beq id 22) (some (rv22 es ss v f g))
  (cond (Nat.beq id 32) (some (rv32 es ss v f g)) (cond (Nat.beq id 40) (some (rv40 es ss v f g))
  (cond (Nat.beq id 26) (match lk st.tmps 7, lk st.tmps 9 with | some (.bool b), some (.int _ i) => some (rv26 es ss v f g i b) | _, _ => none)
  (cond (Nat.beq id 35) (match lk st.tmps 11 with | some (.int _ i) => some (rv35 es ss v f g i) | _ => none)
  (cond (Nat.beq id 43) (match lk st.tmps 13 with | some (.int _ i) => some (rv43 es ss v f g i) | _ => none) none))))))))
theorem any_take {p : List AV → Bool} {xs : LLA} {i : Nat} (h : i < xs.length) : (xs.take (i + 1)).any p = ((xs.take i).any p || p (xs.getD i [])) := by
  have e : xs.getD i [] = xs[i] := by rw [List.getD_eq_getElem?_getD, List.getElem?_eq_getElem h]; rfl
  rw [List.take_add_one, List.getElem?_eq_getElem h, List.any_append, e]
  simp
theorem any_yes {p : List AV → Bool} {xs : LLA} {i : Nat} (h : i < xs.length) (hp : p (xs.getD i []) = true) : xs.any p = true := by
  have e : xs.getD i [] = xs[i] := by rw [List.getD_eq_getElem?_getD, List.getElem?_eq_getElem h]; rfl
  exact List.any_eq_true.2 ⟨xs[i], List.getElem_mem h, by rw [← e]; exact hp⟩
theorem any_at {p : List AV → Bool} {xs : LLA} (h : xs.any p = false) {i : Nat} (hi : i < xs.length) : p (xs.getD i []) = false := by
  cases q : p (xs.getD i []) with
  | false => rfl
  | true => rw [any_yes hi q] at h; cases h
theorem hds_at {xs : LLA} {i : Nat} (h : i < (hds xs).length) : (hds xs)[i] = hdAt xs i := by
  have h' : i < xs.length := by simpa [hds] using h
  unfold hdAt
  rw [List.getD_eq_getElem?_getD, List.getElem?_eq_getElem h']
  simp [hds]
theorem hds_nd {xs : LLA} (h : dfQ xs xs.length) : (hds xs).Nodup := by
  unfold List.Nodup
  rw [List.pairwise_iff_getElem]
  intro i j hi hj hij
  rw [hds_at, hds_at]
  have hj' : j < xs.length := by simpa [hds] using hj
  exact fun e => h j i hij (by omega) e.symm
theorem hds_dup {xs : LLA} {a b : Nat} (h : b < a) (ha : a < xs.length) (e : hdAt xs a = hdAt xs b) : ¬ (hds xs).Nodup := by
  intro hn
  unfold List.Nodup at hn
  rw [List.pairwise_iff_getElem] at hn
  have hl : (hds xs).length = xs.length := by simp [hds]
  have := hn b a (by omega) (by omega) h
  rw [hds_at, hds_at] at this
  exact this e.symm
theorem df_step {xs : LLA} {i : Int} (h0 : 0 ≤ i) (h : dfQ xs i) (k : deQ xs i i) : dfQ xs (i + 1) := fun a b h1 h2 => by
  rcases Int.lt_or_le (a : Int) i with q | q
  · exact h a b h1 q
  · have e : i.toNat = a := by omega
    have := k b (by omega)
    rw [e] at this; exact this
theorem de_step {xs : LLA} {i k : Int} (h0 : 0 ≤ k) (h : deQ xs i k) (e : hdAt xs i.toNat ≠ hdAt xs k.toNat) : deQ xs i (k + 1) := fun b hb => by
  rcases Int.lt_or_le (b : Int) k with q | q
  · exact h b q
  · have : k.toNat = b := by omega
    rw [this] at e; exact e
def rvalidate_s (vaE : List (List AV) → List (List AV) → Int → Int) : Sp
  | [.agg [.int .i64 v, .sl 5 f es, .sl 2 g ss]] => some (EnsP es ∧ SqsP ss, .int .i64 (vaE es ss v))
  | _ => none
set_option maxRecDepth 100000 in
def rvalidate_T (vaE : List (List AV) → List (List AV) → Int → Int) (iL : Int → ByteArray) (inLo : Int → Int) (inHi : Int → Int) (inD : Int → Int) (inE : Int → Int) (enV : Int → Int → Int → Int → Bool) (knd : Int → Int) : Prop :=
  ∀ (es ss : List (List AV)) (v : Int) (f g : Bool), EnsP es ∧ SqsP ss → ((-9223372036854775808 : Int) ≤ v ∧ v ≤ (9223372036854775807 : Int)) ∧ True ∧ True ∧ True → bif decide (v <
  (1 : Int)) then (1 : Int) = vaE es ss v else bif decide ((99 : Int) < v) then (1 : Int) = vaE es ss v else bif decide ((40 : Int) < (↑es.length : Int)) then (2 : Int) = vaE es ss v
  else bif decide ((40 : Int) < (↑ss.length : Int)) then (2 : Int) = vaE es ss v else (∃ x, RvP ss.length (noQ lgP ss) x ∧ ((0 : Nat) = (0 : Nat) ∧ (0 : Int) = x ∧ True) ∧ (v = v ∧
  ((bif f then f = true else True) ∧ es = es) ∧ ((bif g then g = true else True) ∧ ss = ss) ∧ True) ∧ True) ∧ ∀ (x : Int), RvP ss.length (noQ lgP ss) x → bif decide (x < (↑ss.length
  : Int)) then bif decide ((0 : Int) ≤ x ∧ x < (↑ss.length : Int)) then ∃ xs, List.take [AV.sl (1 : Nat) false xs].length (List.drop (1 : Nat) (ss.getD x.toNat [])) = [AV.sl (1 :
  Nat) false xs] ∧ bif decide ((20 : Int) < (↑xs.length : Int)) then (2 : Int) = vaE es ss v else bif decide (rng IntKind.i64 (x + (1 : Int))) then ∃ y, RvP ss.length (noQ lgP ss) y
  ∧ (rv6 es ss v f g).m y < (rv6 es ss v f g).m x ∧ ((0 : Nat) = (0 : Nat) ∧ x + (1 : Int) = y ∧ True) ∧ (v = v ∧ ((bif f then f = true else True) ∧ es = es) ∧ ((bif g then g = true
  else True) ∧ ss = ss) ∧ True) ∧ True else False else False else (∃ x, RvP es.length (noQ neP es) x ∧ ((0 : Nat) = (0 : Nat) ∧ (0 : Int) = x ∧ True) ∧ (v = v ∧ ((bif f then f = true
  else True) ∧ es = es) ∧ ((bif g then g = true else True) ∧ ss = ss) ∧ True) ∧ True) ∧ ∀ (x : Int), RvP es.length (noQ neP es) x → bif decide (x < (↑es.length : Int)) then bif
  decide ((0 : Int) ≤ x ∧ x < (↑es.length : Int)) then ∃ n, List.take [AV.int IntKind.i64 n].length (List.drop (1 : Nat) (es.getD x.toNat [])) = [AV.int IntKind.i64 n] ∧ True ∧ bif
  decide ¬inE n = (0 : Int) then (4 : Int) = vaE es ss v else bif decide (rng IntKind.i64 (x + (1 : Int))) then ∃ y, RvP es.length (noQ neP es) y ∧ (rv11 es ss v f g).m y < (rv11 es
  ss v f g).m x ∧ ((0 : Nat) = (0 : Nat) ∧ x + (1 : Int) = y ∧ True) ∧ (v = v ∧ ((bif f then f = true else True) ∧ es = es) ∧ ((bif g then g = true else True) ∧ ss = ss) ∧ True) ∧
  True else False else False else (∃ x, RwP es.length (fun i b => b = !(List.take i.toNat es).any ivP) x ∧ ((0 : Nat) = (0 : Nat) ∧ true = x.snd ∧ (0 : Int) = x.fst ∧ True) ∧ (v = v
  ∧ ((bif f then f = true else True) ∧ es = es) ∧ ((bif g then g = true else True) ∧ ss = ss) ∧ True) ∧ True) ∧ ∀ (x : Int × Bool), RwP es.length (fun i b => b = !(List.take i.toNat
  es).any ivP) x → bif decide (x.fst < (↑es.length : Int)) then bif x.snd then bif decide ((0 : Int) ≤ x.fst ∧ x.fst < (↑es.length : Int)) then ∃ n n_1 n_2 n_3 n_4, List.take [AV.int
  IntKind.i64 n, AV.int IntKind.i64 n_1, AV.int IntKind.i64 n_2, AV.int IntKind.i64 n_3, AV.int IntKind.i64 n_4].length (es.getD x.fst.toNat []) = [AV.int IntKind.i64 n, AV.int
  IntKind.i64 n_1, AV.int IntKind.i64 n_2, AV.int IntKind.i64 n_3, AV.int IntKind.i64 n_4] ∧ True ∧ bif decide (rng IntKind.i64 (x.fst + (1 : Int))) then ∃ y, RwP es.length (fun i b
  => b = !(List.take i.toNat es).any ivP) y ∧ (rv18 es ss v f g).m y < (rv18 es ss v f g).m x ∧ ((0 : Nat) = (0 : Nat) ∧ enV n n_2 n_3 n_4 = y.snd ∧ x.fst + (1 : Int) = y.fst ∧ True)
  ∧ (v = v ∧ ((bif f then f = true else True) ∧ es = es) ∧ ((bif g then g = true else True) ∧ ss = ss) ∧ True) ∧ True else False else False else bif decide (rng IntKind.i64 (x.fst +
  (1 : Int))) then ∃ y, RwP es.length (fun i b => b = !(List.take i.toNat es).any ivP) y ∧ (rv18 es ss v f g).m y < (rv18 es ss v f g).m x ∧ ((0 : Nat) = (0 : Nat) ∧ false = y.snd ∧
  x.fst + (1 : Int) = y.fst ∧ True) ∧ (v = v ∧ ((bif f then f = true else True) ∧ es = es) ∧ ((bif g then g = true else True) ∧ ss = ss) ∧ True) ∧ True else False else (∃ x_1, RwP
  ss.length (fun i b => b = (!es.any ivP && !(List.take i.toNat ss).any ipP)) x_1 ∧ ((0 : Nat) = (0 : Nat) ∧ x.snd = x_1.snd ∧ (0 : Int) = x_1.fst ∧ True) ∧ (v = v ∧ ((bif f then f =
  true else True) ∧ es = es) ∧ ((bif g then g = true else True) ∧ ss = ss) ∧ True) ∧ True) ∧ ∀ (x : Int × Bool), RwP ss.length (fun i b => b = (!es.any ivP && !(List.take i.toNat
  ss).any ipP)) x → bif decide (x.fst < (↑ss.length : Int)) then bif x.snd then bif decide ((0 : Int) ≤ x.fst ∧ x.fst < (↑ss.length : Int)) then ∃ n, List.take [AV.int IntKind.i64
  n].length (List.drop (0 : Nat) (ss.getD x.fst.toNat [])) = [AV.int IntKind.i64 n] ∧ True ∧ (∃ x_1, RwP (sqC (ss.getD x.fst.toNat [])).length (fun k b => b = (decide (knd n = (2 :
  Int)) && !(List.take k.toNat (sqC (ss.getD x.fst.toNat []))).any k0P)) x_1 ∧ ((0 : Nat) = (0 : Nat) ∧ decide (knd n = (2 : Int)) = x_1.snd ∧ x.fst = x.fst ∧ (0 : Int) = x_1.fst ∧
  True) ∧ (v = v ∧ ((bif f then f = true else True) ∧ es = es) ∧ ((bif g then g = true else True) ∧ ss = ss) ∧ True) ∧ True) ∧ ∀ (x_1 : Int × Bool), RwP (sqC (ss.getD x.fst.toNat
  [])).length (fun k b => b = (decide (knd n = (2 : Int)) && !(List.take k.toNat (sqC (ss.getD x.fst.toNat []))).any k0P)) x_1 → bif decide ((0 : Int) ≤ x.fst ∧ x.fst < (↑ss.length :
  Int)) then ∃ xs, List.take [AV.sl (1 : Nat) false xs].length (List.drop (1 : Nat) (ss.getD x.fst.toNat [])) = [AV.sl (1 : Nat) false xs] ∧ bif decide (x_1.fst < (↑xs.length : Int))
  then bif x_1.snd then bif decide ((0 : Int) ≤ x.fst ∧ x.fst < (↑ss.length : Int)) then ∃ xs, List.take [AV.sl (1 : Nat) false xs].length (List.drop (1 : Nat) (ss.getD x.fst.toNat
  [])) = [AV.sl (1 : Nat) false xs] ∧ bif decide ((0 : Int) ≤ x_1.fst ∧ x_1.fst < (↑xs.length : Int)) then ∃ n_1, List.take [AV.int IntKind.i64 n_1].length (xs.getD x_1.fst.toNat [])
  = [AV.int IntKind.i64 n_1] ∧ True ∧ bif decide (rng IntKind.i64 (x_1.fst + (1 : Int))) then ∃ y, RwP (sqC (ss.getD x.fst.toNat [])).length (fun k b => b = (decide (knd n = (2 :
  Int)) && !(List.take k.toNat (sqC (ss.getD x.fst.toNat []))).any k0P)) y ∧ (rv26 es ss v f g x.fst (decide (knd n = (2 : Int)))).m y < (rv26 es ss v f g x.fst (decide (knd n = (2 :
  Int)))).m x_1 ∧ ((0 : Nat) = (0 : Nat) ∧ (decide ¬knd n_1 = (0 : Int)) = y.snd ∧ x.fst = x.fst ∧ x_1.fst + (1 : Int) = y.fst ∧ True) ∧ (v = v ∧ ((bif f then f = true else True) ∧
  es = es) ∧ ((bif g then g = true else True) ∧ ss = ss) ∧ True) ∧ True else False else False else False else bif decide (rng IntKind.i64 (x_1.fst + (1 : Int))) then ∃ y, RwP (sqC
  (ss.getD x.fst.toNat [])).length (fun k b => b = (decide (knd n = (2 : Int)) && !(List.take k.toNat (sqC (ss.getD x.fst.toNat []))).any k0P)) y ∧ (rv26 es ss v f g x.fst (decide
  (knd n = (2 : Int)))).m y < (rv26 es ss v f g x.fst (decide (knd n = (2 : Int)))).m x_1 ∧ ((0 : Nat) = (0 : Nat) ∧ false = y.snd ∧ x.fst = x.fst ∧ x_1.fst + (1 : Int) = y.fst ∧
  True) ∧ (v = v ∧ ((bif f then f = true else True) ∧ es = es) ∧ ((bif g then g = true else True) ∧ ss = ss) ∧ True) ∧ True else False else bif decide (rng IntKind.i64 (x.fst + (1 :
  Int))) then ∃ y, RwP ss.length (fun i b => b = (!es.any ivP && !(List.take i.toNat ss).any ipP)) y ∧ (rv22 es ss v f g).m y < (rv22 es ss v f g).m x ∧ ((0 : Nat) = (0 : Nat) ∧
  x_1.snd = y.snd ∧ x.fst + (1 : Int) = y.fst ∧ True) ∧ (v = v ∧ ((bif f then f = true else True) ∧ es = es) ∧ ((bif g then g = true else True) ∧ ss = ss) ∧ True) ∧ True else False
  else False else False else (∃ x_1, RwP (sqC (ss.getD x.fst.toNat [])).length (fun k b => b = (false && !(List.take k.toNat (sqC (ss.getD x.fst.toNat []))).any k0P)) x_1 ∧ ((0 :
  Nat) = (0 : Nat) ∧ false = x_1.snd ∧ x.fst = x.fst ∧ (0 : Int) = x_1.fst ∧ True) ∧ (v = v ∧ ((bif f then f = true else True) ∧ es = es) ∧ ((bif g then g = true else True) ∧ ss =
  ss) ∧ True) ∧ True) ∧ ∀ (x_1 : Int × Bool), RwP (sqC (ss.getD x.fst.toNat [])).length (fun k b => b = (false && !(List.take k.toNat (sqC (ss.getD x.fst.toNat []))).any k0P)) x_1 →
  bif decide ((0 : Int) ≤ x.fst ∧ x.fst < (↑ss.length : Int)) then ∃ xs, List.take [AV.sl (1 : Nat) false xs].length (List.drop (1 : Nat) (ss.getD x.fst.toNat [])) = [AV.sl (1 : Nat)
  false xs] ∧ bif decide (x_1.fst < (↑xs.length : Int)) then bif x_1.snd then bif decide ((0 : Int) ≤ x.fst ∧ x.fst < (↑ss.length : Int)) then ∃ xs, List.take [AV.sl (1 : Nat) false
  xs].length (List.drop (1 : Nat) (ss.getD x.fst.toNat [])) = [AV.sl (1 : Nat) false xs] ∧ bif decide ((0 : Int) ≤ x_1.fst ∧ x_1.fst < (↑xs.length : Int)) then ∃ n, List.take [AV.int
  IntKind.i64 n].length (xs.getD x_1.fst.toNat []) = [AV.int IntKind.i64 n] ∧ True ∧ bif decide (rng IntKind.i64 (x_1.fst + (1 : Int))) then ∃ y, RwP (sqC (ss.getD x.fst.toNat
  [])).length (fun k b => b = (false && !(List.take k.toNat (sqC (ss.getD x.fst.toNat []))).any k0P)) y ∧ (rv26 es ss v f g x.fst false).m y < (rv26 es ss v f g x.fst false).m x_1 ∧
  ((0 : Nat) = (0 : Nat) ∧ (decide ¬knd n = (0 : Int)) = y.snd ∧ x.fst = x.fst ∧ x_1.fst + (1 : Int) = y.fst ∧ True) ∧ (v = v ∧ ((bif f then f = true else True) ∧ es = es) ∧ ((bif g
  then g = true else True) ∧ ss = ss) ∧ True) ∧ True else False else False else False else bif decide (rng IntKind.i64 (x_1.fst + (1 : Int))) then ∃ y, RwP (sqC (ss.getD x.fst.toNat
  [])).length (fun k b => b = (false && !(List.take k.toNat (sqC (ss.getD x.fst.toNat []))).any k0P)) y ∧ (rv26 es ss v f g x.fst false).m y < (rv26 es ss v f g x.fst false).m x_1 ∧
  ((0 : Nat) = (0 : Nat) ∧ false = y.snd ∧ x.fst = x.fst ∧ x_1.fst + (1 : Int) = y.fst ∧ True) ∧ (v = v ∧ ((bif f then f = true else True) ∧ es = es) ∧ ((bif g then g = true else
  True) ∧ ss = ss) ∧ True) ∧ True else False else bif decide (rng IntKind.i64 (x.fst + (1 : Int))) then ∃ y, RwP ss.length (fun i b => b = (!es.any ivP && !(List.take i.toNat ss).any
  ipP)) y ∧ (rv22 es ss v f g).m y < (rv22 es ss v f g).m x ∧ ((0 : Nat) = (0 : Nat) ∧ x_1.snd = y.snd ∧ x.fst + (1 : Int) = y.fst ∧ True) ∧ (v = v ∧ ((bif f then f = true else True)
  ∧ es = es) ∧ ((bif g then g = true else True) ∧ ss = ss) ∧ True) ∧ True else False else False else bif !x.snd then (1 : Int) = vaE es ss v else (∃ x, RvP es.length (dfQ es) x ∧ ((0
  : Nat) = (0 : Nat) ∧ (0 : Int) = x ∧ True) ∧ (v = v ∧ ((bif f then f = true else True) ∧ es = es) ∧ ((bif g then g = true else True) ∧ ss = ss) ∧ True) ∧ True) ∧ ∀ (x : Int), RvP
  es.length (dfQ es) x → bif decide (x < (↑es.length : Int)) then (∃ x_1, RvP x.toNat (deQ es x) x_1 ∧ ((0 : Nat) = (0 : Nat) ∧ x = x ∧ (0 : Int) = x_1 ∧ True) ∧ (v = v ∧ ((bif f
  then f = true else True) ∧ es = es) ∧ ((bif g then g = true else True) ∧ ss = ss) ∧ True) ∧ True) ∧ ∀ (x_1 : Int), RvP x.toNat (deQ es x) x_1 → bif decide (x_1 < x) then bif decide
  ((0 : Int) ≤ x ∧ x < (↑es.length : Int)) then ∃ n, List.take [AV.int IntKind.i64 n].length (List.drop (0 : Nat) (es.getD x.toNat [])) = [AV.int IntKind.i64 n] ∧ bif decide ((0 :
  Int) ≤ x_1 ∧ x_1 < (↑es.length : Int)) then ∃ n_1, List.take [AV.int IntKind.i64 n_1].length (List.drop (0 : Nat) (es.getD x_1.toNat [])) = [AV.int IntKind.i64 n_1] ∧ bif decide (n
  = n_1) then (5 : Int) = vaE es ss v else bif decide (rng IntKind.i64 (x_1 + (1 : Int))) then ∃ y, RvP x.toNat (deQ es x) y ∧ (rv35 es ss v f g x).m y < (rv35 es ss v f g x).m x_1 ∧
  ((0 : Nat) = (0 : Nat) ∧ x = x ∧ x_1 + (1 : Int) = y ∧ True) ∧ (v = v ∧ ((bif f then f = true else True) ∧ es = es) ∧ ((bif g then g = true else True) ∧ ss = ss) ∧ True) ∧ True
  else False else False else False else bif decide (rng IntKind.i64 (x + (1 : Int))) then ∃ y, RvP es.length (dfQ es) y ∧ (rv32 es ss v f g).m y < (rv32 es ss v f g).m x ∧ ((0 : Nat)
  = (0 : Nat) ∧ x + (1 : Int) = y ∧ True) ∧ (v = v ∧ ((bif f then f = true else True) ∧ es = es) ∧ ((bif g then g = true else True) ∧ ss = ss) ∧ True) ∧ True else False else (∃ x,
  RvP ss.length (dfQ ss) x ∧ ((0 : Nat) = (0 : Nat) ∧ (0 : Int) = x ∧ True) ∧ (v = v ∧ ((bif f then f = true else True) ∧ es = es) ∧ ((bif g then g = true else True) ∧ ss = ss) ∧
  True) ∧ True) ∧ ∀ (x : Int), RvP ss.length (dfQ ss) x → bif decide (x < (↑ss.length : Int)) then (∃ x_1, RvP x.toNat (deQ ss x) x_1 ∧ ((0 : Nat) = (0 : Nat) ∧ x = x ∧ (0 : Int) =
  x_1 ∧ True) ∧ (v = v ∧ ((bif f then f = true else True) ∧ es = es) ∧ ((bif g then g = true else True) ∧ ss = ss) ∧ True) ∧ True) ∧ ∀ (x_1 : Int), RvP x.toNat (deQ ss x) x_1 → bif
  decide (x_1 < x) then bif decide ((0 : Int) ≤ x ∧ x < (↑ss.length : Int)) then ∃ n, List.take [AV.int IntKind.i64 n].length (List.drop (0 : Nat) (ss.getD x.toNat [])) = [AV.int
  IntKind.i64 n] ∧ bif decide ((0 : Int) ≤ x_1 ∧ x_1 < (↑ss.length : Int)) then ∃ n_1, List.take [AV.int IntKind.i64 n_1].length (List.drop (0 : Nat) (ss.getD x_1.toNat [])) =
  [AV.int IntKind.i64 n_1] ∧ bif decide (n = n_1) then (5 : Int) = vaE es ss v else bif decide (rng IntKind.i64 (x_1 + (1 : Int))) then ∃ y, RvP x.toNat (deQ ss x) y ∧ (rv43 es ss v
  f g x).m y < (rv43 es ss v f g x).m x_1 ∧ ((0 : Nat) = (0 : Nat) ∧ x = x ∧ x_1 + (1 : Int) = y ∧ True) ∧ (v = v ∧ ((bif f then f = true else True) ∧ es = es) ∧ ((bif g then g =
  true else True) ∧ ss = ss) ∧ True) ∧ True else False else False else False else bif decide (rng IntKind.i64 (x + (1 : Int))) then ∃ y, RvP ss.length (dfQ ss) y ∧ (rv40 es ss v f
  g).m y < (rv40 es ss v f g).m x ∧ ((0 : Nat) = (0 : Nat) ∧ x + (1 : Int) = y ∧ True) ∧ (v = v ∧ ((bif f then f = true else True) ∧ es = es) ∧ ((bif g then g = true else True) ∧ ss
  = ss) ∧ True) ∧ True else False else (0 : Int) = vaE es ss v
set_option maxRecDepth 100000 in
theorem rvalidate_P : rvalidate_T vaE iL inLo inHi inD inE enV knd := by
  unfold rvalidate_T
  intro es ss v f g ⟨he, hs⟩ _
  have bf : cond f (f = true) True := by cases f <;> trivial
  have bg : cond g (g = true) True := by cases g <;> trivial
  have hh : (v = v ∧ (cond f (f = true) True ∧ es = es) ∧ (cond g (g = true) True ∧ ss = ss) ∧ True) ∧ True := ⟨⟨rfl, ⟨bf, rfl⟩, ⟨bg, rfl⟩, trivial⟩, trivial⟩
  refine csx (fun h => by unfold vaE; rw [if_pos (.inl h)]) (fun h1 => csx (fun h => by unfold vaE; rw [if_pos (.inr h)]) (fun h2 => ?_))
  have e1 : ¬ (v < 1 ∨ 99 < v) := by omega
  refine csx (fun h3 => by unfold vaE; rw [if_neg e1, if_pos (.inl (.inl h3))]) (fun h3 => csx (fun h4 => by unfold vaE; rw [if_neg e1, if_pos (.inl (.inr h4))]) (fun h4 => ⟨⟨0, ⟨by decide, by omega, rfl⟩, ⟨rfl, rfl, trivial⟩, hh⟩, ?_⟩))
  rintro i ⟨i0, i1, iq⟩
  refine csx (fun hi => cd1 (by omega) ?_) (fun hi => ?_)
  · obtain ⟨c, cs, hr, _, hc⟩ := hs.fr i.toNat (by omega)
    have hl := hc.fl
    refine ⟨cs, by rw [hr]; rfl, csx (fun h => ?_) (fun h => cdI (by omega) ⟨i + 1, ⟨by omega, by omega, ?_⟩, by simp only [rv6]; omega, ⟨rfl, rfl, trivial⟩, hh⟩)⟩
    · have : ss.any lgP = true := any_yes (i := i.toNat) (by omega) (by rw [hr]; exact decide_eq_true h)
      unfold vaE; rw [if_neg e1, if_pos (.inr this)]
    · have iq : (ss.take i.toNat).any lgP = false := iq
      have : lgP [.int .i64 c, .sl 1 false cs] = false := decide_eq_false h
      show (ss.take (i + 1).toNat).any lgP = false
      rw [show (i + 1).toNat = i.toNat + 1 by omega, any_take (by omega), iq, hr, this]; rfl
  have h5 : ss.any lgP = false := by
    have iq : (ss.take i.toNat).any lgP = false := iq
    rwa [List.take_of_length_le (by omega)] at iq
  have e2 : ¬ ((40 < (es.length : Int) ∨ 40 < (ss.length : Int)) ∨ ss.any lgP = true) := by rw [h5]; simp; omega
  clear hi i0 i1 iq i
  refine ⟨⟨0, ⟨by decide, by omega, rfl⟩, ⟨rfl, rfl, trivial⟩, hh⟩, ?_⟩
  rintro i ⟨i0, i1, iq⟩
  refine csx (fun hi => cd1 (by omega) ?_) (fun hi => ?_)
  · obtain ⟨c, e, w, sc, l, hr, _⟩ := he.fr i.toNat (by omega)
    have ee : inE e = if okC e then 0 else 4 := rfl
    refine ⟨e, by rw [hr]; rfl, trivial, csx (fun h => ?_) (fun h => cdI (by omega) ⟨i + 1, ⟨by omega, by omega, ?_⟩, by simp only [rv11]; omega, ⟨rfl, rfl, trivial⟩, hh⟩)⟩
    · have hk : okC e = false := by
        cases q : okC e with
        | false => rfl
        | true => rw [q] at ee; exact absurd ee h
      have : es.any neP = true := any_yes (i := i.toNat) (by omega) (by rw [hr]; show (!(okC e)) = true; rw [hk]; rfl)
      unfold vaE; rw [if_neg e1, if_neg e2, if_pos this]
    · have hk : okC e = true := by
        cases q : okC e with
        | true => rfl
        | false => rw [q] at ee; have h := Decidable.not_not.1 h; rw [h] at ee; cases ee
      have iq : (es.take i.toNat).any neP = false := iq
      have : neP [.int .i64 c, .int .i64 e, .int .i64 w, .int .i64 sc, .int .i64 l] = false := by show (!(okC e)) = false; rw [hk]; rfl
      show (es.take (i + 1).toNat).any neP = false
      rw [show (i + 1).toNat = i.toNat + 1 by omega, any_take (by omega), iq, hr, this]; rfl
  have h6 : es.any neP = false := by
    have iq : (es.take i.toNat).any neP = false := iq
    rwa [List.take_of_length_le (by omega)] at iq
  have e3 : ¬ (es.any neP = true) := by rw [h6]; simp
  clear hi i0 i1 iq i
  refine ⟨⟨(0, true), ⟨by simp, by simp, by simp⟩, ⟨rfl, rfl, rfl, trivial⟩, hh⟩, ?_⟩
  rintro ⟨i, b⟩ ⟨i0, i1, iq⟩
  simp only at i0 i1 iq
  dsimp only
  refine csx (fun hi => csplit (fun hb => cd1 (by omega) ?_) (fun hb => cdI (by omega) ⟨(i + 1, false), ⟨by simp only; omega, by simp only; omega, ?_⟩, by simp only [rv18]; omega, ⟨rfl, rfl, rfl, trivial⟩, hh⟩)) (fun hi => ?_)
  · obtain ⟨c, e, w, sc, l, hr, _⟩ := he.fr i.toNat (by omega)
    have hk : okC e = true := by
      have := any_at h6 (i := i.toNat) (by omega)
      rw [hr] at this
      have this : (!(okC e)) = false := this
      simpa using this
    refine ⟨c, e, w, sc, l, by rw [hr]; rfl, trivial, cdI (by omega) ⟨(i + 1, enV c w sc l), ⟨by simp only; omega, by simp only; omega, ?_⟩, by simp only [rv18]; omega, ⟨rfl, rfl, rfl, trivial⟩, hh⟩⟩
    show enV c w sc l = !((es.take (i + 1).toNat).any ivP)
    have : ivP [.int .i64 c, .int .i64 e, .int .i64 w, .int .i64 sc, .int .i64 l] = !(okC e && enV c w sc l) := rfl
    rw [hb] at iq
    have iq2 : (es.take i.toNat).any ivP = false := by simpa using iq.symm
    rw [show (i + 1).toNat = i.toNat + 1 by omega, any_take (by omega), iq2, hr, this, hk]
    cases enV c w sc l <;> rfl
  · show false = !((es.take (i + 1).toNat).any ivP)
    rw [hb] at iq
    have iq2 : (es.take i.toNat).any ivP = true := by simpa using iq.symm
    rw [show (i + 1).toNat = i.toNat + 1 by omega, any_take (by omega), iq2]; rfl
  rw [List.take_of_length_le (by omega)] at iq
  clear hi i0 i1 i
  refine ⟨⟨(0, b), ⟨by simp, by simp, by show b = (!(es.any ivP) && !((ss.take (0 : Int).toNat).any ipP)); rw [iq]; simp⟩, ⟨rfl, rfl, rfl, trivial⟩, hh⟩, ?_⟩
  clear iq b
  rintro ⟨i, b⟩ ⟨i0, i1, iq⟩
  simp only at i0 i1 iq
  dsimp only
  refine csx (fun hi => ?_) (fun hi => ?_)
  · obtain ⟨c, cs, hr, _, hc⟩ := hs.fr i.toNat (by omega)
    have hl := hc.fl
    have hsq : sqC (ss.getD i.toNat []) = cs := by rw [hr]; rfl
    have hip : ipP (ss.getD i.toNat []) = !(decide (knd c = 2) && !(cs.any k0P)) := by rw [hr]; rfl
    refine csplit (fun hb => cd1 (by omega) ⟨c, by rw [hr]; rfl, trivial, ⟨(0, decide (knd c = 2)), ⟨by simp, by simp, by simp⟩, ⟨rfl, rfl, rfl, rfl, trivial⟩, hh⟩, ?_⟩) (fun hb => ⟨⟨(0, false), ⟨by simp, by simp, by simp⟩, ⟨rfl, rfl, rfl, rfl, trivial⟩, hh⟩, ?_⟩)
    · rintro ⟨k, b3⟩ ⟨k0, k1, kq⟩
      simp only at k0 k1 kq
      rw [hsq] at k1 kq
      dsimp only
      rw [hb] at iq
      have iq1 : es.any ivP = false := by cases q : es.any ivP <;> simp [q] at iq ⊢
      have iq2 : (ss.take i.toNat).any ipP = false := by simp [iq1] at iq; simpa using iq
      refine cd1 (by omega) ⟨cs, by rw [hr]; rfl, csx (fun hk => csplit (fun hb3 => cd1 (by omega) ⟨cs, by rw [hr]; rfl, cd1 (by omega) ?_⟩) (fun hb3 => cdI (by omega) ⟨(k + 1, false), ⟨by simp only; omega, by simp only; rw [hsq]; omega, ?_⟩, by simp only [rv26, hsq]; omega, ⟨rfl, rfl, rfl, rfl, trivial⟩, hh⟩)) (fun hk => cdI (by omega) ⟨(i + 1, b3), ⟨by simp only; omega, by simp only; omega, ?_⟩, by simp only [rv22]; omega, ⟨rfl, rfl, rfl, trivial⟩, hh⟩)⟩
      · obtain ⟨n, hn, _⟩ := hc.fr k.toNat (by omega)
        refine ⟨n, by rw [hn]; rfl, trivial, cdI (by omega) ⟨(k + 1, decide (¬ knd n = 0)), ⟨by simp only; omega, by simp only; rw [hsq]; omega, ?_⟩, by simp only [rv26, hsq]; omega, ⟨rfl, rfl, rfl, rfl, trivial⟩, hh⟩⟩
        show decide (¬ knd n = 0) = (decide (knd c = 2) && !(((sqC (ss.getD i.toNat [])).take (k + 1).toNat).any k0P))
        rw [hb3] at kq
        have q1 : decide (knd c = 2) = true := by cases q : decide (knd c = 2) <;> simp [q] at kq ⊢
        rw [q1] at kq
        have q2 : (cs.take k.toNat).any k0P = false := by cases q : (cs.take k.toNat).any k0P <;> simp [q] at kq ⊢
        have q3 : k0P [.int .i64 n] = decide (knd n = 0) := rfl
        rw [hsq, show (k + 1).toNat = k.toNat + 1 by omega, any_take (by omega), q1, q2, hn, q3]
        simp
      · show false = (decide (knd c = 2) && !(((sqC (ss.getD i.toNat [])).take (k + 1).toNat).any k0P))
        rw [hb3] at kq
        rw [hsq, show (k + 1).toNat = k.toNat + 1 by omega, any_take (by omega)]
        cases q : decide (knd c = 2) with
        | false => rfl
        | true =>
          rw [q] at kq
          have q2 : (cs.take k.toNat).any k0P = true := by cases q : (cs.take k.toNat).any k0P <;> simp [q] at kq ⊢
          rw [q2]; rfl
      · show b3 = (!(es.any ivP) && !((ss.take (i + 1).toNat).any ipP))
        rw [List.take_of_length_le (by omega)] at kq
        rw [show (i + 1).toNat = i.toNat + 1 by omega, any_take (by omega), iq1, iq2, hip, kq]
        simp
    · rintro ⟨k, b3⟩ ⟨k0, k1, kq⟩
      simp only at k0 k1 kq
      rw [hsq] at k1 kq
      dsimp only
      have kq : b3 = false := by simpa using kq
      refine cd1 (by omega) ⟨cs, by rw [hr]; rfl, csx (fun hk => csplit (fun hb3 => by rw [kq] at hb3; cases hb3) (fun hb3 => cdI (by omega) ⟨(k + 1, false), ⟨by simp only; omega, by simp only; rw [hsq]; omega, by simp⟩, by simp only [rv26, hsq]; omega, ⟨rfl, rfl, rfl, rfl, trivial⟩, hh⟩)) (fun hk => cdI (by omega) ⟨(i + 1, b3), ⟨by simp only; omega, by simp only; omega, ?_⟩, by simp only [rv22]; omega, ⟨rfl, rfl, rfl, trivial⟩, hh⟩)⟩
      show b3 = (!(es.any ivP) && !((ss.take (i + 1).toNat).any ipP))
      rw [kq, show (i + 1).toNat = i.toNat + 1 by omega, any_take (by omega)]
      rw [hb] at iq
      cases q : es.any ivP with
      | true => rfl
      | false =>
        rw [q] at iq
        have q2 : (ss.take i.toNat).any ipP = true := by cases q : (ss.take i.toNat).any ipP <;> simp [q] at iq ⊢
        rw [q2]; rfl
  rw [List.take_of_length_le (by omega)] at iq
  clear hi i0 i1 i
  refine csplit (fun hb => ?_) (fun hb => ?_)
  · have hb : b = false := by simpa using hb
    rw [hb] at iq
    have : es.any ivP = true ∨ ss.any ipP = true := by
      cases q : es.any ivP with
      | true => exact .inl rfl
      | false => rw [q] at iq; right; cases q : ss.any ipP <;> simp [q] at iq ⊢
    unfold vaE; rw [if_neg e1, if_neg e2, if_neg e3, if_pos this]
  have hb : b = true := by simpa using hb
  rw [hb] at iq
  have h7 : es.any ivP = false := by cases q : es.any ivP <;> simp [q] at iq ⊢
  have h8 : ss.any ipP = false := by rw [h7] at iq; cases q : ss.any ipP <;> simp [q] at iq ⊢
  have e4 : ¬ (es.any ivP = true ∨ ss.any ipP = true) := by rw [h7, h8]; simp
  have dup : ¬ (hds es ++ hds ss).Nodup → 5 = vaE es ss v := fun h => by
    unfold vaE; rw [if_neg e1, if_neg e2, if_neg e3, if_neg e4, if_pos ((twB_iff es ss).2 h)]
  have lh : ∀ xs : LLA, (hds xs).length = xs.length := fun xs => by simp [hds]
  refine ⟨⟨0, ⟨by decide, by omega, fun a b h1 h2 => by omega⟩, ⟨rfl, rfl, trivial⟩, hh⟩, ?_⟩
  rintro i ⟨i0, i1, iq⟩
  refine csx (fun hi => ⟨⟨0, ⟨by decide, by omega, fun b hb => by omega⟩, ⟨rfl, rfl, rfl, trivial⟩, hh⟩, ?_⟩) (fun hi => ?_)
  · rintro k ⟨k0, k1, kq⟩
    refine csx (fun hk => ?_) (fun hk => cdI (by omega) ⟨i + 1, ⟨by omega, by omega, df_step i0 iq (fun b hb => kq b (by omega))⟩, by simp only [rv32]; omega, ⟨rfl, rfl, trivial⟩, hh⟩)
    obtain ⟨c, _, _, _, _, hr, _⟩ := he.fr i.toNat (by omega)
    obtain ⟨c2, _, _, _, _, hr2, _⟩ := he.fr k.toNat (by omega)
    have a1 : hdAt es i.toNat = c := by unfold hdAt; rw [hr]; rfl
    have a2 : hdAt es k.toNat = c2 := by unfold hdAt; rw [hr2]; rfl
    refine cd1 (by omega) ⟨c, by rw [hr]; rfl, cd1 (by omega) ⟨c2, by rw [hr2]; rfl, csx (fun he => dup fun hn => ?_) (fun hne => cdI (by omega) ⟨k + 1, ⟨by omega, by omega, de_step k0 kq (by rw [a1, a2]; exact hne)⟩, by simp only [rv35]; omega, ⟨rfl, rfl, rfl, trivial⟩, hh⟩)⟩⟩
    exact hds_dup (xs := es) (a := i.toNat) (b := k.toNat) (by omega) (by omega) (by rw [a1, a2]; exact he) (List.nodup_append.1 hn).1
  have d1 : dfQ es es.length := fun a b h1 h2 => iq a b h1 (by omega)
  clear hi i0 i1 iq i
  refine ⟨⟨0, ⟨by decide, by omega, fun a b h1 h2 => by omega⟩, ⟨rfl, rfl, trivial⟩, hh⟩, ?_⟩
  rintro i ⟨i0, i1, iq⟩
  refine csx (fun hi => ⟨⟨0, ⟨by decide, by omega, fun b hb => by omega⟩, ⟨rfl, rfl, rfl, trivial⟩, hh⟩, ?_⟩) (fun hi => ?_)
  · rintro k ⟨k0, k1, kq⟩
    refine csx (fun hk => ?_) (fun hk => cdI (by omega) ⟨i + 1, ⟨by omega, by omega, df_step i0 iq (fun b hb => kq b (by omega))⟩, by simp only [rv40]; omega, ⟨rfl, rfl, trivial⟩, hh⟩)
    obtain ⟨c, _, hr, _⟩ := hs.fr i.toNat (by omega)
    obtain ⟨c2, _, hr2, _⟩ := hs.fr k.toNat (by omega)
    have a1 : hdAt ss i.toNat = c := by unfold hdAt; rw [hr]; rfl
    have a2 : hdAt ss k.toNat = c2 := by unfold hdAt; rw [hr2]; rfl
    refine cd1 (by omega) ⟨c, by rw [hr]; rfl, cd1 (by omega) ⟨c2, by rw [hr2]; rfl, csx (fun he => dup fun hn => ?_) (fun hne => cdI (by omega) ⟨k + 1, ⟨by omega, by omega, de_step k0 kq (by rw [a1, a2]; exact hne)⟩, by simp only [rv43]; omega, ⟨rfl, rfl, rfl, trivial⟩, hh⟩)⟩⟩
    exact hds_dup (xs := ss) (a := i.toNat) (b := k.toNat) (by omega) (by omega) (by rw [a1, a2]; exact he) (List.nodup_append.1 hn).2.1
  have d2 : dfQ ss ss.length := fun a b h1 h2 => iq a b h1 (by omega)
  have nd : (hds es ++ hds ss).Nodup := by
    refine List.nodup_append.2 ⟨hds_nd d1, hds_nd d2, fun a ha b hb => ?_⟩
    obtain ⟨q, hq, ea⟩ := List.mem_iff_getElem.1 ha
    obtain ⟨r, hr, eb⟩ := List.mem_iff_getElem.1 hb
    rw [hds_at] at ea eb
    rw [lh] at hq hr
    have p1 := any_at h7 hq
    have p2 := any_at h8 hr
    obtain ⟨c, e, w, sc, l, q1, _⟩ := he.fr q hq
    obtain ⟨c2, cs, q2, _⟩ := hs.fr r hr
    unfold hdAt at ea eb
    rw [q1] at p1 ea
    rw [q2] at p2 eb
    have p1 : (!(okC e && enV c w sc l)) = false := p1
    have p2 : (!(decide (knd c2 = 2) && !(cs.any k0P))) = false := p2
    simp only [Bool.not_eq_false', Bool.and_eq_true, decide_eq_true_eq] at p1 p2
    have k1 := (enV_iff.1 p1.2).1
    have k2 := p2.1
    have ea : c = a := ea
    have eb : c2 = b := eb
    subst ea eb
    intro e
    subst e
    omega
  have e5 : ¬ twB es ss = true := fun h => (twB_iff es ss).1 h nd
  unfold vaE; rw [if_neg e1, if_neg e2, if_neg e3, if_neg e4, if_neg e5]
def rvalidate_S (vaE : List (List AV) → List (List AV) → Int → Int) (iL : Int → ByteArray) (inLo : Int → Int) (inHi : Int → Int) (inD : Int → Int) (inE : Int → Int) (enV : Int → Int → Int → Int → Bool) (knd : Int → Int) : Prop := ∀ (es ss : List (List AV)) (v : Int) (f g : Bool), EnsP es ∧ SqsP ss → fnK Tryd.prog { glob := glb, spec := lk [(29, (rdesc_s iL inLo inHi inD inE)), (39, (rvalidE_s enV)), (40, (tkind_s knd))], specH := lk [], shape := [45, 61, 80, 97, 107, 119, 122, 145, 151, 170, 176], slz := [(45, [1]), (107, [1]), (119, [1])], nowf := true } { nt := 178, drop := drp [(1, 4161536), (3, 4286578688), (6, 128849018880), (7, 824633720832), (8, 139637976727552), (11, 4222124650659840), (12, 27021597764222976), (13, 36857459350400139296), (14, 36893488147419103232), (18, 2213609288845146193920), (19, 14167099448608935641088), (20, 9652517090985554816794624), (22, 145071098353755500964741120), (23, 928455029464035206174343168), (24, 2534063260417173422718507286528), (26, 646501806116396994763318634741760), (27, 3894222643901120721397872246915072), (28, 85065399433376081038215121361612832768), (29, 85070591730234615865843651857942052864), (32, 5104235503814076951950619111476523171840), (33, 32667107224410092492483962313449748299776), (35, 130668428897640369969935849253798993199104), (36, 1045347431181122959759486794030391945592832), (37, 5707596974248931360286797895405940022936862720), (40, 171269723124715185726994316333939416365929594880), (41, 1096126227998177188652763624537212264741949407232), (43, 4384504911992708754611054498148849058967797628928), (44, 35076039295941670036888435985190792471742381031424), (45, 191515174555841518401410860479141726895713400431575040)] } (rvJ es ss v f g) 6 Tryd.f22 [.agg [.int .i64 v, .sl 5 f es, .sl 2 g ss]] (.int .i64 (vaE es ss v))
set_option maxRecDepth 100000 in
theorem rvalidate_e (vaE : List (List AV) → List (List AV) → Int → Int) (iL : Int → ByteArray) (inLo : Int → Int) (inHi : Int → Int) (inD : Int → Int) (inE : Int → Int) (enV : Int → Int → Int → Int → Bool) (knd : Int → Int) : rvalidate_T vaE iL inLo inHi inD inE enV knd = rvalidate_S vaE iL inLo inHi inD inE enV knd := by kernel_rfl
theorem rvalidate_v : rvalidate_S vaE iL inLo inHi inD inE enV knd := @Eq.mp (rvalidate_T vaE iL inLo inHi inD inE enV knd) (rvalidate_S vaE iL inLo inHi inD inE enV knd) (rvalidate_e vaE iL inLo inHi inD inE enV knd) (rvalidate_P)
theorem rvalidate_ok : SOK Tryd.prog glb 22 (rvalidate_s vaE) := by
  refine ⟨fok Tryd.func22 (by kernel_rfl) (by kernel_rfl), ?_⟩
  intro xs pre r h hp
  unfold rvalidate_s at h
  split at h
  · simp only [Option.some.injEq, Prod.mk.injEq] at h
    obtain ⟨h1, h2⟩ := h
    subst h1 h2
    exact fnK_sound tyNil (by exact specOK rfl rfl ⟨(rdesc_ok glb), (rvalidE_ok glb), (tkind_ok glb), trivial⟩ trivial) (by kernel_rfl) Tryd.func22 rfl (rvalidate_v  _ _ _ _ _ hp)
  · cases h
end Go.Proofs.YthdfkiopppkfcaaDoor
