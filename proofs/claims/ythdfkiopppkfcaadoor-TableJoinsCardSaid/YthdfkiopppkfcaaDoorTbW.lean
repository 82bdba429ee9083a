/- The law of joins. -/
import Derived.Test.YthdfkiopppkfcaaDoorTbU
import Derived.Test.YthdfkiopppkfcaaDoorTbZ
import Derived.Test.YthdfkiopppkfcaaDoorTbK
namespace Go.Proofs.YthdfkiopppkfcaaDoor
open Go
set_option linter.unusedVariables false
set_option linter.unusedSimpArgs false

structure MnP (n : Int) (c : LLA) (x : Int × LLA) : Prop where
  flo : 0 ≤ x.1
  fhi : x.1 ≤ n
  fr : x.2 = repC x.1.toNat c
def mnI (es ss c xs : LLA) (n j : Int) : LInv := ⟨Int × LLA, fun x => ⟨[(3, .ptr 24 0), (4, .ptr 4 0), (13, .sl 1 false c), (14, .int .i64 n), (15, .rw 500 1 x.2.length), (16, .int .i64 x.1)], [(24, .cells [.sl 1 false xs, .int .i64 j]), (4, .cells [.int .i64 1, .sl 5 false es, .sl 2 false ss]), (500, .row 3 1 x.2)]⟩, MnP n c, fun x => (n - x.1).toNat, none⟩
structure JnP (x : Unit) : Prop where
  ft : True
def jnI (es ss xs : LLA) (j : Int) : LInv := ⟨Unit, fun _ => ⟨[(3, .ptr 24 0), (4, .ptr 4 0)], [(24, .cells [.sl 1 false xs, .int .i64 j]), (4, .cells [.int .i64 1, .sl 5 false es, .sl 2 false ss])]⟩, JnP, fun _ => 0, none⟩
def mnJ (id : Nat) (st : St) : Option LInv := cond (Nat.beq id 100011) (match lk st.heap 24, lk st.heap 4 with
  | some (.cells [.sl _ _ xs, .int _ j]), some (.cells [_, .sl _ _ es, .sl _ _ ss]) => some (jnI es ss xs j)
  | _, _ => none) (match lk st.tmps 13, lk st.tmps 14, lk st.heap 24, lk st.heap 4 with
  | some (.sl _ _ c), some (.int _ n), some (.cells [.sl _ _ xs, .int _ j]), some (.cells [_, .sl _ _ es, .sl _ _ ss]) => cond (Nat.beq id 17) (some (mnI es ss c xs n j)) none
  | _, _, _, _ => none)
theorem exO_len {es ss cs : LLA} {v : Int} (he : EnsP es) (hs : SqsP ss) (hc : CdsP cs) : (exO es ss v cs).length ≤ 60 := by
  unfold exO
  split
  · have ok : OkR 0 (exR es ss cs) := alR_ok es ss 501 cs 0 [] 0 ⟨he, hs, by simp, by decide, by decide, by decide, by decide⟩ hc
    exact ok.fo
  · simp
theorem ens_app {a b : LLA} (ha : EnsP a) (hb : EnsP b) (hl : a.length + b.length ≤ 1000) : EnsP (a ++ b) := ⟨fun i hi => by
  rw [List.length_append] at hi
  by_cases q : i < a.length
  · rw [List.getD_eq_getElem?_getD, List.getElem?_append_left q, ← List.getD_eq_getElem?_getD]; exact ha.fr i q
  · rw [List.getD_eq_getElem?_getD, List.getElem?_append_right (by omega), ← List.getD_eq_getElem?_getD]; exact hb.fr _ (by omega), by rw [List.length_append]; omega⟩
theorem cds_app {a b : LLA} (ha : CdsP a) (hb : CdsP b) (hl : a.length + b.length ≤ 1000) : CdsP (a ++ b) := ⟨fun i hi => by
  rw [List.length_append] at hi
  by_cases q : i < a.length
  · rw [List.getD_eq_getElem?_getD, List.getElem?_append_left q, ← List.getD_eq_getElem?_getD]; exact ha.fr i q
  · rw [List.getD_eq_getElem?_getD, List.getElem?_append_right (by omega), ← List.getD_eq_getElem?_getD]; exact hb.fr _ (by omega), by rw [List.length_append]; omega⟩
theorem cds_rep {c : LLA} (hc : CdsP c) (hl : c.length ≤ 3) : ∀ n, n ≤ 3 → CdsP (repC n c)
  | 0, _ => CdsP.nil
  | n + 1, h => by
    refine cds_app hc (cds_rep hc hl n (by omega)) ?_
    rw [repC_len]
    have : n * c.length ≤ 3 * 3 := Nat.mul_le_mul (by omega) hl
    omega
def ljoin_s : Sp
  | [.sl 1 false xs] => some (IntsA xs, .bool true)
  | _ => none
set_option maxRecDepth 100000 in
def ljoin_T (exO : LLA → LLA → Int → LLA → LLA) (exE : LLA → LLA → Int → LLA → Int) (sameE : List (List AV) → List (List AV) → Bool) : Prop :=
  ∀ (xs : List (List AV)), (∀ (x : List AV), List.Mem x xs → ∃ n, x = [AV.int IntKind.i64 n] ∧ rng IntKind.i64 n) → True → True ∧ SrcQ (List.take (2000 : Nat) xs) (0 : Int) ∧ ∀ (es
  ss : List (List AV)) (j : Int), TabQ es ss j → (SrcQ (List.take (2000 : Nat) xs) j ∧ (0 : Int) ≤ (4 : Int) ∧ (4 : Int) ≤ (100 : Int)) ∧ ∀ (cs : List (List AV)) (j : Int), CsQ (4 :
  Int) cs j → (SrcQ (List.take (2000 : Nat) xs) j ∧ (0 : Int) ≤ (4 : Int) ∧ (4 : Int) ≤ (100 : Int)) ∧ ∀ (cs_1 : List (List AV)) (j : Int), CsQ (4 : Int) cs_1 j → ((EnsP es ∧ SqsP
  ss) ∧ CdsP cs) ∧ ((EnsP es ∧ SqsP ss) ∧ CdsP cs_1) ∧ bif decide ((0 : Nat) = (0 : Nat) ∧ (0 : Nat) + cs.length ≤ (9223372036854775807 : Nat) ∧ ((0 : Nat) + cs.length) * (8 : Nat) ≤
  (140737488355328 : Nat)) then bif decide (([] ++ cs).length = ([] ++ cs).length ∧ ([] ++ cs).length + cs_1.length ≤ (9223372036854775807 : Nat) ∧ (([] ++ cs).length + cs_1.length)
  * (8 : Nat) ≤ (140737488355328 : Nat)) then bif decide (([] ++ cs ++ cs_1).length = ([] ++ cs ++ cs_1).length) then ((EnsP es ∧ SqsP ss) ∧ CdsP ([] ++ cs ++ cs_1)) ∧ bif decide
  (exE es ss (1 : Int) cs = (0 : Int)) then bif decide (exE es ss (1 : Int) cs_1 = (0 : Int)) then bif decide (exE es ss (1 : Int) ([] ++ cs ++ cs_1) = (0 : Int)) then bif decide ((0
  : Nat) = (0 : Nat) ∧ (0 : Nat) + List.length (exO es ss (1 : Int) cs) ≤ (9223372036854775807 : Nat) ∧ ((0 : Nat) + List.length (exO es ss (1 : Int) cs)) * (40 : Nat) ≤
  (140737488355328 : Nat)) then bif decide (([] ++ exO es ss (1 : Int) cs).length = ([] ++ exO es ss (1 : Int) cs).length ∧ ([] ++ exO es ss (1 : Int) cs).length + List.length (exO
  es ss (1 : Int) cs_1) ≤ (9223372036854775807 : Nat) ∧ (([] ++ exO es ss (1 : Int) cs).length + List.length (exO es ss (1 : Int) cs_1)) * (40 : Nat) ≤ (140737488355328 : Nat)) then
  bif decide (([] ++ exO es ss (1 : Int) cs ++ exO es ss (1 : Int) cs_1).length = ([] ++ exO es ss (1 : Int) cs ++ exO es ss (1 : Int) cs_1).length) then (EnsP (exO es ss (1 : Int)
  ([] ++ cs ++ cs_1)) ∧ EnsP ([] ++ exO es ss (1 : Int) cs ++ exO es ss (1 : Int) cs_1)) ∧ bif !sameE (exO es ss (1 : Int) ([] ++ cs ++ cs_1)) ([] ++ exO es ss (1 : Int) cs ++ exO es
  ss (1 : Int) cs_1) then false = true else (bif decide (exE es ss (1 : Int) cs = (0 : Int)) then bif decide ¬exE es ss (1 : Int) cs_1 = (0 : Int) then bif decide (exE es ss (1 :
  Int) ([] ++ cs ++ cs_1) = (0 : Int)) then false = true else ∃ x, JnP x ∧ ((0 : Nat) = (0 : Nat) ∧ (0 : Nat) = (0 : Nat) ∧ True) ∧ ((True ∧ List.take (2000 : Nat) xs = List.take
  (2000 : Nat) xs) ∧ j = j ∧ True) ∧ ((1 : Int) = (1 : Int) ∧ (True ∧ es = es) ∧ (True ∧ ss = ss) ∧ True) ∧ True else ∃ x, JnP x ∧ ((0 : Nat) = (0 : Nat) ∧ (0 : Nat) = (0 : Nat) ∧
  True) ∧ ((True ∧ List.take (2000 : Nat) xs = List.take (2000 : Nat) xs) ∧ j = j ∧ True) ∧ ((1 : Int) = (1 : Int) ∧ (True ∧ es = es) ∧ (True ∧ ss = ss) ∧ True) ∧ True else ∃ x, JnP
  x ∧ ((0 : Nat) = (0 : Nat) ∧ (0 : Nat) = (0 : Nat) ∧ True) ∧ ((True ∧ List.take (2000 : Nat) xs = List.take (2000 : Nat) xs) ∧ j = j ∧ True) ∧ ((1 : Int) = (1 : Int) ∧ (True ∧ es =
  es) ∧ (True ∧ ss = ss) ∧ True) ∧ True) ∧ ∀ (x : PUnit), JnP x → (SrcQ (List.take (2000 : Nat) xs) j ∧ (0 : Int) ≤ (3 : Int) ∧ (3 : Int) ≤ (100 : Int)) ∧ ∀ (cs : List (List AV)) (j
  : Int), CsQ (3 : Int) cs j → (SrcQ (List.take (2000 : Nat) xs) j ∧ (1 : Int) ≤ (3 : Int) ∧ (-1000000000 : Int) ≤ (1 : Int) ∧ (3 : Int) ≤ (1000000000 : Int)) ∧ ∀ (v j : Int), ((1 :
  Int) ≤ v ∧ v ≤ (3 : Int)) ∧ (0 : Int) ≤ j → bif decide ((↑cs.length : Int) = (0 : Int)) then True ∧ true = true else (∃ x, MnP v cs x ∧ ((0 : Nat) = (0 : Nat) ∧ (0 : Nat) = (0 :
  Nat) ∧ (True ∧ cs = cs) ∧ v = v ∧ (0 : Nat) = List.length x.snd ∧ (0 : Int) = x.fst ∧ True) ∧ ((True ∧ List.take (2000 : Nat) xs = List.take (2000 : Nat) xs) ∧ j = j ∧ True) ∧ ((1
  : Int) = (1 : Int) ∧ (True ∧ es = es) ∧ (True ∧ ss = ss) ∧ True) ∧ [] = x.snd ∧ True) ∧ ∀ (x : Int × LLA), MnP v cs x → bif decide (x.fst < v) then bif decide (List.length x.snd =
  List.length x.snd ∧ List.length x.snd + cs.length ≤ (9223372036854775807 : Nat) ∧ (List.length x.snd + cs.length) * (8 : Nat) ≤ (140737488355328 : Nat)) then bif decide (rng
  IntKind.i64 (x.fst + (1 : Int))) then ∃ y, MnP v cs y ∧ (mnI es ss cs (List.take (2000 : Nat) xs) v j).m y < (mnI es ss cs (List.take (2000 : Nat) xs) v j).m x ∧ ((0 : Nat) = (0 :
  Nat) ∧ (0 : Nat) = (0 : Nat) ∧ (True ∧ cs = cs) ∧ v = v ∧ (x.snd ++ cs).length = List.length y.snd ∧ x.fst + (1 : Int) = y.fst ∧ True) ∧ ((True ∧ List.take (2000 : Nat) xs =
  List.take (2000 : Nat) xs) ∧ j = j ∧ True) ∧ ((1 : Int) = (1 : Int) ∧ (True ∧ es = es) ∧ (True ∧ ss = ss) ∧ True) ∧ x.snd ++ cs = y.snd ∧ True else False else False else bif decide
  (rng IntKind.i64 ((100 : Int) * (↑cs.length : Int))) then bif decide (rng IntKind.i64 ((20000 : Int) + (100 : Int) * (↑cs.length : Int))) then bif decide (rng IntKind.i64 ((20000 :
  Int) + (100 : Int) * (↑cs.length : Int) + v)) then bif decide ((1 : Nat) = [[AV.int IntKind.i64 ((20000 : Int) + (100 : Int) * (↑cs.length : Int) + v)]].length ∧ [[AV.int
  IntKind.i64 ((20000 : Int) + (100 : Int) * (↑cs.length : Int) + v)]].length + cs.length ≤ (9223372036854775807 : Nat) ∧ ([[AV.int IntKind.i64 ((20000 : Int) + (100 : Int) *
  (↑cs.length : Int) + v)]].length + cs.length) * (8 : Nat) ≤ (140737488355328 : Nat)) then bif decide (([[AV.int IntKind.i64 ((20000 : Int) + (100 : Int) * (↑cs.length : Int) + v)]]
  ++ cs).length = ([[AV.int IntKind.i64 ((20000 : Int) + (100 : Int) * (↑cs.length : Int) + v)]] ++ cs).length) then ((EnsP es ∧ SqsP ss) ∧ CdsP ([[AV.int IntKind.i64 ((20000 : Int)
  + (100 : Int) * (↑cs.length : Int) + v)]] ++ cs)) ∧ bif decide (List.length x.snd = List.length x.snd) then ((EnsP es ∧ SqsP ss) ∧ CdsP x.snd) ∧ ((EnsP es ∧ SqsP ss) ∧ CdsP cs) ∧
  bif decide ¬exE es ss (1 : Int) cs = (0 : Int) then bif decide ¬exE es ss (1 : Int) ([[AV.int IntKind.i64 ((20000 : Int) + (100 : Int) * (↑cs.length : Int) + v)]] ++ cs) = (0 :
  Int) then True ∧ true = true else false = true else bif decide (exE es ss (1 : Int) ([[AV.int IntKind.i64 ((20000 : Int) + (100 : Int) * (↑cs.length : Int) + v)]] ++ cs) = (2 :
  Int)) then True ∧ true = true else bif decide (exE es ss (1 : Int) x.snd = (2 : Int)) then True ∧ true = true else bif decide (exE es ss (1 : Int) ([[AV.int IntKind.i64 ((20000 :
  Int) + (100 : Int) * (↑cs.length : Int) + v)]] ++ cs) = exE es ss (1 : Int) x.snd) then (EnsP (exO es ss (1 : Int) ([[AV.int IntKind.i64 ((20000 : Int) + (100 : Int) * (↑cs.length
  : Int) + v)]] ++ cs)) ∧ EnsP (exO es ss (1 : Int) x.snd)) ∧ bif sameE (exO es ss (1 : Int) ([[AV.int IntKind.i64 ((20000 : Int) + (100 : Int) * (↑cs.length : Int) + v)]] ++ cs))
  (exO es ss (1 : Int) x.snd) then True ∧ true = true else false = true else false = true else False else False else False else False else False else False else False else False else
  False else (bif decide (exE es ss (1 : Int) cs = (0 : Int)) then bif decide ¬exE es ss (1 : Int) cs_1 = (0 : Int) then bif decide (exE es ss (1 : Int) ([] ++ cs ++ cs_1) = (0 :
  Int)) then false = true else ∃ x, JnP x ∧ ((0 : Nat) = (0 : Nat) ∧ (0 : Nat) = (0 : Nat) ∧ True) ∧ ((True ∧ List.take (2000 : Nat) xs = List.take (2000 : Nat) xs) ∧ j = j ∧ True) ∧
  ((1 : Int) = (1 : Int) ∧ (True ∧ es = es) ∧ (True ∧ ss = ss) ∧ True) ∧ True else ∃ x, JnP x ∧ ((0 : Nat) = (0 : Nat) ∧ (0 : Nat) = (0 : Nat) ∧ True) ∧ ((True ∧ List.take (2000 :
  Nat) xs = List.take (2000 : Nat) xs) ∧ j = j ∧ True) ∧ ((1 : Int) = (1 : Int) ∧ (True ∧ es = es) ∧ (True ∧ ss = ss) ∧ True) ∧ True else ∃ x, JnP x ∧ ((0 : Nat) = (0 : Nat) ∧ (0 :
  Nat) = (0 : Nat) ∧ True) ∧ ((True ∧ List.take (2000 : Nat) xs = List.take (2000 : Nat) xs) ∧ j = j ∧ True) ∧ ((1 : Int) = (1 : Int) ∧ (True ∧ es = es) ∧ (True ∧ ss = ss) ∧ True) ∧
  True) ∧ ∀ (x : PUnit), JnP x → (SrcQ (List.take (2000 : Nat) xs) j ∧ (0 : Int) ≤ (3 : Int) ∧ (3 : Int) ≤ (100 : Int)) ∧ ∀ (cs : List (List AV)) (j : Int), CsQ (3 : Int) cs j →
  (SrcQ (List.take (2000 : Nat) xs) j ∧ (1 : Int) ≤ (3 : Int) ∧ (-1000000000 : Int) ≤ (1 : Int) ∧ (3 : Int) ≤ (1000000000 : Int)) ∧ ∀ (v j : Int), ((1 : Int) ≤ v ∧ v ≤ (3 : Int)) ∧
  (0 : Int) ≤ j → bif decide ((↑cs.length : Int) = (0 : Int)) then True ∧ true = true else (∃ x, MnP v cs x ∧ ((0 : Nat) = (0 : Nat) ∧ (0 : Nat) = (0 : Nat) ∧ (True ∧ cs = cs) ∧ v =
  v ∧ (0 : Nat) = List.length x.snd ∧ (0 : Int) = x.fst ∧ True) ∧ ((True ∧ List.take (2000 : Nat) xs = List.take (2000 : Nat) xs) ∧ j = j ∧ True) ∧ ((1 : Int) = (1 : Int) ∧ (True ∧
  es = es) ∧ (True ∧ ss = ss) ∧ True) ∧ [] = x.snd ∧ True) ∧ ∀ (x : Int × LLA), MnP v cs x → bif decide (x.fst < v) then bif decide (List.length x.snd = List.length x.snd ∧
  List.length x.snd + cs.length ≤ (9223372036854775807 : Nat) ∧ (List.length x.snd + cs.length) * (8 : Nat) ≤ (140737488355328 : Nat)) then bif decide (rng IntKind.i64 (x.fst + (1 :
  Int))) then ∃ y, MnP v cs y ∧ (mnI es ss cs (List.take (2000 : Nat) xs) v j).m y < (mnI es ss cs (List.take (2000 : Nat) xs) v j).m x ∧ ((0 : Nat) = (0 : Nat) ∧ (0 : Nat) = (0 :
  Nat) ∧ (True ∧ cs = cs) ∧ v = v ∧ (x.snd ++ cs).length = List.length y.snd ∧ x.fst + (1 : Int) = y.fst ∧ True) ∧ ((True ∧ List.take (2000 : Nat) xs = List.take (2000 : Nat) xs) ∧ j
  = j ∧ True) ∧ ((1 : Int) = (1 : Int) ∧ (True ∧ es = es) ∧ (True ∧ ss = ss) ∧ True) ∧ x.snd ++ cs = y.snd ∧ True else False else False else bif decide (rng IntKind.i64 ((100 : Int)
  * (↑cs.length : Int))) then bif decide (rng IntKind.i64 ((20000 : Int) + (100 : Int) * (↑cs.length : Int))) then bif decide (rng IntKind.i64 ((20000 : Int) + (100 : Int) *
  (↑cs.length : Int) + v)) then bif decide ((1 : Nat) = [[AV.int IntKind.i64 ((20000 : Int) + (100 : Int) * (↑cs.length : Int) + v)]].length ∧ [[AV.int IntKind.i64 ((20000 : Int) +
  (100 : Int) * (↑cs.length : Int) + v)]].length + cs.length ≤ (9223372036854775807 : Nat) ∧ ([[AV.int IntKind.i64 ((20000 : Int) + (100 : Int) * (↑cs.length : Int) + v)]].length +
  cs.length) * (8 : Nat) ≤ (140737488355328 : Nat)) then bif decide (([[AV.int IntKind.i64 ((20000 : Int) + (100 : Int) * (↑cs.length : Int) + v)]] ++ cs).length = ([[AV.int
  IntKind.i64 ((20000 : Int) + (100 : Int) * (↑cs.length : Int) + v)]] ++ cs).length) then ((EnsP es ∧ SqsP ss) ∧ CdsP ([[AV.int IntKind.i64 ((20000 : Int) + (100 : Int) *
  (↑cs.length : Int) + v)]] ++ cs)) ∧ bif decide (List.length x.snd = List.length x.snd) then ((EnsP es ∧ SqsP ss) ∧ CdsP x.snd) ∧ ((EnsP es ∧ SqsP ss) ∧ CdsP cs) ∧ bif decide ¬exE
  es ss (1 : Int) cs = (0 : Int) then bif decide ¬exE es ss (1 : Int) ([[AV.int IntKind.i64 ((20000 : Int) + (100 : Int) * (↑cs.length : Int) + v)]] ++ cs) = (0 : Int) then True ∧
  true = true else false = true else bif decide (exE es ss (1 : Int) ([[AV.int IntKind.i64 ((20000 : Int) + (100 : Int) * (↑cs.length : Int) + v)]] ++ cs) = (2 : Int)) then True ∧
  true = true else bif decide (exE es ss (1 : Int) x.snd = (2 : Int)) then True ∧ true = true else bif decide (exE es ss (1 : Int) ([[AV.int IntKind.i64 ((20000 : Int) + (100 : Int)
  * (↑cs.length : Int) + v)]] ++ cs) = exE es ss (1 : Int) x.snd) then (EnsP (exO es ss (1 : Int) ([[AV.int IntKind.i64 ((20000 : Int) + (100 : Int) * (↑cs.length : Int) + v)]] ++
  cs)) ∧ EnsP (exO es ss (1 : Int) x.snd)) ∧ bif sameE (exO es ss (1 : Int) ([[AV.int IntKind.i64 ((20000 : Int) + (100 : Int) * (↑cs.length : Int) + v)]] ++ cs)) (exO es ss (1 :
  Int) x.snd) then True ∧ true = true else false = true else false = true else False else False else False else False else False else False else (bif decide (exE es ss (1 : Int) cs =
  (0 : Int)) then bif decide ¬exE es ss (1 : Int) cs_1 = (0 : Int) then bif decide (exE es ss (1 : Int) ([] ++ cs ++ cs_1) = (0 : Int)) then false = true else ∃ x, JnP x ∧ ((0 : Nat)
  = (0 : Nat) ∧ (0 : Nat) = (0 : Nat) ∧ True) ∧ ((True ∧ List.take (2000 : Nat) xs = List.take (2000 : Nat) xs) ∧ j = j ∧ True) ∧ ((1 : Int) = (1 : Int) ∧ (True ∧ es = es) ∧ (True ∧
  ss = ss) ∧ True) ∧ True else ∃ x, JnP x ∧ ((0 : Nat) = (0 : Nat) ∧ (0 : Nat) = (0 : Nat) ∧ True) ∧ ((True ∧ List.take (2000 : Nat) xs = List.take (2000 : Nat) xs) ∧ j = j ∧ True) ∧
  ((1 : Int) = (1 : Int) ∧ (True ∧ es = es) ∧ (True ∧ ss = ss) ∧ True) ∧ True else ∃ x, JnP x ∧ ((0 : Nat) = (0 : Nat) ∧ (0 : Nat) = (0 : Nat) ∧ True) ∧ ((True ∧ List.take (2000 :
  Nat) xs = List.take (2000 : Nat) xs) ∧ j = j ∧ True) ∧ ((1 : Int) = (1 : Int) ∧ (True ∧ es = es) ∧ (True ∧ ss = ss) ∧ True) ∧ True) ∧ ∀ (x : PUnit), JnP x → (SrcQ (List.take (2000
  : Nat) xs) j ∧ (0 : Int) ≤ (3 : Int) ∧ (3 : Int) ≤ (100 : Int)) ∧ ∀ (cs : List (List AV)) (j : Int), CsQ (3 : Int) cs j → (SrcQ (List.take (2000 : Nat) xs) j ∧ (1 : Int) ≤ (3 :
  Int) ∧ (-1000000000 : Int) ≤ (1 : Int) ∧ (3 : Int) ≤ (1000000000 : Int)) ∧ ∀ (v j : Int), ((1 : Int) ≤ v ∧ v ≤ (3 : Int)) ∧ (0 : Int) ≤ j → bif decide ((↑cs.length : Int) = (0 :
  Int)) then True ∧ true = true else (∃ x, MnP v cs x ∧ ((0 : Nat) = (0 : Nat) ∧ (0 : Nat) = (0 : Nat) ∧ (True ∧ cs = cs) ∧ v = v ∧ (0 : Nat) = List.length x.snd ∧ (0 : Int) = x.fst
  ∧ True) ∧ ((True ∧ List.take (2000 : Nat) xs = List.take (2000 : Nat) xs) ∧ j = j ∧ True) ∧ ((1 : Int) = (1 : Int) ∧ (True ∧ es = es) ∧ (True ∧ ss = ss) ∧ True) ∧ [] = x.snd ∧
  True) ∧ ∀ (x : Int × LLA), MnP v cs x → bif decide (x.fst < v) then bif decide (List.length x.snd = List.length x.snd ∧ List.length x.snd + cs.length ≤ (9223372036854775807 : Nat)
  ∧ (List.length x.snd + cs.length) * (8 : Nat) ≤ (140737488355328 : Nat)) then bif decide (rng IntKind.i64 (x.fst + (1 : Int))) then ∃ y, MnP v cs y ∧ (mnI es ss cs (List.take (2000
  : Nat) xs) v j).m y < (mnI es ss cs (List.take (2000 : Nat) xs) v j).m x ∧ ((0 : Nat) = (0 : Nat) ∧ (0 : Nat) = (0 : Nat) ∧ (True ∧ cs = cs) ∧ v = v ∧ (x.snd ++ cs).length =
  List.length y.snd ∧ x.fst + (1 : Int) = y.fst ∧ True) ∧ ((True ∧ List.take (2000 : Nat) xs = List.take (2000 : Nat) xs) ∧ j = j ∧ True) ∧ ((1 : Int) = (1 : Int) ∧ (True ∧ es = es)
  ∧ (True ∧ ss = ss) ∧ True) ∧ x.snd ++ cs = y.snd ∧ True else False else False else bif decide (rng IntKind.i64 ((100 : Int) * (↑cs.length : Int))) then bif decide (rng IntKind.i64
  ((20000 : Int) + (100 : Int) * (↑cs.length : Int))) then bif decide (rng IntKind.i64 ((20000 : Int) + (100 : Int) * (↑cs.length : Int) + v)) then bif decide ((1 : Nat) = [[AV.int
  IntKind.i64 ((20000 : Int) + (100 : Int) * (↑cs.length : Int) + v)]].length ∧ [[AV.int IntKind.i64 ((20000 : Int) + (100 : Int) * (↑cs.length : Int) + v)]].length + cs.length ≤
  (9223372036854775807 : Nat) ∧ ([[AV.int IntKind.i64 ((20000 : Int) + (100 : Int) * (↑cs.length : Int) + v)]].length + cs.length) * (8 : Nat) ≤ (140737488355328 : Nat)) then bif
  decide (([[AV.int IntKind.i64 ((20000 : Int) + (100 : Int) * (↑cs.length : Int) + v)]] ++ cs).length = ([[AV.int IntKind.i64 ((20000 : Int) + (100 : Int) * (↑cs.length : Int) +
  v)]] ++ cs).length) then ((EnsP es ∧ SqsP ss) ∧ CdsP ([[AV.int IntKind.i64 ((20000 : Int) + (100 : Int) * (↑cs.length : Int) + v)]] ++ cs)) ∧ bif decide (List.length x.snd =
  List.length x.snd) then ((EnsP es ∧ SqsP ss) ∧ CdsP x.snd) ∧ ((EnsP es ∧ SqsP ss) ∧ CdsP cs) ∧ bif decide ¬exE es ss (1 : Int) cs = (0 : Int) then bif decide ¬exE es ss (1 : Int)
  ([[AV.int IntKind.i64 ((20000 : Int) + (100 : Int) * (↑cs.length : Int) + v)]] ++ cs) = (0 : Int) then True ∧ true = true else false = true else bif decide (exE es ss (1 : Int)
  ([[AV.int IntKind.i64 ((20000 : Int) + (100 : Int) * (↑cs.length : Int) + v)]] ++ cs) = (2 : Int)) then True ∧ true = true else bif decide (exE es ss (1 : Int) x.snd = (2 : Int))
  then True ∧ true = true else bif decide (exE es ss (1 : Int) ([[AV.int IntKind.i64 ((20000 : Int) + (100 : Int) * (↑cs.length : Int) + v)]] ++ cs) = exE es ss (1 : Int) x.snd) then
  (EnsP (exO es ss (1 : Int) ([[AV.int IntKind.i64 ((20000 : Int) + (100 : Int) * (↑cs.length : Int) + v)]] ++ cs)) ∧ EnsP (exO es ss (1 : Int) x.snd)) ∧ bif sameE (exO es ss (1 :
  Int) ([[AV.int IntKind.i64 ((20000 : Int) + (100 : Int) * (↑cs.length : Int) + v)]] ++ cs)) (exO es ss (1 : Int) x.snd) then True ∧ true = true else false = true else false = true
  else False else False else False else False else False else False else (bif decide (exE es ss (1 : Int) cs = (0 : Int)) then bif decide ¬exE es ss (1 : Int) cs_1 = (0 : Int) then
  bif decide (exE es ss (1 : Int) ([] ++ cs ++ cs_1) = (0 : Int)) then false = true else ∃ x, JnP x ∧ ((0 : Nat) = (0 : Nat) ∧ (0 : Nat) = (0 : Nat) ∧ True) ∧ ((True ∧ List.take
  (2000 : Nat) xs = List.take (2000 : Nat) xs) ∧ j = j ∧ True) ∧ ((1 : Int) = (1 : Int) ∧ (True ∧ es = es) ∧ (True ∧ ss = ss) ∧ True) ∧ True else ∃ x, JnP x ∧ ((0 : Nat) = (0 : Nat)
  ∧ (0 : Nat) = (0 : Nat) ∧ True) ∧ ((True ∧ List.take (2000 : Nat) xs = List.take (2000 : Nat) xs) ∧ j = j ∧ True) ∧ ((1 : Int) = (1 : Int) ∧ (True ∧ es = es) ∧ (True ∧ ss = ss) ∧
  True) ∧ True else ∃ x, JnP x ∧ ((0 : Nat) = (0 : Nat) ∧ (0 : Nat) = (0 : Nat) ∧ True) ∧ ((True ∧ List.take (2000 : Nat) xs = List.take (2000 : Nat) xs) ∧ j = j ∧ True) ∧ ((1 : Int)
  = (1 : Int) ∧ (True ∧ es = es) ∧ (True ∧ ss = ss) ∧ True) ∧ True) ∧ ∀ (x : PUnit), JnP x → (SrcQ (List.take (2000 : Nat) xs) j ∧ (0 : Int) ≤ (3 : Int) ∧ (3 : Int) ≤ (100 : Int)) ∧
  ∀ (cs : List (List AV)) (j : Int), CsQ (3 : Int) cs j → (SrcQ (List.take (2000 : Nat) xs) j ∧ (1 : Int) ≤ (3 : Int) ∧ (-1000000000 : Int) ≤ (1 : Int) ∧ (3 : Int) ≤ (1000000000 :
  Int)) ∧ ∀ (v j : Int), ((1 : Int) ≤ v ∧ v ≤ (3 : Int)) ∧ (0 : Int) ≤ j → bif decide ((↑cs.length : Int) = (0 : Int)) then True ∧ true = true else (∃ x, MnP v cs x ∧ ((0 : Nat) = (0
  : Nat) ∧ (0 : Nat) = (0 : Nat) ∧ (True ∧ cs = cs) ∧ v = v ∧ (0 : Nat) = List.length x.snd ∧ (0 : Int) = x.fst ∧ True) ∧ ((True ∧ List.take (2000 : Nat) xs = List.take (2000 : Nat)
  xs) ∧ j = j ∧ True) ∧ ((1 : Int) = (1 : Int) ∧ (True ∧ es = es) ∧ (True ∧ ss = ss) ∧ True) ∧ [] = x.snd ∧ True) ∧ ∀ (x : Int × LLA), MnP v cs x → bif decide (x.fst < v) then bif
  decide (List.length x.snd = List.length x.snd ∧ List.length x.snd + cs.length ≤ (9223372036854775807 : Nat) ∧ (List.length x.snd + cs.length) * (8 : Nat) ≤ (140737488355328 : Nat))
  then bif decide (rng IntKind.i64 (x.fst + (1 : Int))) then ∃ y, MnP v cs y ∧ (mnI es ss cs (List.take (2000 : Nat) xs) v j).m y < (mnI es ss cs (List.take (2000 : Nat) xs) v j).m x
  ∧ ((0 : Nat) = (0 : Nat) ∧ (0 : Nat) = (0 : Nat) ∧ (True ∧ cs = cs) ∧ v = v ∧ (x.snd ++ cs).length = List.length y.snd ∧ x.fst + (1 : Int) = y.fst ∧ True) ∧ ((True ∧ List.take
  (2000 : Nat) xs = List.take (2000 : Nat) xs) ∧ j = j ∧ True) ∧ ((1 : Int) = (1 : Int) ∧ (True ∧ es = es) ∧ (True ∧ ss = ss) ∧ True) ∧ x.snd ++ cs = y.snd ∧ True else False else
  False else bif decide (rng IntKind.i64 ((100 : Int) * (↑cs.length : Int))) then bif decide (rng IntKind.i64 ((20000 : Int) + (100 : Int) * (↑cs.length : Int))) then bif decide (rng
  IntKind.i64 ((20000 : Int) + (100 : Int) * (↑cs.length : Int) + v)) then bif decide ((1 : Nat) = [[AV.int IntKind.i64 ((20000 : Int) + (100 : Int) * (↑cs.length : Int) +
  v)]].length ∧ [[AV.int IntKind.i64 ((20000 : Int) + (100 : Int) * (↑cs.length : Int) + v)]].length + cs.length ≤ (9223372036854775807 : Nat) ∧ ([[AV.int IntKind.i64 ((20000 : Int)
  + (100 : Int) * (↑cs.length : Int) + v)]].length + cs.length) * (8 : Nat) ≤ (140737488355328 : Nat)) then bif decide (([[AV.int IntKind.i64 ((20000 : Int) + (100 : Int) *
  (↑cs.length : Int) + v)]] ++ cs).length = ([[AV.int IntKind.i64 ((20000 : Int) + (100 : Int) * (↑cs.length : Int) + v)]] ++ cs).length) then ((EnsP es ∧ SqsP ss) ∧ CdsP ([[AV.int
  IntKind.i64 ((20000 : Int) + (100 : Int) * (↑cs.length : Int) + v)]] ++ cs)) ∧ bif decide (List.length x.snd = List.length x.snd) then ((EnsP es ∧ SqsP ss) ∧ CdsP x.snd) ∧ ((EnsP
  es ∧ SqsP ss) ∧ CdsP cs) ∧ bif decide ¬exE es ss (1 : Int) cs = (0 : Int) then bif decide ¬exE es ss (1 : Int) ([[AV.int IntKind.i64 ((20000 : Int) + (100 : Int) * (↑cs.length :
  Int) + v)]] ++ cs) = (0 : Int) then True ∧ true = true else false = true else bif decide (exE es ss (1 : Int) ([[AV.int IntKind.i64 ((20000 : Int) + (100 : Int) * (↑cs.length :
  Int) + v)]] ++ cs) = (2 : Int)) then True ∧ true = true else bif decide (exE es ss (1 : Int) x.snd = (2 : Int)) then True ∧ true = true else bif decide (exE es ss (1 : Int)
  ([[AV.int IntKind.i64 ((20000 : Int) + (100 : Int) * (↑cs.length : Int) + v)]] ++ cs) = exE es ss (1 : Int) x.snd) then (EnsP (exO es ss (1 : Int) ([[AV.int IntKind.i64 ((20000 :
  Int) + (100 : Int) * (↑cs.length : Int) + v)]] ++ cs)) ∧ EnsP (exO es ss (1 : Int) x.snd)) ∧ bif sameE (exO es ss (1 : Int) ([[AV.int IntKind.i64 ((20000 : Int) + (100 : Int) *
  (↑cs.length : Int) + v)]] ++ cs)) (exO es ss (1 : Int) x.snd) then True ∧ true = true else false = true else false = true else False else False else False else False else False
  else False else False else False else False
set_option maxRecDepth 100000 in
theorem ljoin_P : ljoin_T exO exE sameE := by
  unfold ljoin_T
  intro xs hz _
  have hs : SrcI (List.take 2000 xs) := SrcI.take hz
  refine ⟨trivial, ⟨hs, by decide⟩, fun es ss j t => ⟨⟨⟨hs, t.fj⟩, by decide, by decide⟩, fun a j qa => ⟨⟨⟨hs, qa.fj⟩, by decide, by decide⟩, fun b j qb => ?_⟩⟩⟩
  have he := t.fe.ens t.fl
  have hq := t.fs.sqs
  have hv := t.va (v := 1) (by decide) (by decide)
  have ca := qa.fc.cds (by decide)
  have cb := qb.fc.cds (by decide)
  have la := qa.fc.fl
  have lb := qb.fc.fl
  have z : EnsP es ∧ SqsP ss := ⟨he, hq⟩
  have cab := cds_app ca cb (by omega)
  have oa := exO_len (v := 1) he hq ca
  have ob := exO_len (v := 1) he hq cb
  have J := fun h1 h3 => join_rel (b := b) hv he hq ca (by rw [List.length_append]; omega) h1 h3
  have nx : ∃ x : Unit, JnP x ∧ (0 = 0 ∧ 0 = 0 ∧ True) ∧ ((True ∧ List.take 2000 xs = List.take 2000 xs) ∧ j = j ∧ True) ∧ ((1 : Int) = 1 ∧ (True ∧ es = es) ∧ (True ∧ ss = ss) ∧ True) ∧ True := ⟨(), ⟨trivial⟩, by (repeat' (first | exact trivial | exact rfl | assumption | apply And.intro))⟩
  rw [List.nil_append a, List.nil_append (exO es ss 1 a)]
  refine ⟨⟨z, ca⟩, ⟨z, cb⟩, cd1 ⟨rfl, by omega, by omega⟩ (cd1 ⟨rfl, by omega, by omega⟩ (cd1 rfl ⟨⟨z, cab⟩, csx (fun h1 => csx (fun h2 => csx (fun h3 => cd1 ⟨rfl, by omega, by omega⟩ (cd1 ⟨rfl, by omega, by omega⟩ (cd1 rfl ⟨⟨exO_ens he hq cab, ens_app (exO_ens he hq ca) (exO_ens he hq cb) (by omega)⟩, csplit (fun q => ?_) (fun _ => ⟨cd1 h1 (csx (fun q => absurd h2 q) (fun _ => nx)), ?_⟩)⟩))) (fun h3 => ⟨cd1 h1 (csx (fun q => absurd h2 q) (fun _ => nx)), ?_⟩)) (fun h2 => ⟨cd1 h1 (cd1 h2 (csx (fun h3 => absurd (J h1 h3).1 h2) (fun _ => nx))), ?_⟩)) (fun h1 => ⟨cd0 h1 nx, ?_⟩)⟩))⟩
  · rw [(J h1 h3).2, sameE_rfl] at q; cases q
  all_goals
    intro _ _
    refine ⟨⟨⟨hs, qb.fj⟩, by decide, by decide⟩, fun c j qc => ⟨⟨⟨hs, qc.fj⟩, by decide, by decide, by decide⟩, fun v j hvj => ?_⟩⟩
    obtain ⟨⟨v1, v2⟩, hj⟩ := hvj
    have cc := qc.fc.cds (by decide)
    have lc := qc.fc.fl
    obtain ⟨N, rfl⟩ : ∃ N : Nat, v = N := ⟨v.toNat, by omega⟩
    refine csx (fun h0 => ⟨trivial, rfl⟩) (fun h0 => ⟨⟨(0, []), ⟨by simp, by simp only; omega, rfl⟩, by (repeat' (first | exact trivial | exact rfl | assumption | apply And.intro))⟩, ?_⟩)
    rintro ⟨i, l⟩ ⟨i0, i1, il⟩
    simp only at i0 i1 il
    dsimp only
    have ll : l.length ≤ 9 := by rw [il, repC_len]; exact Nat.le_trans (Nat.mul_le_mul (show i.toNat ≤ 3 by omega) (show c.length ≤ 3 by omega)) (by decide)
    refine csx (fun hi => cd1 ⟨rfl, by omega, by omega⟩ (cdI (by omega) ⟨(i + 1, l ++ c), ⟨by simp only; omega, by simp only; omega, by simp only; rw [il, repC_snoc, show (i + 1).toNat = i.toNat + 1 by omega]⟩, by simp only [mnI]; omega, by (repeat' (first | exact trivial | exact rfl | assumption | apply And.intro))⟩)) (fun hi => ?_)
    have el : l = repC N c := by rw [il, show i.toNat = N by omega]
    have R := rep_rel (n := N) hv (show 1 ≤ c.length by omega) (by omega) (by omega) (by omega)
    have ck : CdsP ([[.int .i64 (20000 + 100 * (c.length : Int) + (N : Int))]] ++ c) := cds_app (cds_of [20000 + 100 * (c.length : Int) + (N : Int)] (by intro x hx; simp only [List.mem_cons, List.not_mem_nil, or_false] at hx; subst hx; show _ ∧ _; omega) (by simp)) cc (by simp; omega)
    have cl : CdsP l := by rw [el]; exact cds_rep cc (by omega) N (by omega)
    refine cdI (by omega) (cdI (by omega) (cdI (by omega) (cd1 ⟨rfl, by simp; omega, by simp; omega⟩ (cd1 rfl ⟨⟨z, ck⟩, cd1 rfl ⟨⟨z, cl⟩, ⟨z, cc⟩, csx (fun h => csx (fun _ => ⟨trivial, rfl⟩) (fun h2 => absurd (Decidable.not_not.1 h2) (R.bad h))) (fun h => ?_)⟩⟩))))
    rw [el] at cl ⊢
    rcases R.ok (Decidable.not_not.1 h) with q | ⟨q1, q2⟩
    · exact cd1 q ⟨trivial, rfl⟩
    · refine csx (fun _ => ⟨trivial, rfl⟩) (fun _ => csx (fun _ => ⟨trivial, rfl⟩) (fun _ => cd1 q1.symm ⟨⟨exO_ens he hq ck, exO_ens he hq cl⟩, ?_⟩))
      rw [q2, sameE_rfl]
      exact ⟨trivial, rfl⟩
def ljoin_S (exO : LLA → LLA → Int → LLA → LLA) (exE : LLA → LLA → Int → LLA → Int) (sameE : List (List AV) → List (List AV) → Bool) : Prop := ∀ (xs : List (List AV)), IntsA xs → fnK Tryd.prog { glob := glb, spec := lk [(21, (rexpand_s exO exE)), (18, (texpand_s exO exE)), (19, (tsame_s sameE)), (16, tawake_s)], specH := lk [(8, newsrc_s)], specQ := lk [(9, qtable_s), (17, lcodes_s), (20, qrange_s)], nowf := true } { nt := 150, drop := drp [(1, 25165824), (2, 100663296), (3, 2013265920), (4, 135291469824), (5, 8658654068736), (6, 8998403161718784), (7, 4722357475670390472704), (9, 4826258545492777408397312), (11, 29014219670751100192948224), (12, 116056878683004400771792896), (13, 464227514732017603087171584), (14, 1237940039285380274899124224), (17, 7427640235712281649394745344), (18, 59421121885698253195157962752), (19, 554597137599850363154807652352), (20, 10383959891769541142360244306837504), (21, 654229404175388281194842537481732096), (22, 41870681867224849996469922398830854144), (23, 42535295865117307932921825928971026432), (24, 5274376687274546183682306415192407277568), (25, 168780053992785477877833805286157032882176), (26, 348449143727040986586495598010130648530944), (27, 1426550794418505799085112978253474875085684736)], emp := fun id => cond (Nat.beq id 16) [(15, 500, 3, 1)] [] } (mnJ) 6 Tryd.f4 [.sl 1 false xs] (.bool true)
set_option maxRecDepth 100000 in
theorem ljoin_e (exO : LLA → LLA → Int → LLA → LLA) (exE : LLA → LLA → Int → LLA → Int) (sameE : List (List AV) → List (List AV) → Bool) : ljoin_T exO exE sameE = ljoin_S exO exE sameE := by kernel_rfl
theorem ljoin_v : ljoin_S exO exE sameE := @Eq.mp (ljoin_T exO exE sameE) (ljoin_S exO exE sameE) (ljoin_e exO exE sameE) (ljoin_P)
theorem ljoin_ok : SOK Tryd.prog glb 4 ljoin_s := by
  refine ⟨fok Tryd.func4 (by kernel_rfl) (by kernel_rfl), ?_⟩
  intro xs pre r h hp
  unfold ljoin_s at h
  split at h
  · simp only [Option.some.injEq, Prod.mk.injEq] at h
    obtain ⟨h1, h2⟩ := h
    subst h1 h2
    exact fnK_sound tyNil (by exact specOK rfl rfl ⟨(rexpand_ok), (texpand_ok), (tsame_ok glb), (tawake_ok), trivial⟩ ⟨(newsrc_ok glb), trivial⟩ (d := qsOf rfl ⟨(qtable_ok), (lcodes_ok glb), (qrange_ok glb), trivial⟩)) (by kernel_rfl) Tryd.func4 rfl (ljoin_v  _ hp)
  · cases h
end Go.Proofs.YthdfkiopppkfcaaDoor
