/- The clock: the law of texts. -/
import Derived.Test.YtakmploakbaglaaClU
namespace Go.Proofs.Ytakmploakbaglaa
open Go
set_option linter.unusedVariables false
set_option linter.unusedSimpArgs false

theorem fmt_size {t : Int} (h : inB t = true) : (fmtC t).size = 16 := by
  unfold fmtC; rw [if_pos h, strOf_size, txt_ex]; rfl
theorem bl (l : List Int) : (brow l).length = l.length := by simp [brow]
theorem bset (l : List Int) (k : Nat) (v : Int) : (brow l).set k [.int .u8 v] = brow (l.set k v) := by simp [brow, List.map_set]
def lTxt_s (inB : Int → Bool) (fmtC : Int → ByteArray) (mnV : List (List AV) → Int → Int) (mnA : List (List AV) → Int → Int) (prsM : ByteArray → Int) (prsV : ByteArray → Bool) : Sp
  | [.int .i64 m, .str tx, .sl 1 false zs, .int .i64 a, .int .u8 b] => some (IntsA zs, .bool true)
  | _ => none
set_option maxRecDepth 100000 in
def lTxt_T (inB : Int → Bool) (fmtC : Int → ByteArray) (mnV : List (List AV) → Int → Int) (mnA : List (List AV) → Int → Int) (prsM : ByteArray → Int) (prsV : ByteArray → Bool) (rsV : Int → Int → Int → Int → Int) (rsOk : Int → Int → Int → Int → Bool) : Prop :=
  ∀ (gl : Glob) (m : Int) (tx : ByteArray) (zs : List (List AV)) (a b : Int), (∀ (x : List AV), List.Mem x zs → ∃ n, x = [AV.int IntKind.i64 n] ∧ rng IntKind.i64 n) →
  (-9223372036854775808 : Int) ≤ m ∧ m ≤ (9223372036854775807 : Int) → tx.size.le (9223372036854775807 : Nat) → True → (-9223372036854775808 : Int) ≤ a ∧ a ≤ (9223372036854775807 :
  Int) → (0 : Int) ≤ b ∧ b ≤ (255 : Int) → bif decide ((100 : Int) < (↑tx.size : Int)) then True ∧ true = true else True ∧ True ∧ True ∧ (SrcI (List.take (2000 : Nat) zs) ∧ (0 : Int)
  ≤ (0 : Int)) ∧ True ∧ True ∧ bif decide ((0 : Int) ≤ modZ a (↑(fmtC (mnV (List.take (2000 : Nat) zs) (0 : Int))).size : Int) ∧ modZ a (↑(fmtC (mnV (List.take (2000 : Nat) zs) (0 :
  Int))).size : Int) < (↑(fmtC (mnV (List.take (2000 : Nat) zs) (0 : Int))).size : Int)) then bif decide ((fmtC (mnV (List.take (2000 : Nat) zs) (0 : Int))).size = (brow (strNums
  (fmtC (mnV (List.take (2000 : Nat) zs) (0 : Int))))).length ∧ (modZ a (↑(fmtC (mnV (List.take (2000 : Nat) zs) (0 : Int))).size : Int)).toNat < (brow (strNums (fmtC (mnV (List.take
  (2000 : Nat) zs) (0 : Int))))).length) then ∃ n, List.take [AV.int IntKind.u8 n].length (List.drop (0 : Nat) ((brow (strNums (fmtC (mnV (List.take (2000 : Nat) zs) (0 :
  Int))))).getD (modZ a (↑(fmtC (mnV (List.take (2000 : Nat) zs) (0 : Int))).size : Int)).toNat [])) = [AV.int IntKind.u8 n] ∧ bif decide ((0 : Int) ≤ modZ a (↑(fmtC (mnV (List.take
  (2000 : Nat) zs) (0 : Int))).size : Int) ∧ modZ a (↑(fmtC (mnV (List.take (2000 : Nat) zs) (0 : Int))).size : Int) < (↑(fmtC (mnV (List.take (2000 : Nat) zs) (0 : Int))).size :
  Int)) then bif decide ((fmtC (mnV (List.take (2000 : Nat) zs) (0 : Int))).size = (brow (strNums (fmtC (mnV (List.take (2000 : Nat) zs) (0 : Int))))).length ∧ (modZ a (↑(fmtC (mnV
  (List.take (2000 : Nat) zs) (0 : Int))).size : Int)).toNat < (brow (strNums (fmtC (mnV (List.take (2000 : Nat) zs) (0 : Int))))).length) then bif !decide (fmtC m = fmtC m) then
  false = true else bif decide ¬(if inB m = true then (0 : Int) else (1 : Int)) = if inB m = true then (0 : Int) else (1 : Int) then false = true else bif decide ((fmtC (mnV
  (List.take (2000 : Nat) zs) (0 : Int))).size = (setEl (brow (strNums (fmtC (mnV (List.take (2000 : Nat) zs) (0 : Int))))) (modZ a (↑(fmtC (mnV (List.take (2000 : Nat) zs) (0 :
  Int))).size : Int)).toNat (0 : Nat) [AV.int IntKind.u8 (bits BinOp.xor IntKind.u8 n b)]).length) then ∃ ns, setEl (brow (strNums (fmtC (mnV (List.take (2000 : Nat) zs) (0 :
  Int))))) (modZ a (↑(fmtC (mnV (List.take (2000 : Nat) zs) (0 : Int))).size : Int)).toNat (0 : Nat) [AV.int IntKind.u8 (bits BinOp.xor IntKind.u8 n b)] = brow ns ∧ bif decide
  (ns.length ≤ (9223372036854775807 : Nat)) then bif decide ((fmtC (mnV (List.take (2000 : Nat) zs) (0 : Int))).size + (1 : Nat) ≤ (9223372036854775807 : Nat)) then True ∧ True ∧ bif
  decide ¬prsM tx = prsM tx then false = true else bif decide ¬(if prsV tx = true then (0 : Int) else (3 : Int)) = if prsV tx = true then (0 : Int) else (3 : Int) then false = true
  else True ∧ True ∧ bif decide ¬prsM (fmtC (mnV (List.take (2000 : Nat) zs) (0 : Int))) = prsM (fmtC (mnV (List.take (2000 : Nat) zs) (0 : Int))) then false = true else bif decide
  ¬(if prsV (fmtC (mnV (List.take (2000 : Nat) zs) (0 : Int))) = true then (0 : Int) else (3 : Int)) = if prsV (fmtC (mnV (List.take (2000 : Nat) zs) (0 : Int))) = true then (0 :
  Int) else (3 : Int) then false = true else True ∧ True ∧ bif decide ¬prsM (strOfNums ns) = prsM (strOfNums ns) then false = true else bif decide ¬(if prsV (strOfNums ns) = true
  then (0 : Int) else (3 : Int)) = if prsV (strOfNums ns) = true then (0 : Int) else (3 : Int) then false = true else True ∧ True ∧ bif decide ¬prsM (fmtC (mnV (List.take (2000 :
  Nat) zs) (0 : Int)) ++ { data := #[(32 : UInt8)] }) = prsM (fmtC (mnV (List.take (2000 : Nat) zs) (0 : Int)) ++ { data := #[(32 : UInt8)] }) then false = true else bif decide ¬(if
  prsV (fmtC (mnV (List.take (2000 : Nat) zs) (0 : Int)) ++ { data := #[(32 : UInt8)] }) = true then (0 : Int) else (3 : Int)) = if prsV (fmtC (mnV (List.take (2000 : Nat) zs) (0 :
  Int)) ++ { data := #[(32 : UInt8)] }) = true then (0 : Int) else (3 : Int) then false = true else True ∧ true = true else False else False else False else False else False else
  False else False
set_option maxRecDepth 100000 in
theorem lTxt_P : lTxt_T inB fmtC mnV mnA prsM prsV rsV rsOk := by
  unfold lTxt_T
  intro gl m tx zs a b hz _ _ _ _ _
  have hs : SrcI (List.take 2000 zs) := SrcI.take hz
  generalize List.take 2000 zs = xs at *
  have h1 := mnV_in xs 0
  have hb : inB (mnV xs 0) = true := by simpa [inB] using h1
  have hz := fmt_size hb
  have hl := strNums_len (fmtC (mnV xs 0))
  generalize fmtC (mnV xs 0) = s at *
  have hm := modZ_in a (n := (s.size : Int)) (by omega)
  refine csplit (fun _ => ⟨trivial, rfl⟩) (fun _ => ⟨trivial, trivial, trivial, ⟨hs, by decide⟩, trivial, trivial, ?_⟩)
  generalize modZ a (s.size : Int) = j at *
  have hj : j.toNat < (strNums s).length := by omega
  have hb1 : (brow (strNums s)).getD j.toNat [] = [.int .u8 ((strNums s).getD j.toNat 0)] := by
    rw [List.getD_eq_getElem?_getD, List.getD_eq_getElem?_getD]
    simp [brow, List.getElem?_eq_getElem hj]
  have e2 : ∀ (x : ByteArray) {A : Prop}, A → cond (!decide (x = x)) (false = true) A := fun x {A} a => by rw [decide_eq_true rfl]; exact a
  have e1 : ∀ (x : Int) {A : Prop}, A → cond (decide (¬ x = x)) (false = true) A := fun x {A} a => csplit (fun q => absurd rfl (of_decide_eq_true q)) (fun _ => a)
  refine cd1 hm (cd1 ⟨by rw [bl, hl], by rw [bl]; exact hj⟩ ⟨(strNums s).getD j.toNat 0, by rw [List.drop_zero, hb1]; rfl, cd1 hm (cd1 ⟨by rw [bl, hl], by rw [bl]; exact hj⟩ (e2 _ (e1 _ ?_)))⟩)
  generalize bits BinOp.xor .u8 ((strNums s).getD j.toNat 0) b = v
  rw [setEl_one (by rw [bl]; exact hj) (brow_one _), bset]
  refine cd1 (by rw [bl, List.length_set, hl]) ⟨(strNums s).set j.toNat v, rfl, cd1 (by rw [List.length_set, hl]; omega) (cd1 (by omega) ⟨trivial, trivial, e1 _ (e1 _ ⟨trivial, trivial, e1 _ (e1 _ ⟨trivial, trivial, e1 _ (e1 _ ⟨trivial, trivial, e1 _ (e1 _ ⟨trivial, rfl⟩)⟩)⟩)⟩)⟩)⟩
def lTxt_S (inB : Int → Bool) (fmtC : Int → ByteArray) (mnV : List (List AV) → Int → Int) (mnA : List (List AV) → Int → Int) (prsM : ByteArray → Int) (prsV : ByteArray → Bool) (rsV : Int → Int → Int → Int → Int) (rsOk : Int → Int → Int → Int → Bool) : Prop := ∀ (gl : Glob) (m : Int) (tx : ByteArray) (zs : List (List AV)) (a b : Int), IntsA zs → fnK Try.prog { glob := gl, spec := lk [(25, mod_s), (22, (cFormat_s inB fmtC)), (23, (cParse_s prsM prsV)), (29, (rFormat_s inB fmtC)), (30, (rParse_s prsM prsV)), (21, (cAwake_s fmtC inB prsM prsV rsV rsOk))], specH := lk [(10, newsrc_s), (18, (lMinute_s mnV mnA))], shape := [55, 70], nowf := true } { nt := 99, drop := drp [(1, 100663296), (2, 268435456), (3, 1610612736), (4, 66571993088), (5, 2130303778816), (6, 138538465099776), (7, 422212465065984), (8, 575897802350002176), (9, 73210515542534782976), (11, 9297159013149614014464), (13, 453347182355485940514816), (14, 18738350204026752207945728), (15, 599627206528856070654263296), (16, 78609192494621647456094388224), (18, 158456325028528675187087900672), (19, 316912650057057350374175801344)] } (fun _ _ => none) 6 Try.f7 [.int .i64 m, .str tx, .sl 1 false zs, .int .i64 a, .int .u8 b] (.bool true)
set_option maxRecDepth 100000 in
theorem lTxt_e (inB : Int → Bool) (fmtC : Int → ByteArray) (mnV : List (List AV) → Int → Int) (mnA : List (List AV) → Int → Int) (prsM : ByteArray → Int) (prsV : ByteArray → Bool) (rsV : Int → Int → Int → Int → Int) (rsOk : Int → Int → Int → Int → Bool) : lTxt_T inB fmtC mnV mnA prsM prsV rsV rsOk = lTxt_S inB fmtC mnV mnA prsM prsV rsV rsOk := by kernel_rfl
theorem lTxt_v : lTxt_S inB fmtC mnV mnA prsM prsV rsV rsOk := @Eq.mp (lTxt_T inB fmtC mnV mnA prsM prsV rsV rsOk) (lTxt_S inB fmtC mnV mnA prsM prsV rsV rsOk) (lTxt_e inB fmtC mnV mnA prsM prsV rsV rsOk) lTxt_P
theorem lTxt_ok (gl : Glob) : SOK Try.prog gl 7 (lTxt_s inB fmtC mnV mnA prsM prsV) := by
  refine ⟨fok Try.func7 (by kernel_rfl) (by kernel_rfl), ?_⟩
  intro xs pre r h hp
  unfold lTxt_s at h
  split at h
  · simp only [Option.some.injEq, Prod.mk.injEq] at h
    obtain ⟨h1, h2⟩ := h
    subst h1 h2
    exact fnK_sound tyNil (by exact specOK rfl rfl ⟨mod_ok gl, cFormat_ok gl, cParse_ok gl, rFormat_ok gl, rParse_ok gl, cAwake_ok gl, trivial⟩ ⟨newsrc_ok gl, lMinute_ok gl, trivial⟩) (by kernel_rfl) Try.func7 rfl (lTxt_v gl _ _ _ _ _ hp)
  · cases h
end Go.Proofs.Ytakmploakbaglaa
