/- Bits: the reference's Same. -/
import Derived.Test.YtkbfldgebcpigaaBtH
namespace Go.Proofs.Ytkbfldgebcpigaa
open Go
set_option linter.unusedVariables false
set_option linter.unusedSimpArgs false

theorem strNums_of (l : List Nat) (h : Bytes l) : strNums (strOfNums (l.map fun n : Nat => (n : Int))) = l.map fun n : Nat => (n : Int) := by
  unfold strNums strOfNums
  simp only [List.map_map, List.toList_toArray]
  refine List.map_congr_left fun n hn => ?_
  obtain ⟨i, hi, e⟩ := List.mem_iff_getElem.1 hn
  have := h i
  rw [List.getD_eq_getElem?_getD, List.getElem?_eq_getElem hi] at this
  simp only [Option.getD_some, e] at this
  simp only [Function.comp_apply, Int.toNat_natCast]
  rw [UInt8.toNat_ofNat_of_lt' this]
theorem brow_bn {ys : List (List AV)} (h : BytP ys) : ys = brow ((bn ys).map fun n : Nat => (n : Int)) := by
  have e := br_bn h
  unfold br at e
  unfold brow
  rw [List.map_map]
  exact e.symm
def rbsame_s : Sp
  | [.agg [.sl 1 f ys, .int .i64 n], .agg [.sl 1 g zs, .int .i64 m]] => some (BytP ys ∧ BytP zs, .bool (decide (n = m) && decide (bn ys = bn zs)))
  | _ => none
set_option maxRecDepth 100000 in
def rbsame_T : Prop :=
  ∀ (gl : Glob) (f g : Bool) (ys zs : List (List AV)) (n m : Int), BytP ys ∧ BytP zs → True ∧ ((-9223372036854775808 : Int) ≤ n ∧ n ≤ (9223372036854775807 : Int)) ∧ True → True ∧
  ((-9223372036854775808 : Int) ≤ m ∧ m ≤ (9223372036854775807 : Int)) ∧ True → bif decide (n = m) then ∃ ns, ys = brow ns ∧ bif decide (ns.length ≤ (9223372036854775807 : Nat)) then
  ∃ ns_1, zs = brow ns_1 ∧ bif decide (ns_1.length ≤ (9223372036854775807 : Nat)) then decide (strOfNums ns = strOfNums ns_1) = (decide (n = m) && decide (bn ys = bn zs)) else False
  else False else false = (decide (n = m) && decide (bn ys = bn zs))
set_option maxRecDepth 100000 in
theorem rbsame_P : rbsame_T := by
  unfold rbsame_T
  intro gl f g ys zs n m ⟨hb, hc⟩ _ _
  refine cs (fun h => ?_) (fun h => ?_)
  · refine ⟨_, brow_bn hb, cd1 (by rw [List.length_map, bn_len]; exact hb.fl) ⟨_, brow_bn hc, cd1 (by rw [List.length_map, bn_len]; exact hc.fl) ?_⟩⟩
    rw [decide_eq_true h, Bool.true_and]
    refine decide_eq_decide.2 ⟨fun q => ?_, fun q => by rw [q]⟩
    have q1 := congrArg strNums q
    rw [strNums_of _ (bn_bytes hb), strNums_of _ (bn_bytes hc)] at q1
    have q2 := congrArg (List.map Int.toNat) q1
    simpa [List.map_map, Function.comp_def] using q2
  · rw [decide_eq_false h]; rfl
def rbsame_S : Prop := ∀ (gl : Glob) (f g : Bool) (ys zs : List (List AV)) (n m : Int), BytP ys ∧ BytP zs → fnK Try.prog { glob := gl, spec := lk [], specH := lk [], shape := [13, 16], nowf := true } { nt := 19, drop := drp [(1, 524256)] } (fun _ _ => none) 6 Try.f13 [.agg [.sl 1 f ys, .int .i64 n], .agg [.sl 1 g zs, .int .i64 m]] (.bool (decide (n = m) && decide (bn ys = bn zs)))
set_option maxRecDepth 100000 in
theorem rbsame_e : rbsame_T = rbsame_S := by kernel_rfl
theorem rbsame_v : rbsame_S := @Eq.mp (rbsame_T) (rbsame_S) (rbsame_e) rbsame_P
theorem rbsame_ok (gl : Glob) : SOK Try.prog gl 13 rbsame_s := by
  refine ⟨fok Try.func13 (by kernel_rfl) (by kernel_rfl), ?_⟩
  intro xs pre r h hp
  unfold rbsame_s at h
  split at h
  · simp only [Option.some.injEq, Prod.mk.injEq] at h
    obtain ⟨h1, h2⟩ := h
    subst h1 h2
    exact fnK_sound tyNil (by exact specOK rfl rfl trivial trivial) (by kernel_rfl) Try.func13 rfl (rbsame_v gl _ _ _ _ _ _ hp)
  · cases h
end Go.Proofs.Ytkbfldgebcpigaa
