/- Bits: the law's example. -/
import Derived.Test.YtkbfldgebcpigaaBtL
namespace Go.Proofs.Ytkbfldgebcpigaa
open Go
set_option linter.unusedVariables false
set_option linter.unusedSimpArgs false

theorem appR_byt {ys : List (List AV)} {n v w : Int} (h : n.toNat + w.toNat ≤ 1000000) : BytP (appR ys n v w) := by
  unfold appR
  split
  · refine br_bytes (bytes_pack (b01_append (b01_unpack _ _) (b01_nb _ _ _))) ?_
    rw [length_pack, List.length_append, length_nb]
    unfold ub
    rw [len_unpack]
    omega
  · exact ⟨fun i hi => by simp at hi, by simp⟩
def rbsameR_s : SpH
  | [.agg [.sl 1 f ys, .int .i64 n], .agg [.rw 0 1 k, .int .i64 m]], [.row 5 1 zs] => some ((BytP ys ∧ BytP zs) ∧ k = zs.length, .bool (decide (n = m) && decide (bn ys = bn zs)), [.row 5 1 zs])
  | _, _ => none
set_option maxRecDepth 100000 in
def rbsameR_T : Prop :=
  ∀ (gl : Glob) (f : Bool) (ys zs : List (List AV)) (n m : Int) (k : Nat), (BytP ys ∧ BytP zs) ∧ k = zs.length → True ∧ ((-9223372036854775808 : Int) ≤ n ∧ n ≤ (9223372036854775807 :
  Int)) ∧ True → True ∧ ((-9223372036854775808 : Int) ≤ m ∧ m ≤ (9223372036854775807 : Int)) ∧ True → bif decide (n = m) then ∃ ns, ys = brow ns ∧ bif decide (ns.length ≤
  (9223372036854775807 : Nat)) then bif decide (k = zs.length) then ∃ ns_1, zs = brow ns_1 ∧ bif decide (ns_1.length ≤ (9223372036854775807 : Nat)) then decide (strOfNums ns =
  strOfNums ns_1) = (decide (n = m) && decide (bn ys = bn zs)) ∧ zs = zs ∧ True else False else False else False else false = (decide (n = m) && decide (bn ys = bn zs)) ∧ zs = zs ∧
  True
set_option maxRecDepth 100000 in
theorem rbsameR_P : rbsameR_T := by
  unfold rbsameR_T
  intro gl f ys zs n m k ⟨⟨hb, hc⟩, hk⟩ _ _
  refine cs (fun h => ?_) (fun h => ⟨?_, rfl, trivial⟩)
  · refine ⟨_, brow_bn hb, cd1 (by rw [List.length_map, bn_len]; exact hb.fl) (cd1 hk ⟨_, brow_bn hc, cd1 (by rw [List.length_map, bn_len]; exact hc.fl) ⟨?_, rfl, trivial⟩⟩)⟩
    rw [decide_eq_true h, Bool.true_and]
    refine decide_eq_decide.2 ⟨fun q => ?_, fun q => by rw [q]⟩
    have q1 := congrArg strNums q
    rw [strNums_of _ (bn_bytes hb), strNums_of _ (bn_bytes hc)] at q1
    have q2 := congrArg (List.map Int.toNat) q1
    simpa [List.map_map, Function.comp_def] using q2
  · rw [decide_eq_false h]; rfl
def rbsameR_S : Prop := ∀ (gl : Glob) (f : Bool) (ys zs : List (List AV)) (n m : Int) (k : Nat), (BytP ys ∧ BytP zs) ∧ k = zs.length → fnH Try.prog { glob := gl, spec := lk [], specH := lk [], shape := [13, 16] } { nt := 19, drop := drp [(1, 524256)], fr := 1000, kp := [0] } (fun _ _ => none) 6 Try.f13 [.agg [.sl 1 f ys, .int .i64 n], .agg [.rw 0 1 k, .int .i64 m]] [.row 5 1 zs] (.bool (decide (n = m) && decide (bn ys = bn zs))) [.row 5 1 zs]
set_option maxRecDepth 100000 in
theorem rbsameR_e : rbsameR_T = rbsameR_S := by kernel_rfl
theorem rbsameR_v : rbsameR_S := @Eq.mp (rbsameR_T) (rbsameR_S) (rbsameR_e) rbsameR_P
theorem rbsameR_ok (gl : Glob) : HOK Try.prog gl 13 rbsameR_s := by
  refine ⟨fok Try.func13 (by kernel_rfl) (by kernel_rfl), ?_⟩
  intro xs bs pre r bs2 h hp
  unfold rbsameR_s at h
  split at h
  · simp only [Option.some.injEq, Prod.mk.injEq] at h
    obtain ⟨h1, h2, h3⟩ := h
    subst h1 h2 h3
    exact fnH_sound tyNil (by exact specOK rfl rfl trivial trivial) (by kernel_rfl) Try.func13 (rbsameR_v gl _ _ _ _ _ _ hp)
  · cases h
def bawake_s : Sp
  | [] => some (True, .bool true)
  | _ => none
set_option maxRecDepth 100000 in
def bawake_T : Prop :=
  ∀ (gl : Glob), True ∧ BytP (appR [] (0 : Int) (5 : Int) (3 : Int)) ∧ ((BytP (appR [] (0 : Int) (5 : Int) (3 : Int)) ∧ BytP [[AV.int IntKind.u8 (160 : Int)]]) ∧ (1 : Nat) = (1 :
  Nat)) ∧ ((BytP (appR (appR [] (0 : Int) (5 : Int) (3 : Int)) (3 : Int) (1 : Int) (6 : Int)) ∧ BytP [[AV.int IntKind.u8 (160 : Int)], [AV.int IntKind.u8 (128 : Int)]]) ∧ (2 : Nat) =
  (2 : Nat)) ∧ (decide ((9 : Int) = (9 : Int)) && decide (bn (appR (appR [] (0 : Int) (5 : Int) (3 : Int)) (3 : Int) (1 : Int) (6 : Int)) = bn [[AV.int IntKind.u8 (160 : Int)],
  [AV.int IntKind.u8 (128 : Int)]])) = true
set_option maxRecDepth 100000 in
theorem bawake_P : bawake_T := by
  unfold bawake_T
  intro gl
  have h1 : BytP [[.int .u8 160]] := ⟨fun i hi => by
    simp only [List.length_singleton] at hi
    rw [show i = 0 by omega]
    exact ⟨160, rfl, by decide⟩, by simp⟩
  have h2 : BytP [[.int .u8 160], [.int .u8 128]] := ⟨fun i hi => by
    have hi : i < 2 := hi
    rcases i with _ | _ | i
    · exact ⟨160, rfl, by decide⟩
    · exact ⟨128, rfl, by decide⟩
    · omega, by simp⟩
  exact ⟨trivial, appR_byt (by decide), ⟨⟨appR_byt (by decide), h1⟩, rfl⟩, ⟨⟨appR_byt (by decide), h2⟩, rfl⟩, by decide +kernel⟩
def bawake_S : Prop := ∀ (gl : Glob), fnK Try.prog { glob := gl, spec := lk [(17, (orSp bappendN_s bappend_s))], specH := lk [(13, rbsameR_s)], nowf := true } { nt := 33, drop := drp [(1, 992), (2, 31744), (3, 8589901824)] } (fun _ _ => none) 6 Try.f15 [] (.bool true)
set_option maxRecDepth 100000 in
theorem bawake_e : bawake_T = bawake_S := by kernel_rfl
theorem bawake_v : bawake_S := @Eq.mp (bawake_T) (bawake_S) (bawake_e) bawake_P
theorem bawake_ok (gl : Glob) : SOK Try.prog gl 15 bawake_s := by
  refine ⟨fok Try.func15 (by kernel_rfl) (by kernel_rfl), ?_⟩
  intro xs pre r h hp
  unfold bawake_s at h
  split at h
  · simp only [Option.some.injEq, Prod.mk.injEq] at h
    obtain ⟨h1, h2⟩ := h
    subst h1 h2
    exact fnK_sound tyNil (by exact specOK rfl rfl ⟨(SOK.or (bappendN_ok gl) (bappend_ok gl)), trivial⟩ ⟨(rbsameR_ok gl), trivial⟩) (by kernel_rfl) Try.func15 rfl (bawake_v gl )
  · cases h
end Go.Proofs.Ytkbfldgebcpigaa
