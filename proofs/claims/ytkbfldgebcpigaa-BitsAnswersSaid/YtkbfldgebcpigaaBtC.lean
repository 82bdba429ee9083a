/- Bits: width, Append, Read, Join, Pad, Same. -/
import Derived.Test.YtkbfldgebcpigaaBtB
namespace Go.Proofs.Ytkbfldgebcpigaa
open Go
set_option linter.unusedVariables false
set_option linter.unusedSimpArgs false

def widB (w : Int) : Bool := decide (1 ≤ w ∧ w ≤ 24)
def appE (ys : List (List AV)) (n v w : Int) : Int := if validB (bn ys) n then (if widB w && decide (0 ≤ v ∧ v < 2 ^ w.toNat) then (if n + w ≤ 40000 then 0 else 2) else 1) else 7
def appR (ys : List (List AV)) (n v w : Int) : List (List AV) := if appE ys n v w = 0 then br (pack (ub ys n ++ nb v.toNat w.toNat w.toNat)) else []
def appL (ys : List (List AV)) (n v w : Int) : Int := if appE ys n v w = 0 then n + w else 0
def bwidth_s : Sp
  | [.int .i64 w] => some (True, .bool (widB w))
  | _ => none
set_option maxRecDepth 100000 in
def bwidth_T : Prop :=
  ∀ (gl : Glob) (w : Int), (-9223372036854775808 : Int) ≤ w ∧ w ≤ (9223372036854775807 : Int) → bif decide ((1 : Int) ≤ w) then decide (w ≤ (24 : Int)) = widB w else false = widB w
set_option maxRecDepth 100000 in
theorem bwidth_P : bwidth_T := by
  unfold bwidth_T
  intro gl w _
  unfold widB
  refine cs (fun h => ?_) (fun h => (decide_eq_false (by omega)).symm)
  exact decide_eq_decide.2 ⟨fun q => ⟨by omega, q⟩, fun q => q.2⟩
def bwidth_S : Prop := ∀ (gl : Glob) (w : Int), fnK Try.prog { glob := gl, spec := lk [], specH := lk [], nowf := true } { nt := 9, drop := drp [(1, 504)] } (fun _ _ => none) 6 Try.f33 [.int .i64 w] (.bool (widB w))
set_option maxRecDepth 100000 in
theorem bwidth_e : bwidth_T = bwidth_S := by kernel_rfl
theorem bwidth_v : bwidth_S := @Eq.mp (bwidth_T) (bwidth_S) (bwidth_e) bwidth_P
theorem bwidth_ok (gl : Glob) : SOK Try.prog gl 33 bwidth_s := by
  refine ⟨fok Try.func33 (by kernel_rfl) (by kernel_rfl), ?_⟩
  intro xs pre r h hp
  unfold bwidth_s at h
  split at h
  · simp only [Option.some.injEq, Prod.mk.injEq] at h
    obtain ⟨h1, h2⟩ := h
    subst h1 h2
    exact fnK_sound tyNil (by exact specOK rfl rfl trivial trivial) (by kernel_rfl) Try.func33 rfl (bwidth_v gl _)
  · cases h
def bappend_s : Sp
  | [.agg [.sl 1 f ys, .int .i64 n], .int .i64 v, .int .i64 w] => some (BytP ys, .tup [.agg [.sl 1 false (appR ys n v w), .int .i64 (appL ys n v w)], .int .i64 (appE ys n v w)])
  | _ => none
set_option maxRecDepth 100000 in
def bappend_T : Prop :=
  ∀ (gl : Glob) (f : Bool) (ys : List (List AV)) (n v w : Int), BytP ys → True ∧ ((-9223372036854775808 : Int) ≤ n ∧ n ≤ (9223372036854775807 : Int)) ∧ True → (-9223372036854775808 :
  Int) ≤ v ∧ v ≤ (9223372036854775807 : Int) → (-9223372036854775808 : Int) ≤ w ∧ w ≤ (9223372036854775807 : Int) → BytP ys ∧ bif !validB (bn ys) n then (appR ys n v w = [] ∧ (0 :
  Int) = appL ys n v w ∧ True) ∧ (7 : Int) = appE ys n v w ∧ True else True ∧ bif !widB w then (appR ys n v w = [] ∧ (0 : Int) = appL ys n v w ∧ True) ∧ (1 : Int) = appE ys n v w ∧
  True else bif decide (v < (0 : Int)) then (appR ys n v w = [] ∧ (0 : Int) = appL ys n v w ∧ True) ∧ (1 : Int) = appE ys n v w ∧ True else bif decide ((0 : Int) ≤ w) then bif decide
  (rng IntKind.i64 ((1 : Int) * (2 : Int) ^ min w.toNat (64 : Nat))) then bif decide ((1 : Int) * (2 : Int) ^ min w.toNat (64 : Nat) ≤ v) then (appR ys n v w = [] ∧ (0 : Int) = appL
  ys n v w ∧ True) ∧ (1 : Int) = appE ys n v w ∧ True else bif decide (rng IntKind.i64 (n + w)) then bif decide ((40000 : Int) < n + w) then (appR ys n v w = [] ∧ (0 : Int) = appL ys
  n v w ∧ True) ∧ (2 : Int) = appE ys n v w ∧ True else (BytP ys ∧ ys.length ≤ (1000000 : Nat)) ∧ ((BytP ys ∧ validB (bn ys) n = true ∧ ys.length = ys.length) ∧ ((1 : Int) ≤ w ∧ w ≤
  (24 : Int)) ∧ ((0 : Int) ≤ v ∧ v < (16777216 : Int)) ∧ n + w ≤ (40000 : Int)) ∧ bif decide ((br (pack (ub ys n ++ nb v.toNat w.toNat w.toNat))).length = (br (pack (ub ys n ++ nb
  v.toNat w.toNat w.toNat))).length) then ((True ∧ br (pack (ub ys n ++ nb v.toNat w.toNat w.toNat)) = appR ys n v w) ∧ n + w = appL ys n v w ∧ True) ∧ (0 : Int) = appE ys n v w ∧
  True else False else False else False else False
set_option maxRecDepth 100000 in
theorem bappend_P : bappend_T := by
  unfold bappend_T
  intro gl f ys n v w hb _ _ _
  have bad : ∀ z : Int, ¬ z = 0 → appE ys n v w = z → (appR ys n v w = [] ∧ 0 = appL ys n v w ∧ True) ∧ z = appE ys n v w ∧ True := by
    intro z hz he
    unfold appR appL
    rw [he, if_neg hz, if_neg hz]; exact ⟨⟨rfl, rfl, trivial⟩, rfl, trivial⟩
  have hl := hb.fl
  refine ⟨hb, csplit (fun q => ?_) (fun q => ⟨trivial, csplit (fun q2 => ?_) (fun q2 => cs (fun q3 => ?_) (fun q3 => ?_))⟩)⟩
  · have q : validB (bn ys) n = false := by simpa using q
    exact bad 7 (by decide) (by unfold appE; rw [q]; rfl)
  · have q : validB (bn ys) n = true := by simpa using q
    have q2 : widB w = false := by simpa using q2
    exact bad 1 (by decide) (by unfold appE; rw [q, q2]; rfl)
  · have q : validB (bn ys) n = true := by simpa using q
    exact bad 1 (by decide) (by unfold appE; rw [q, decide_eq_false (show ¬ (0 ≤ v ∧ v < 2 ^ w.toNat) from fun z => by omega), Bool.and_false]; rfl)
  have q : validB (bn ys) n = true := by simpa using q
  have q2 : widB w = true := by simpa using q2
  have hw := of_decide_eq_true q2
  have hvb := validB_iff.1 q
  rw [bn_len] at hvb
  obtain ⟨k, hk, hk2⟩ : ∃ k : Nat, k = w.toNat ∧ k ≤ 24 := ⟨_, rfl, by omega⟩
  have hp : (1 : Int) * 2 ^ min w.toNat 64 = 2 ^ w.toNat := by rw [show min w.toNat 64 = w.toNat by omega, Int.one_mul]
  have hpb : (2 : Int) ^ w.toNat ≤ 16777216 := by
    rw [← hk]
    have : ∀ k : Nat, k ≤ 24 → (2 : Int) ^ k ≤ 16777216 := by decide
    exact this k hk2
  have hp0 : (0 : Int) < 2 ^ w.toNat := Int.pow_pos (by decide)
  rw [hp]
  generalize hP : (2 : Int) ^ w.toNat = P at *
  refine cd1 (by omega) (cdI (by omega) (cs (fun q4 => ?_) (fun q4 => cdI (by omega) (cs (fun q5 => ?_) (fun q5 => ⟨⟨hb, by omega⟩, ⟨⟨hb, q, rfl⟩, hw, by omega, by omega⟩, cd1 rfl ?_⟩)))))
  · exact bad 1 (by decide) (by unfold appE; rw [q, hP, decide_eq_false (show ¬ (0 ≤ v ∧ v < P) from fun z => by omega), Bool.and_false]; rfl)
  · exact bad 2 (by decide) (by unfold appE; rw [q, q2, hP, decide_eq_true (show 0 ≤ v ∧ v < P by omega), if_pos rfl, Bool.and_self, if_pos rfl, if_neg (by omega)])
  · have e0 : appE ys n v w = 0 := by unfold appE; rw [q, q2, hP, decide_eq_true (show 0 ≤ v ∧ v < P by omega), if_pos rfl, Bool.and_self, if_pos rfl, if_pos (by omega)]
    unfold appR appL
    rw [e0, if_pos rfl, if_pos rfl]
    exact ⟨⟨⟨trivial, rfl⟩, rfl, trivial⟩, rfl, trivial⟩
def bappend_S : Prop := ∀ (gl : Glob) (f : Bool) (ys : List (List AV)) (n v w : Int), BytP ys → fnK Try.prog { glob := gl, spec := lk [(27, bvalid_s), (33, bwidth_s)], specH := lk [(30, bcopied_s), (31, bwrite_s)], nowf := true } { nt := 46, drop := drp [(1, 7168), (2, 8192), (3, 268402688), (4, 268435456), (5, 33285996544), (6, 34359738368), (7, 206158430208), (8, 1924145348608), (9, 65970697666560)], frz := fun id => cond (Nat.beq id 9) [1001037] [] } (fun _ _ => none) 6 Try.f17 [.agg [.sl 1 f ys, .int .i64 n], .int .i64 v, .int .i64 w] (.tup [.agg [.sl 1 false (appR ys n v w), .int .i64 (appL ys n v w)], .int .i64 (appE ys n v w)])
set_option maxRecDepth 100000 in
theorem bappend_e : bappend_T = bappend_S := by kernel_rfl
theorem bappend_v : bappend_S := @Eq.mp (bappend_T) (bappend_S) (bappend_e) bappend_P
theorem bappend_ok (gl : Glob) : SOK Try.prog gl 17 bappend_s := by
  refine ⟨fok Try.func17 (by kernel_rfl) (by kernel_rfl), ?_⟩
  intro xs pre r h hp
  unfold bappend_s at h
  split at h
  · simp only [Option.some.injEq, Prod.mk.injEq] at h
    obtain ⟨h1, h2⟩ := h
    subst h1 h2
    exact fnK_sound tyNil (by exact specOK rfl rfl ⟨(bvalid_ok gl), (bwidth_ok gl), trivial⟩ ⟨(bcopied_ok gl), (bwrite_ok gl), trivial⟩) (by kernel_rfl) Try.func17 rfl (bappend_v gl _ _ _ _ _ hp)
  · cases h
end Go.Proofs.Ytkbfldgebcpigaa
