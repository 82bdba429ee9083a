/- Bits: empty lists (nil bytes); the law's example. -/
import Derived.Test.YtkbfldgebcpigaaBtK
namespace Go.Proofs.Ytkbfldgebcpigaa
open Go
set_option linter.unusedVariables false
set_option linter.unusedSimpArgs false

def bvalidN_s : Sp
  | [.agg [.nils, .int .i64 0]] => some (True, .bool true)
  | _ => none
set_option maxRecDepth 100000 in
def bvalidN_T : Prop :=
  ∀ (gl : Glob), True ∧ ((-9223372036854775808 : Int) ≤ (0 : Int) ∧ (0 : Int) ≤ (9223372036854775807 : Int)) ∧ True → True ∧ true = true
set_option maxRecDepth 100000 in
theorem bvalidN_P : bvalidN_T := by
  unfold bvalidN_T
  intro gl _
  exact ⟨trivial, rfl⟩
def bvalidN_S : Prop := ∀ (gl : Glob), fnK Try.prog { glob := gl, spec := lk [(29, bsize_s)], specH := lk [], nowf := true } { nt := 45, drop := drp [(1, 1048560), (3, 266338304), (4, 35184103653376)] } (fun _ _ => none) 6 Try.f27 [.agg [.nils, .int .i64 0]] (.bool true)
set_option maxRecDepth 100000 in
theorem bvalidN_e : bvalidN_T = bvalidN_S := by kernel_rfl
theorem bvalidN_v : bvalidN_S := @Eq.mp (bvalidN_T) (bvalidN_S) (bvalidN_e) bvalidN_P
theorem bvalidN_ok (gl : Glob) : SOK Try.prog gl 27 bvalidN_s := by
  refine ⟨fok Try.func27 (by kernel_rfl) (by kernel_rfl), ?_⟩
  intro xs pre r h hp
  unfold bvalidN_s at h
  split at h
  · simp only [Option.some.injEq, Prod.mk.injEq] at h
    obtain ⟨h1, h2⟩ := h
    subst h1 h2
    exact fnK_sound tyNil (by exact specOK rfl rfl ⟨(bsize_ok gl), trivial⟩ trivial) (by kernel_rfl) Try.func27 rfl (bvalidN_v gl )
  · cases h
def bcopiedN_s : SpH
  | [.agg [.nils, .int .i64 0]], [] => some (True, .ptr 0 0, [.cells [.rw 1 1 0, .int .i64 0], .row 5 1 []])
  | _, _ => none
set_option maxRecDepth 100000 in
def bcopiedN_T : Prop :=
  ∀ (gl : Glob), True ∧ ((-9223372036854775808 : Int) ≤ (0 : Int) ∧ (0 : Int) ≤ (9223372036854775807 : Int)) ∧ True → (0 : Nat) = (0 : Nat) ∧ ((0 : Nat) = (0 : Nat) ∧ (0 : Int) = (0
  : Int) ∧ True) ∧ [] ++ List.drop (0 : Nat) (List.replicate (0 : Nat) [AV.int IntKind.u8 (0 : Int)]) = [] ∧ True
set_option maxRecDepth 100000 in
theorem bcopiedN_P : bcopiedN_T := by
  unfold bcopiedN_T
  intro gl _
  exact ⟨rfl, ⟨rfl, rfl, trivial⟩, rfl, trivial⟩
def bcopiedN_S : Prop := ∀ (gl : Glob), fnH Try.prog { glob := gl, spec := lk [], specH := lk [] } { nt := 18, drop := drp [(1, 240), (2, 1792), (3, 258048)], fr := 1000, kp := [] } (fun _ _ => none) 6 Try.f30 [.agg [.nils, .int .i64 0]] [] (.ptr 0 0) [.cells [.rw 1 1 0, .int .i64 0], .row 5 1 []]
set_option maxRecDepth 100000 in
theorem bcopiedN_e : bcopiedN_T = bcopiedN_S := by kernel_rfl
theorem bcopiedN_v : bcopiedN_S := @Eq.mp (bcopiedN_T) (bcopiedN_S) (bcopiedN_e) bcopiedN_P
theorem bcopiedN_ok (gl : Glob) : HOK Try.prog gl 30 bcopiedN_s := by
  refine ⟨fok Try.func30 (by kernel_rfl) (by kernel_rfl), ?_⟩
  intro xs bs pre r bs2 h hp
  unfold bcopiedN_s at h
  split at h
  · simp only [Option.some.injEq, Prod.mk.injEq] at h
    obtain ⟨h1, h2, h3⟩ := h
    subst h1 h2 h3
    exact fnH_sound tyNil (by exact specOK rfl rfl trivial trivial) (by kernel_rfl) Try.func30 (bcopiedN_v gl )
  · cases h
def bappendN_s : Sp
  | [.agg [.nils, .int .i64 0], .int .i64 v, .int .i64 w] => some (True, .tup [.agg [.sl 1 false (appR [] 0 v w), .int .i64 (appL [] 0 v w)], .int .i64 (appE [] 0 v w)])
  | _ => none
set_option maxRecDepth 100000 in
def bappendN_T : Prop :=
  ∀ (gl : Glob) (v w : Int), True ∧ ((-9223372036854775808 : Int) ≤ (0 : Int) ∧ (0 : Int) ≤ (9223372036854775807 : Int)) ∧ True → (-9223372036854775808 : Int) ≤ v ∧ v ≤
  (9223372036854775807 : Int) → (-9223372036854775808 : Int) ≤ w ∧ w ≤ (9223372036854775807 : Int) → True ∧ True ∧ bif !widB w then (appR [] (0 : Int) v w = [] ∧ (0 : Int) = appL []
  (0 : Int) v w ∧ True) ∧ (1 : Int) = appE [] (0 : Int) v w ∧ True else bif decide (v < (0 : Int)) then (appR [] (0 : Int) v w = [] ∧ (0 : Int) = appL [] (0 : Int) v w ∧ True) ∧ (1 :
  Int) = appE [] (0 : Int) v w ∧ True else bif decide ((0 : Int) ≤ w) then bif decide (rng IntKind.i64 ((1 : Int) * (2 : Int) ^ min w.toNat (64 : Nat))) then bif decide ((1 : Int) *
  (2 : Int) ^ min w.toNat (64 : Nat) ≤ v) then (appR [] (0 : Int) v w = [] ∧ (0 : Int) = appL [] (0 : Int) v w ∧ True) ∧ (1 : Int) = appE [] (0 : Int) v w ∧ True else bif decide (rng
  IntKind.i64 ((0 : Int) + w)) then bif decide ((40000 : Int) < (0 : Int) + w) then (appR [] (0 : Int) v w = [] ∧ (0 : Int) = appL [] (0 : Int) v w ∧ True) ∧ (2 : Int) = appE [] (0 :
  Int) v w ∧ True else True ∧ ((BytP [] ∧ validB (bn []) (0 : Int) = true ∧ (0 : Nat) = (0 : Nat)) ∧ ((1 : Int) ≤ w ∧ w ≤ (24 : Int)) ∧ ((0 : Int) ≤ v ∧ v < (16777216 : Int)) ∧ (0 :
  Int) + w ≤ (40000 : Int)) ∧ bif decide ((br (pack (ub [] (0 : Int) ++ nb v.toNat w.toNat w.toNat))).length = (br (pack (ub [] (0 : Int) ++ nb v.toNat w.toNat w.toNat))).length)
  then ((True ∧ br (pack (ub [] (0 : Int) ++ nb v.toNat w.toNat w.toNat)) = appR [] (0 : Int) v w) ∧ (0 : Int) + w = appL [] (0 : Int) v w ∧ True) ∧ (0 : Int) = appE [] (0 : Int) v w
  ∧ True else False else False else False else False
set_option maxRecDepth 100000 in
theorem bappendN_P : bappendN_T := by
  unfold bappendN_T
  intro gl v w _ _ _
  have hb : BytP [] := ⟨fun i hi => by simp at hi, by simp⟩
  have q : validB (bn []) 0 = true := by decide
  have bad : ∀ z : Int, ¬ z = 0 → appE [] 0 v w = z → (appR [] 0 v w = [] ∧ 0 = appL [] 0 v w ∧ True) ∧ z = appE [] 0 v w ∧ True := by
    intro z hz he
    unfold appR appL
    rw [he, if_neg hz, if_neg hz]; exact ⟨⟨rfl, rfl, trivial⟩, rfl, trivial⟩
  refine ⟨trivial, trivial, csplit (fun q2 => ?_) (fun q2 => cs (fun q3 => ?_) (fun q3 => ?_))⟩
  · have q2 : widB w = false := by simpa using q2
    exact bad 1 (by decide) (by unfold appE; rw [q, q2]; rfl)
  · exact bad 1 (by decide) (by unfold appE; rw [q, decide_eq_false (show ¬ (0 ≤ v ∧ v < 2 ^ w.toNat) from fun z => by omega), Bool.and_false]; rfl)
  have q2 : widB w = true := by simpa using q2
  have hw := of_decide_eq_true q2
  obtain ⟨k, hk, hk2⟩ : ∃ k : Nat, k = w.toNat ∧ k ≤ 24 := ⟨_, rfl, by omega⟩
  have hp : (1 : Int) * 2 ^ min w.toNat 64 = 2 ^ w.toNat := by rw [show min w.toNat 64 = w.toNat by omega, Int.one_mul]
  have hpb : (2 : Int) ^ w.toNat ≤ 16777216 := by
    rw [← hk]
    have : ∀ k : Nat, k ≤ 24 → (2 : Int) ^ k ≤ 16777216 := by decide
    exact this k hk2
  have hp0 : (0 : Int) < 2 ^ w.toNat := Int.pow_pos (by decide)
  rw [hp]
  generalize hP : (2 : Int) ^ w.toNat = P at *
  refine cd1 (by omega) (cdI (by omega) (cs (fun q4 => ?_) (fun q4 => cdI (by omega) (cs (fun q5 => ?_) (fun q5 => ⟨trivial, ⟨⟨hb, q, rfl⟩, hw, by omega, by omega⟩, cd1 rfl ?_⟩)))))
  · exact bad 1 (by decide) (by unfold appE; rw [q, hP, decide_eq_false (show ¬ (0 ≤ v ∧ v < P) from fun z => by omega), Bool.and_false]; rfl)
  · exact bad 2 (by decide) (by unfold appE; rw [q, q2, hP, decide_eq_true (show 0 ≤ v ∧ v < P by omega), if_pos rfl, Bool.and_self, if_pos rfl, if_neg (by omega)])
  · have e0 : appE [] 0 v w = 0 := by unfold appE; rw [q, q2, hP, decide_eq_true (show 0 ≤ v ∧ v < P by omega), if_pos rfl, Bool.and_self, if_pos rfl, if_pos (by omega)]
    unfold appR appL
    rw [e0, if_pos rfl, if_pos rfl]
    exact ⟨⟨⟨trivial, rfl⟩, rfl, trivial⟩, rfl, trivial⟩
def bappendN_S : Prop := ∀ (gl : Glob) (v w : Int), fnK Try.prog { glob := gl, spec := lk [(27, bvalidN_s), (33, bwidth_s)], specH := lk [(30, bcopiedN_s), (31, bwrite_s)], nowf := true } { nt := 46, drop := drp [(1, 7168), (2, 8192), (3, 268402688), (4, 268435456), (5, 33285996544), (6, 34359738368), (7, 206158430208), (8, 1924145348608), (9, 65970697666560)] } (fun _ _ => none) 6 Try.f17 [.agg [.nils, .int .i64 0], .int .i64 v, .int .i64 w] (.tup [.agg [.sl 1 false (appR [] 0 v w), .int .i64 (appL [] 0 v w)], .int .i64 (appE [] 0 v w)])
set_option maxRecDepth 100000 in
theorem bappendN_e : bappendN_T = bappendN_S := by kernel_rfl
theorem bappendN_v : bappendN_S := @Eq.mp (bappendN_T) (bappendN_S) (bappendN_e) bappendN_P
theorem bappendN_ok (gl : Glob) : SOK Try.prog gl 17 bappendN_s := by
  refine ⟨fok Try.func17 (by kernel_rfl) (by kernel_rfl), ?_⟩
  intro xs pre r h hp
  unfold bappendN_s at h
  split at h
  · simp only [Option.some.injEq, Prod.mk.injEq] at h
    obtain ⟨h1, h2⟩ := h
    subst h1 h2
    exact fnK_sound tyNil (by exact specOK rfl rfl ⟨(bvalidN_ok gl), (bwidth_ok gl), trivial⟩ ⟨(bcopiedN_ok gl), (bwrite_ok gl), trivial⟩) (by kernel_rfl) Try.func17 rfl (bappendN_v gl _ _)
  · cases h
end Go.Proofs.Ytkbfldgebcpigaa
