/- Tables: the expander by induction on what may still be taken; Expand. -/
import Derived.Test.YthdfkiopppkfcaaDoorTbX
namespace Go.Proofs.YthdfkiopppkfcaaDoor
open Go
set_option linter.unusedVariables false
set_option linter.unusedSimpArgs false

theorem tsequence_of (gl : Glob) (m : Nat) (h : HOK Tryd.prog gl 37 (tall_s alE alO alK m)) : HOK Tryd.prog gl 64 (tsequence_s sqE sqO sqK m) := by
  refine ⟨fok Tryd.func64 (by kernel_rfl) (by kernel_rfl), ?_⟩
  intro xs bs pre r bs2 hh hp
  unfold tsequence_s at hh
  split at hh
  · simp only [Option.some.injEq, Prod.mk.injEq] at hh
    obtain ⟨h1, h2, h3⟩ := hh
    subst h1 h2 h3
    exact fnH_sound tyNil (by exact specOK rfl rfl trivial ⟨(xsqX_ok gl), h, trivial⟩) (by kernel_rfl) Tryd.func64 (gsequence_v m gl _ _ _ _ _ _ _ _ _ _ hp)
  · cases hh
theorem tfirst_of (gl : Glob) (m : Nat) (h : HOK Tryd.prog gl 37 (tall_s alE alO alK m)) : HOK Tryd.prog gl 56 (tfirst_s fi1 fiE fiO fiK m) := by
  refine ⟨fok Tryd.func56 (by kernel_rfl) (by kernel_rfl), ?_⟩
  intro xs bs pre r bs2 hh hp
  unfold tfirst_s at hh
  split at hh
  · simp only [Option.some.injEq, Prod.mk.injEq] at hh
    obtain ⟨h1, h2, h3⟩ := hh
    subst h1 h2 h3
    exact fnH_sound tyNil (by exact specOK rfl rfl ⟨(tof_ok gl), (tsplit_ok gl), trivial⟩ ⟨(xentry_ok gl), h, (tsequence_of gl m h), trivial⟩) (by kernel_rfl) Tryd.func56 (gfirst_v m gl _ _ _ _ _ _ _ _ _ _ _ hp)
  · cases hh
theorem tall_of (gl : Glob) (m : Nat) (h : HOK Tryd.prog gl 56 (tfirst_s fi1 fiE fiO fiK m)) : HOK Tryd.prog gl 37 (tall_s alE alO alK (m + 1)) := by
  refine ⟨fok Tryd.func37 (by kernel_rfl) (by kernel_rfl), ?_⟩
  intro xs bs pre r bs2 hh hp
  unfold tall_s at hh
  split at hh
  · simp only [Option.some.injEq, Prod.mk.injEq] at hh
    obtain ⟨h1, h2, h3⟩ := hh
    subst h1 h2 h3
    exact fnH_sound tyNil (by exact specOK rfl rfl trivial ⟨h, trivial⟩) (by kernel_rfl) Tryd.func37 (gall_v m gl _ _ _ _ _ _ _ _ _ _ _ hp)
  · cases hh
theorem tall_ok (gl : Glob) : ∀ m : Nat, HOK Tryd.prog gl 37 (tall_s alE alO alK m)
  | 0 => by
    refine ⟨fok Tryd.func37 (by kernel_rfl) (by kernel_rfl), ?_⟩
    intro xs bs pre r bs2 hh hp
    unfold tall_s at hh
    split at hh
    · simp only [Option.some.injEq, Prod.mk.injEq] at hh
      obtain ⟨h1, h2, h3⟩ := hh
      subst h1 h2 h3
      have h5 := hp.1.1.f5
      have h6 := hp.1.1.fm
      exact absurd h6 (by simp only [Int.natCast_zero]; omega)
    · cases hh
  | m + 1 => tall_of gl m (tfirst_of gl m (tall_ok gl m))
def exR (es ss cs : LLA) : Rs := alR es ss 501 cs 0 [] 0
def exE (es ss : LLA) (v : Int) (cs : LLA) : Int := if vaE es ss v = 0 then (if 20 < (cs.length : Int) then 2 else (exR es ss cs).1) else vaE es ss v
def exO (es ss : LLA) (v : Int) (cs : LLA) : LLA := if exE es ss v cs = 0 then (exR es ss cs).2.1 else []
set_option maxRecDepth 100000 in
def gexpand_T (alE : Nat → LLA → LLA → LLA → Int → LLA → Int → Int) (alO : Nat → LLA → LLA → LLA → Int → LLA → Int → LLA) (alK : Nat → LLA → LLA → LLA → Int → LLA → Int → Int) (exO : LLA → LLA → Int → LLA → LLA) (exE : LLA → LLA → Int → LLA → Int) (vaE : List (List AV) → List (List AV) → Int → Int) : Prop :=
  ∀ (es ss cs : List (List AV)) (v : Int) (f g h : Bool), (EnsP es ∧ SqsP ss) ∧ CdsP cs → ((-9223372036854775808 : Int) ≤ v ∧ v ≤ (9223372036854775807 : Int)) ∧ True ∧ True ∧ True →
  True → (EnsP es ∧ SqsP ss) ∧ bif decide ¬vaE es ss v = (0 : Int) then exO es ss v cs = [] ∧ vaE es ss v = exE es ss v cs ∧ True else bif decide ((20 : Int) < (↑cs.length : Int))
  then exO es ss v cs = [] ∧ (2 : Int) = exE es ss v cs ∧ True else ((ExP (501 : Int) es ss (0 : Int) [] (0 : Int) ∧ CdsP cs) ∧ (0 : Nat) = (0 : Nat)) ∧ bif decide ¬alE (501 : Nat)
  es ss cs (0 : Int) [] (0 : Int) = (0 : Int) then exO es ss v cs = [] ∧ alE (501 : Nat) es ss cs (0 : Int) [] (0 : Int) = exE es ss v cs ∧ True else bif decide (List.length (alO
  (501 : Nat) es ss cs (0 : Int) [] (0 : Int)) = List.length (alO (501 : Nat) es ss cs (0 : Int) [] (0 : Int))) then (True ∧ alO (501 : Nat) es ss cs (0 : Int) [] (0 : Int) = exO es
  ss v cs) ∧ (0 : Int) = exE es ss v cs ∧ True else False
set_option maxRecDepth 100000 in
theorem gexpand_P : gexpand_T alE alO alK exO exE vaE := by
  unfold gexpand_T
  intro es ss cs v f g h ⟨⟨he, hs⟩, hc⟩ _ _
  have z : EnsP es ∧ SqsP ss := ⟨he, hs⟩
  refine ⟨z, csx (fun h1 => ?_) (fun h1 => csx (fun h2 => ?_) (fun h2 => ⟨⟨⟨⟨he, hs, by simp, by decide, by decide, by decide, by decide⟩, hc⟩, rfl⟩, csx (fun h3 => ?_) (fun h3 => cd1 rfl ?_)⟩))⟩
  · have e : exE es ss v cs = vaE es ss v := by unfold exE; rw [if_neg h1]
    unfold exO; rw [e, if_neg h1]; exact ⟨rfl, rfl, trivial⟩
  · have h1 := Decidable.not_not.1 h1
    have e : exE es ss v cs = 2 := by unfold exE; rw [if_pos h1, if_pos h2]
    unfold exO; rw [e, if_neg (by decide)]; exact ⟨rfl, rfl, trivial⟩
  · have h1 := Decidable.not_not.1 h1
    have e : exE es ss v cs = alE 501 es ss cs 0 [] 0 := by unfold exE; rw [if_pos h1, if_neg h2]; rfl
    unfold exO; rw [e, if_neg h3]; exact ⟨rfl, rfl, trivial⟩
  · have h1 := Decidable.not_not.1 h1
    have h3 := Decidable.not_not.1 h3
    have e : exE es ss v cs = alE 501 es ss cs 0 [] 0 := by unfold exE; rw [if_pos h1, if_neg h2]; rfl
    unfold exO; rw [e, h3, if_pos rfl]; exact ⟨⟨trivial, rfl⟩, rfl, trivial⟩
def gexpand_S (alE : Nat → LLA → LLA → LLA → Int → LLA → Int → Int) (alO : Nat → LLA → LLA → LLA → Int → LLA → Int → LLA) (alK : Nat → LLA → LLA → LLA → Int → LLA → Int → Int) (exO : LLA → LLA → Int → LLA → LLA) (exE : LLA → LLA → Int → LLA → Int) (vaE : List (List AV) → List (List AV) → Int → Int) : Prop := ∀ (es ss cs : List (List AV)) (v : Int) (f g h : Bool), (EnsP es ∧ SqsP ss) ∧ CdsP cs → fnK Tryd.prog { glob := glb, spec := lk [(25, (tvalidate_s vaE))], specH := lk [(37, (tall_s alE alO alK 501))], nowf := true } { nt := 30, drop := drp [(1, 1536), (2, 2048), (3, 8192), (4, 49152), (6, 917504), (7, 7340032), (8, 8388608), (9, 33554432), (10, 1006632960)], emp := fun id => cond (Nat.beq id 7) [(1001903, 500, 23, 5)] [] } (fun _ _ => none) 6 Tryd.f18 [.agg [.int .i64 v, .sl 5 f es, .sl 2 g ss], .sl 1 h cs] (.tup [.sl 5 false (exO es ss v cs), .int .i64 (exE es ss v cs)])
set_option maxRecDepth 100000 in
theorem gexpand_e (alE : Nat → LLA → LLA → LLA → Int → LLA → Int → Int) (alO : Nat → LLA → LLA → LLA → Int → LLA → Int → LLA) (alK : Nat → LLA → LLA → LLA → Int → LLA → Int → Int) (exO : LLA → LLA → Int → LLA → LLA) (exE : LLA → LLA → Int → LLA → Int) (vaE : List (List AV) → List (List AV) → Int → Int) : gexpand_T alE alO alK exO exE vaE = gexpand_S alE alO alK exO exE vaE := by kernel_rfl
theorem gexpand_v : gexpand_S alE alO alK exO exE vaE := @Eq.mp (gexpand_T alE alO alK exO exE vaE) (gexpand_S alE alO alK exO exE vaE) (gexpand_e alE alO alK exO exE vaE) (gexpand_P)
def texpand_s (exO : LLA → LLA → Int → LLA → LLA) (exE : LLA → LLA → Int → LLA → Int) : Sp
  | [.agg [.int .i64 v, .sl 5 f es, .sl 2 g ss], .sl 1 h cs] => some ((EnsP es ∧ SqsP ss) ∧ CdsP cs, .tup [.sl 5 false (exO es ss v cs), .int .i64 (exE es ss v cs)])
  | _ => none
theorem texpand_ok : SOK Tryd.prog glb 18 (texpand_s exO exE) := by
  refine ⟨fok Tryd.func18 (by kernel_rfl) (by kernel_rfl), ?_⟩
  intro xs pre r hh hp
  unfold texpand_s at hh
  split at hh
  · simp only [Option.some.injEq, Prod.mk.injEq] at hh
    obtain ⟨h1, h2⟩ := hh
    subst h1 h2
    exact fnK_sound tyNil (by exact specOK rfl rfl ⟨tvalidate_ok, trivial⟩ ⟨tall_ok glb 501, trivial⟩) (by kernel_rfl) Tryd.func18 rfl (gexpand_v _ _ _ _ _ _ _ hp)
  · cases hh
--KIND texpand S synoptic/table.Expand glob FUN exO : LLA → LLA → Int → LLA → LLA ; exE : LLA → LLA → Int → LLA → Int
end Go.Proofs.YthdfkiopppkfcaaDoor
