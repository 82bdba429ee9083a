/- Tables: the law's codes; the law of sequences. -/
import Derived.Test.YthdfkiopppkfcaaDoorTbO
import Derived.Test.YthdfkiopppkfcaaDoorTbP
import Derived.Test.YthdfkiopppkfcaaDoorTbS
namespace Go.Proofs.YthdfkiopppkfcaaDoor
open Go
set_option linter.unusedVariables false
set_option linter.unusedSimpArgs false

/-- Codes that are drawn: at most n. -/
structure CsP (n : Int) (cs : LLA) : Prop where
  fr : ∀ i, i < cs.length → ∃ c : Int, cs.getD i [] = [.int .i64 c] ∧ CodV c
  fl : (cs.length : Int) ≤ n
structure CsQ (n : Int) (cs : LLA) (j : Int) : Prop where
  fc : CsP n cs
  fj : 0 ≤ j
structure CsI (n : Int) (x : Int × Int × LLA) : Prop where
  flo : 0 ≤ x.1
  fhi : x.1 ≤ n
  fj : 0 ≤ x.2.1
  fc : CsP (n - x.1) x.2.2
theorem CsP.cds {n : Int} {cs : LLA} (h : CsP n cs) (hn : n ≤ 1000) : CdsP cs := ⟨fun i hi => by
  obtain ⟨c, e, hc⟩ := h.fr i hi
  have := hc.bd
  exact ⟨c, e, by show _ ∧ _; omega⟩, by have := h.fl; omega⟩
theorem CsI.add {n i j v j' : Int} {cs : LLA} (h : CsI n (i, j, cs)) (hi : 0 < i) (q : CodQ v j') : CsI n (i - 1, j', cs ++ [[.int .i64 v]]) := by
  obtain ⟨h0, h1, h2, h3, h4⟩ := h
  simp only at h0 h1 h2 h3 h4
  refine ⟨by simp only; omega, by simp only; omega, q.fj, fun q' hq => ?_, by simp; omega⟩
  simp only [List.length_append, List.length_singleton] at hq
  by_cases hl : q' < cs.length
  · obtain ⟨c, a1, a2⟩ := h3 q' hl
    refine ⟨c, ?_, a2⟩
    simp only
    rw [List.getD_eq_getElem?_getD, List.getElem?_append_left hl, ← List.getD_eq_getElem?_getD]; exact a1
  · refine ⟨v, ?_, q.fv⟩
    simp only
    rw [List.getD_eq_getElem?_getD, List.getElem?_append_right (by omega), show q' - cs.length = 0 by omega]; rfl
def csI (xs : LLA) (n : Int) : LInv := ⟨Int × Int × LLA, fun x => ⟨[(0, .ptr 0 0), (1, .int .i64 n), (5, .rw 1500 1 x.2.2.length), (6, .int .i64 x.1)], [(0, .cells [.sl 1 false xs, .int .i64 x.2.1]), (1500, .row 3 1 x.2.2)]⟩, CsI n, fun x => x.1.toNat, none⟩
def lcodes_s : SpQ
  | [.ptr 0 0, .int .i64 n], [.cells [.sl 1 false xs, .int .i64 i]] => some (fun K => (SrcQ xs i ∧ 0 ≤ n ∧ n ≤ 100) ∧ (∀ (cs : List (List AV)) (j : Int), (CsQ n cs j) → K (.sl 1 false cs) [.cells [.sl 1 false xs, .int .i64 j]]))
  | _, _ => none
set_option maxRecDepth 100000 in
def lcodes_T : Prop :=
  ∀ (gl : Glob) (xs : List (List AV)) (i n : Int), SrcQ xs i ∧ (0 : Int) ≤ n ∧ n ≤ (100 : Int) → bif decide (rng IntKind.i64 (n + (1 : Int))) then SrcQ xs i ∧ ∀ (v j : Int), NumQ (n
  + (1 : Int)) v j → (∃ x, CsI n x ∧ ((0 : Nat) = (0 : Nat) ∧ n = n ∧ (0 : Nat) = List.length x.snd.snd ∧ v = x.fst ∧ True) ∧ ((True ∧ xs = xs) ∧ j = x.snd.fst ∧ True) ∧ [] =
  x.snd.snd ∧ True) ∧ ∀ (x : Int × Int × LLA), CsI n x → bif decide ((0 : Int) < x.fst) then SrcQ xs x.snd.fst ∧ ∀ (v j : Int), CodQ v j → bif decide (List.length x.snd.snd =
  List.length x.snd.snd ∧ List.length x.snd.snd + [[AV.int IntKind.i64 v]].length ≤ (9223372036854775807 : Nat) ∧ (List.length x.snd.snd + [[AV.int IntKind.i64 v]].length) * (8 :
  Nat) ≤ (140737488355328 : Nat)) then bif decide (rng IntKind.i64 (x.fst - (1 : Int))) then ∃ y, CsI n y ∧ (csI xs n).m y < (csI xs n).m x ∧ ((0 : Nat) = (0 : Nat) ∧ n = n ∧
  (x.snd.snd ++ [[AV.int IntKind.i64 v]]).length = List.length y.snd.snd ∧ x.fst - (1 : Int) = y.fst ∧ True) ∧ ((True ∧ xs = xs) ∧ j = y.snd.fst ∧ True) ∧ x.snd.snd ++ [[AV.int
  IntKind.i64 v]] = y.snd.snd ∧ True else False else False else bif decide (List.length x.snd.snd = List.length x.snd.snd) then ∃ cs j, CsQ n cs j ∧ (True ∧ x.snd.snd = cs) ∧ ((True
  ∧ xs = xs) ∧ x.snd.fst = j ∧ True) ∧ True else False else False
set_option maxRecDepth 100000 in
theorem lcodes_P : lcodes_T := by
  unfold lcodes_T
  intro gl xs i n ⟨hs, n0, n1⟩
  have s := hs.s
  refine cdI (by omega) ⟨hs, fun v j q => ⟨⟨(v, j, []), ⟨?_, ?_, q.fj, ⟨fun i hi => by simp at hi, ?_⟩⟩, by (repeat' (first | exact trivial | exact rfl | apply And.intro))⟩, ?_⟩⟩
  · have := q.fv (by omega); simp only; omega
  · have := q.fv (by omega); simp only; omega
  · have := q.fv (by omega); simp; omega
  rintro ⟨i, j, cs⟩ p
  have p0 : 0 ≤ i := p.flo
  have p1 : i ≤ n := p.fhi
  have p2 : (cs.length : Int) ≤ n - i := p.fc.fl
  refine csx (fun hi => ⟨⟨s, p.fj⟩, fun v j' q => cd1 ⟨rfl, by simp; omega, by simp; omega⟩ (cdI (by simp only; omega) ⟨(i - 1, j', _), p.add hi q, by simp only [csI]; simp only at hi; omega, by (repeat' (first | exact trivial | exact rfl | apply And.intro))⟩)⟩) (fun hi => cd1 rfl ⟨cs, j, ⟨⟨p.fc.fr, by show (cs.length : Int) ≤ n; omega⟩, p.fj⟩, by (repeat' (first | exact trivial | exact rfl | apply And.intro))⟩)
def lcodes_S : Prop := ∀ (gl : Glob) (xs : List (List AV)) (i n : Int), SrcQ xs i ∧ 0 ≤ n ∧ n ≤ 100 → fnQ Tryd.prog { glob := gl, spec := lk [], specH := lk [], specQ := lk [(10, qn_s), (31, qcode_s)], nowf := true } { nt := 21, drop := drp [(2, 1920), (3, 2048), (4, 24576), (5, 1015808), (6, 1048576)], fr := 1000, kp := [0], emp := fun id => cond (Nat.beq id 2) [(5, 1500, 3, 1)] [] } (invs [(3, csI xs n)]) 6 Tryd.f17 [.ptr 0 0, .int .i64 n] [.cells [.sl 1 false xs, .int .i64 i]] (fun r2 bs2 => ∃ (cs : List (List AV)) (j : Int), (CsQ n cs j) ∧ le r2 (.sl 1 false cs) ∧ leBs bs2 [.cells [.sl 1 false xs, .int .i64 j]])
set_option maxRecDepth 100000 in
theorem lcodes_e : lcodes_T = lcodes_S := by kernel_rfl
theorem lcodes_v : lcodes_S := @Eq.mp (lcodes_T) (lcodes_S) (lcodes_e) (lcodes_P)
theorem lcodes_ok (gl : Glob) : QOK Tryd.prog gl 17 lcodes_s := by
  refine ⟨fok Tryd.func17 (by kernel_rfl) (by kernel_rfl), ?_⟩
  intro xs bs T h K hT
  unfold lcodes_s at h
  split at h
  · simp only [Option.some.injEq] at h
    subst h
    obtain ⟨hp, hK⟩ := hT
    obtain ⟨r, bs2, ⟨o0, o1, hq, hl, hb⟩, hC⟩ := fnQ_sound tyNil (by exact specOK rfl rfl trivial trivial (d := qsOf rfl ⟨(qn_ok gl), (qcode_ok gl), trivial⟩)) (by kernel_rfl) Tryd.func17 (lcodes_v gl _ _ _ hp)
    exact ⟨_, _, hK o0 o1 hq, hC.le hl hb⟩
  · cases h
theorem em_nl : EnsP [] := ⟨fun i hi => by simp at hi, by simp⟩
def AllO (P : List AV → Prop) (out : LLA) : Prop := ∀ x ∈ out, P x
section
variable {P : List AV → Prop} {es ss : LLA} {A : LLA → Int → LLA → Int → Rs}
theorem all_en (hP : AllO P es) {c : Int} {out : LLA} (h : AllO P out) : AllO P (enOut es c out) := by
  unfold enOut
  split
  · rename_i e
    unfold enErr at e
    split at e
    · cases e
    · rename_i hi
      obtain ⟨h1, _⟩ := idx_lt hi
      intro x hx
      rcases List.mem_append.1 hx with hx | hx
      · exact h x hx
      · simp only [List.mem_singleton] at hx
        subst hx
        rw [List.getD_eq_getElem?_getD, List.getElem?_eq_getElem h1]
        exact hP _ (List.getElem_mem h1)
  · exact h
def AllA (P : List AV → Prop) (A : LLA → Int → LLA → Int → Rs) : Prop := ∀ cs d out k, AllO P out → AllO P (A cs d out k).2.1
theorem all_sq (hA : AllA P A) {c d k : Int} {out : LLA} (h : AllO P out) : AllO P (sqR A ss c d out k).2.1 := by
  unfold sqR
  split
  · exact h
  · split
    · exact h
    · exact hA _ _ _ _ h
theorem all_rp (hA : AllA P A) {cs : LLA} {d : Int} : ∀ (t : Nat) (out : LLA) (k : Int), AllO P out → AllO P (rpR A cs d t out k).2.1
  | 0, _, _, h => h
  | t + 1, out, k, h => by
    unfold rpR
    split
    · exact all_rp hA t _ _ (hA _ _ _ _ h)
    · exact hA _ _ _ _ h
theorem all_fi (hP : AllO P es) (hA : AllA P A) {cs out : LLA} {d k : Int} (h : AllO P out) : AllO P (fiR A es ss cs d out k).2.2.1 := by
  unfold fiR
  split
  · exact h
  · split
    · exact all_en hP h
    · split
      · exact all_sq hA h
      · split
        · split
          · exact h
          · split
            · exact all_rp hA _ _ _ h
            · exact all_rp hA _ _ _ h
        · exact h
theorem all_al {F : LLA → LLA → Int → LLA × Rs} (hF : ∀ cs out k, AllO P out → AllO P (F cs out k).2.2.1) : ∀ (n : Nat) (cs out : LLA) (k : Int), AllO P out → AllO P (alL F n cs out k).2.1
  | 0, _, _, _, h => h
  | n + 1, cs, out, k, h => by
    unfold alL
    split
    · exact h
    · split
      · exact all_al hF n _ _ _ (hF _ _ _ h)
      · exact hF _ _ _ h
theorem all_R (hP : AllO P es) : ∀ m : Nat, AllA P (alR es ss m)
  | 0 => fun _ _ _ _ h => h
  | m + 1 => fun cs d out k h => all_al (F := fun cs out k => fiR (alR es ss m) es ss cs d out k) (fun cs out k h => all_fi hP (all_R hP m) h) cs.length cs out k h
end
theorem exO_ens {es ss cs : LLA} {v : Int} (he : EnsP es) (hs : SqsP ss) (hc : CdsP cs) : EnsP (exO es ss v cs) := by
  unfold exO
  split
  · have ok : OkR 0 (exR es ss cs) := alR_ok es ss 501 cs 0 [] 0 ⟨he, hs, by simp, by decide, by decide, by decide, by decide⟩ hc
    have al : AllO (fun r => ∃ c e w sc l : Int, r = [.int .i64 c, .int .i64 e, .int .i64 w, .int .i64 sc, .int .i64 l] ∧ rng .i64 c ∧ rng .i64 e ∧ rng .i64 w ∧ rng .i64 sc ∧ rng .i64 l) (exR es ss cs).2.1 := all_R (fun x hx => by
      obtain ⟨i, hi, e⟩ := List.mem_iff_getElem.1 hx
      have := he.fr i hi
      rw [List.getD_eq_getElem?_getD, List.getElem?_eq_getElem hi] at this
      simp only [Option.getD_some] at this
      rwa [e] at this) 501 cs 0 [] 0 (fun x hx => by simp at hx)
    refine ⟨fun i hi => ?_, by have := ok.fo; omega⟩
    rw [List.getD_eq_getElem?_getD, List.getElem?_eq_getElem hi]
    exact al _ (List.getElem_mem hi)
  · exact em_nl
theorem sq_snoc {ss cs : LLA} (h : SqP ss) (hc : CdsP cs) : SqsP (ss ++ [[AV.int .i64 12345, AV.sl 1 false cs]]) ∧ ¬ idxP (hcP 12345) (ss ++ [[AV.int .i64 12345, AV.sl 1 false cs]]) < 0 ∧ sqC ((ss ++ [[AV.int .i64 12345, AV.sl 1 false cs]]).getD (idxP (hcP 12345) (ss ++ [[AV.int .i64 12345, AV.sl 1 false cs]])).toNat []) = cs := by
  have hl := h.fl
  have lo : ∀ i, i < ss.length → (ss ++ [[AV.int .i64 12345, AV.sl 1 false cs]]).getD i [] = ss.getD i [] := fun i hi => by
    rw [List.getD_eq_getElem?_getD, List.getElem?_append_left hi, ← List.getD_eq_getElem?_getD]
  have hi : (ss ++ [[AV.int .i64 12345, AV.sl 1 false cs]]).getD ss.length [] = [AV.int .i64 12345, AV.sl 1 false cs] := by
    rw [List.getD_eq_getElem?_getD, List.getElem?_append_right (by omega), Nat.sub_self]; rfl
  have e : ((ss.length : Nat) : Int) = idxP (hcP 12345) (ss ++ [[AV.int .i64 12345, AV.sl 1 false cs]]) := idx_some (by simp) (by rw [hi]; rfl) (fun j hj => by
    rw [lo j hj]
    obtain ⟨q, e, _⟩ := h.fr j hj
    rw [e]
    exact decide_eq_false (by show ¬ (10000 + (j : Int) = 12345); omega))
  refine ⟨⟨fun i hi' => ?_, by simp; omega⟩, by omega, by rw [← e, Int.toNat_natCast, hi]; rfl⟩
  simp only [List.length_append, List.length_singleton] at hi'
  by_cases q : i < ss.length
  · rw [lo i q]; exact h.sqs.fr i q
  · have : i = ss.length := by omega
    subst this
    exact ⟨12345, cs, hi, by decide, hc⟩
def lseq_s : Sp
  | [.sl 1 false xs] => some (IntsA xs, .bool true)
  | _ => none
set_option maxRecDepth 100000 in
def lseq_T (vaE : List (List AV) → List (List AV) → Int → Int) (exO : LLA → LLA → Int → LLA → LLA) (exE : LLA → LLA → Int → LLA → Int) (sameE : List (List AV) → List (List AV) → Bool) : Prop :=
  ∀ (xs : List (List AV)), (∀ (x : List AV), List.Mem x xs → ∃ n, x = [AV.int IntKind.i64 n] ∧ rng IntKind.i64 n) → True → True ∧ SrcQ (List.take (2000 : Nat) xs) (0 : Int) ∧ ∀ (es
  ss : List (List AV)) (j : Int), TabQ es ss j → (SrcQ (List.take (2000 : Nat) xs) j ∧ (0 : Int) ≤ (4 : Int) ∧ (4 : Int) ≤ (100 : Int)) ∧ ∀ (cs : List (List AV)) (j : Int), CsQ (4 :
  Int) cs j → bif decide (ss.length = ss.length ∧ ss.length + [[AV.int IntKind.i64 (12345 : Int), AV.sl (1 : Nat) false cs]].length ≤ (9223372036854775807 : Nat) ∧ (ss.length +
  [[AV.int IntKind.i64 (12345 : Int), AV.sl (1 : Nat) false cs]].length) * (32 : Nat) ≤ (140737488355328 : Nat)) then bif decide (es.length = es.length) then bif decide ((ss ++
  [[AV.int IntKind.i64 (12345 : Int), AV.sl (1 : Nat) false cs]]).length = (ss ++ [[AV.int IntKind.i64 (12345 : Int), AV.sl (1 : Nat) false cs]]).length) then (EnsP es ∧ SqsP (ss ++
  [[AV.int IntKind.i64 (12345 : Int), AV.sl (1 : Nat) false cs]])) ∧ bif decide ¬vaE es (ss ++ [[AV.int IntKind.i64 (12345 : Int), AV.sl (1 : Nat) false cs]]) (1 : Int) = (0 : Int)
  then True ∧ true = true else bif decide (es.length = es.length) then bif decide ((ss ++ [[AV.int IntKind.i64 (12345 : Int), AV.sl (1 : Nat) false cs]]).length = (ss ++ [[AV.int
  IntKind.i64 (12345 : Int), AV.sl (1 : Nat) false cs]]).length) then ((EnsP es ∧ SqsP (ss ++ [[AV.int IntKind.i64 (12345 : Int), AV.sl (1 : Nat) false cs]])) ∧ CdsP [[AV.int
  IntKind.i64 (12345 : Int)]]) ∧ bif decide (es.length = es.length) then bif decide ((ss ++ [[AV.int IntKind.i64 (12345 : Int), AV.sl (1 : Nat) false cs]]).length = (ss ++ [[AV.int
  IntKind.i64 (12345 : Int), AV.sl (1 : Nat) false cs]]).length) then ((EnsP es ∧ SqsP (ss ++ [[AV.int IntKind.i64 (12345 : Int), AV.sl (1 : Nat) false cs]])) ∧ CdsP cs) ∧ bif decide
  (es.length = es.length) then bif decide ((ss ++ [[AV.int IntKind.i64 (12345 : Int), AV.sl (1 : Nat) false cs]]).length = (ss ++ [[AV.int IntKind.i64 (12345 : Int), AV.sl (1 : Nat)
  false cs]]).length) then ((EnsP es ∧ SqsP (ss ++ [[AV.int IntKind.i64 (12345 : Int), AV.sl (1 : Nat) false cs]])) ∧ CdsP [[AV.int IntKind.i64 (12345 : Int)], [AV.int IntKind.i64
  (100 : Int)]]) ∧ bif decide ¬exE es (ss ++ [[AV.int IntKind.i64 (12345 : Int), AV.sl (1 : Nat) false cs]]) (1 : Int) [[AV.int IntKind.i64 (12345 : Int)]] = (0 : Int) then bif
  decide ¬exE es (ss ++ [[AV.int IntKind.i64 (12345 : Int), AV.sl (1 : Nat) false cs]]) (1 : Int) cs = (0 : Int) then True ∧ true = true else bif decide (exE es (ss ++ [[AV.int
  IntKind.i64 (12345 : Int), AV.sl (1 : Nat) false cs]]) (1 : Int) [[AV.int IntKind.i64 (12345 : Int)]] = (2 : Int)) then True ∧ true = true else false = true else bif decide (exE es
  (ss ++ [[AV.int IntKind.i64 (12345 : Int), AV.sl (1 : Nat) false cs]]) (1 : Int) cs = (0 : Int)) then (EnsP (exO es (ss ++ [[AV.int IntKind.i64 (12345 : Int), AV.sl (1 : Nat) false
  cs]]) (1 : Int) [[AV.int IntKind.i64 (12345 : Int)]]) ∧ EnsP (exO es (ss ++ [[AV.int IntKind.i64 (12345 : Int), AV.sl (1 : Nat) false cs]]) (1 : Int) cs)) ∧ bif sameE (exO es (ss
  ++ [[AV.int IntKind.i64 (12345 : Int), AV.sl (1 : Nat) false cs]]) (1 : Int) [[AV.int IntKind.i64 (12345 : Int)]]) (exO es (ss ++ [[AV.int IntKind.i64 (12345 : Int), AV.sl (1 :
  Nat) false cs]]) (1 : Int) cs) then bif decide (exE es (ss ++ [[AV.int IntKind.i64 (12345 : Int), AV.sl (1 : Nat) false cs]]) (1 : Int) [[AV.int IntKind.i64 (12345 : Int)], [AV.int
  IntKind.i64 (100 : Int)]] = (0 : Int)) then bif decide (rng IntKind.i64 ((↑(List.length (exO es (ss ++ [[AV.int IntKind.i64 (12345 : Int), AV.sl (1 : Nat) false cs]]) (1 : Int)
  [[AV.int IntKind.i64 (12345 : Int)]])) : Int) + (1 : Int))) then bif decide ((↑(List.length (exO es (ss ++ [[AV.int IntKind.i64 (12345 : Int), AV.sl (1 : Nat) false cs]]) (1 : Int)
  [[AV.int IntKind.i64 (12345 : Int)], [AV.int IntKind.i64 (100 : Int)]])) : Int) = (↑(List.length (exO es (ss ++ [[AV.int IntKind.i64 (12345 : Int), AV.sl (1 : Nat) false cs]]) (1 :
  Int) [[AV.int IntKind.i64 (12345 : Int)]])) : Int) + (1 : Int)) then True ∧ true = true else bif decide (exE es (ss ++ [[AV.int IntKind.i64 (12345 : Int), AV.sl (1 : Nat) false
  cs]]) (1 : Int) [[AV.int IntKind.i64 (12345 : Int)], [AV.int IntKind.i64 (100 : Int)]] = (2 : Int)) then True ∧ true = true else false = true else False else bif decide (exE es (ss
  ++ [[AV.int IntKind.i64 (12345 : Int), AV.sl (1 : Nat) false cs]]) (1 : Int) [[AV.int IntKind.i64 (12345 : Int)], [AV.int IntKind.i64 (100 : Int)]] = (2 : Int)) then True ∧ true =
  true else false = true else false = true else false = true else False else False else False else False else False else False else False else False else False
set_option maxRecDepth 100000 in
theorem lseq_P : lseq_T vaE exO exE sameE := by
  unfold lseq_T
  intro xs hz _
  have hs : SrcI (List.take 2000 xs) := SrcI.take hz
  refine ⟨trivial, ⟨hs, by decide⟩, fun es ss j t => ⟨⟨⟨hs, t.fj⟩, by decide, by decide⟩, fun cs j q => ?_⟩⟩
  have he := t.fe.ens t.fl
  have hl := t.fs.fl
  have hc := q.fc.cds (by decide)
  have hcl := q.fc.fl
  obtain ⟨hq, i1, i2⟩ := sq_snoc (cs := cs) t.fs hc
  have h100 : ¬ idxP (hcP 100) es < 0 := by
    obtain ⟨w, sc, e, _⟩ := t.fe.fr 0 (by have := t.fl; omega)
    have := idx_some (xs := es) (p := hcP 100) (i := 0) (by have := t.fl; omega) (by rw [e]; rfl) (fun j hj => by omega)
    omega
  have c1 : CdsP [[.int .i64 12345]] := cds_of [12345] (by decide) (by decide)
  have c2 : CdsP [[.int .i64 12345], [.int .i64 100]] := cds_of [12345, 100] (by decide) (by decide)
  refine cd1 ⟨rfl, by simp; omega, by simp; omega⟩ ?_
  generalize ss ++ [[AV.int .i64 12345, AV.sl 1 false cs]] = S at hq i1 i2 ⊢
  refine cd1 rfl (cd1 rfl ⟨⟨he, hq⟩, csx (fun _ => ⟨trivial, rfl⟩) (fun hv => cd1 rfl (cd1 rfl ⟨⟨⟨he, hq⟩, c1⟩, cd1 rfl (cd1 rfl ⟨⟨⟨he, hq⟩, hc⟩, cd1 rfl (cd1 rfl ⟨⟨⟨he, hq⟩, c2⟩, ?_⟩)⟩)⟩))⟩)
  have R := seq_rel (Decidable.not_not.1 hv) he hq hc (by omega) (by decide) i1 i2 h100
  refine csx (fun h => csx (fun _ => ⟨trivial, rfl⟩) (fun h2 => ?_)) (fun h => ?_)
  · rcases R.e h with a | a
    · exact absurd a h2
    · exact cd1 a ⟨trivial, rfl⟩
  · obtain ⟨o1, o2, o3, o4⟩ := R.o (Decidable.not_not.1 h)
    refine cd1 o1 ⟨⟨exO_ens he hq c1, exO_ens he hq hc⟩, ?_⟩
    rw [o2, sameE_rfl]
    rcases o4 with ⟨a, a2⟩ | a
    · exact cd1 a (cdI (by omega) (cd1 (by rw [a2]; rfl) ⟨trivial, rfl⟩))
    · exact csx (fun q => by rw [a] at q; cases q) (fun _ => cd1 a ⟨trivial, rfl⟩)
def lseq_S (vaE : List (List AV) → List (List AV) → Int → Int) (exO : LLA → LLA → Int → LLA → LLA) (exE : LLA → LLA → Int → LLA → Int) (sameE : List (List AV) → List (List AV) → Bool) : Prop := ∀ (xs : List (List AV)), IntsA xs → fnK Tryd.prog { glob := glb, spec := lk [(22, (rvalidate_s vaE)), (18, (texpand_s exO exE)), (19, (tsame_s sameE)), (16, tawake_s)], specH := lk [(8, newsrc_s)], specQ := lk [(9, qtableO_s), (17, lcodes_s)], nowf := true } { nt := 84, drop := drp [(1, 12288), (2, 49152), (3, 196608), (4, 33292288), (5, 100663296), (6, 268435456), (7, 33822867456), (8, 2164663517184), (9, 138538465099776), (10, 140737488355328), (11, 287667426198290432), (12, 19342812825603690643587072)], frz := fun id => cond (Nat.beq id 5) [1000015, 1001015] [] } (fun _ _ => none) 6 Tryd.f5 [.sl 1 false xs] (.bool true)
set_option maxRecDepth 100000 in
theorem lseq_e (vaE : List (List AV) → List (List AV) → Int → Int) (exO : LLA → LLA → Int → LLA → LLA) (exE : LLA → LLA → Int → LLA → Int) (sameE : List (List AV) → List (List AV) → Bool) : lseq_T vaE exO exE sameE = lseq_S vaE exO exE sameE := by kernel_rfl
theorem lseq_v : lseq_S vaE exO exE sameE := @Eq.mp (lseq_T vaE exO exE sameE) (lseq_S vaE exO exE sameE) (lseq_e vaE exO exE sameE) (lseq_P)
theorem lseq_ok : SOK Tryd.prog glb 5 lseq_s := by
  refine ⟨fok Tryd.func5 (by kernel_rfl) (by kernel_rfl), ?_⟩
  intro xs pre r h hp
  unfold lseq_s at h
  split at h
  · simp only [Option.some.injEq, Prod.mk.injEq] at h
    obtain ⟨h1, h2⟩ := h
    subst h1 h2
    exact fnK_sound tyNil (by exact specOK rfl rfl ⟨(rvalidate_ok), (texpand_ok), (tsame_ok glb), (tawake_ok), trivial⟩ ⟨(newsrc_ok glb), trivial⟩ (d := qsOf rfl ⟨(qtableO_ok), (lcodes_ok glb), trivial⟩)) (by kernel_rfl) Tryd.func5 rfl (lseq_v  _ hp)
  · cases h
end Go.Proofs.YthdfkiopppkfcaaDoor
