/- Climates for the statements, and reports of all sorts. -/
import Derived.Test.YtceknalhogbbnaaDoorSeL
namespace Go.Proofs.YtceknalhogbbnaaDoor
open Go
set_option linter.unusedVariables false
set_option linter.unusedSimpArgs false

theorem sT' {xs : List (List AV)} {j : Int} : (True ∧ xs = xs) ∧ j = j ∧ True := ⟨⟨trivial, rfl⟩, rfl, trivial⟩
structure BntQ (t f a b c : Int) (ys : List (List AV)) (j : Int) : Prop where
  fr : RdsP ys
  fj : 0 ≤ j
theorem gD_set {xs : List (List AV)} {i k : Nat} {r : List AV} (hi : i < xs.length) : (xs.set i r).getD k [] = if k = i then r else xs.getD k [] := by
  rw [List.getD_eq_getElem?_getD, List.getElem?_set]
  by_cases h : i = k
  · rw [if_pos h, if_pos hi, if_pos h.symm]; rfl
  · rw [if_neg h, if_neg (fun q => h q.symm), List.getD_eq_getElem?_getD]
theorem ord_key {xs ys : List (List AV)} (hl : xs.length = ys.length) (hk : ∀ k, k < ys.length → nC 0 (xs.getD k []) = nC 0 (ys.getD k []) ∧ nC 1 (xs.getD k []) = nC 1 (ys.getD k []) ∧ nC 2 (xs.getD k []) = nC 2 (ys.getD k [])) (h : ordN ys = true) : ordN xs = true := by
  refine decide_eq_true fun j hj => ?_
  rcases of_decide_eq_true h j (by omega) with q | q
  · exact .inl q
  · right
    unfold cmpR at q ⊢
    obtain ⟨a1, a2, a3⟩ := hk (j - 1) (by omega)
    obtain ⟨b1, b2, b3⟩ := hk j (by omega)
    rw [a1, a2, a3, b1, b2, b3]
    exact q
theorem cv_ok {ys : List (List AV)} (hl : ys.length ≤ 200) (hr : ∀ k, k < ys.length → ∃ e g q a s : Int, ys.getD k [] = [.int .i64 e, .int .i64 g, .int .i64 q, .int .i64 a, .int .i64 s] ∧ (1 ≤ e ∧ e ≤ 11) ∧ (0 ≤ g ∧ g < 20) ∧ (1 ≤ q ∧ q ≤ 12) ∧ (-10000 ≤ a ∧ a ≤ 20000) ∧ 0 ≤ s ∧ s ≤ 20000) (ho : ordN ys = true) : cvE ys = 0 ∧ NrsP ys := by
  have k1 : ys.any kdP = false := any_no fun j hj => by
    obtain ⟨e, g, q, a, s, h1, h2, h3⟩ := hr j hj
    rw [h1]
    have ho : okC e = true := decide_eq_true (by omega)
    show (!okC e) = false
    rw [ho]; rfl
  have k2 : ys.any rgP = false := any_no fun j hj => by
    obtain ⟨e, g, q, a, s, h1, h2, h3, h4, h5, h6⟩ := hr j hj
    rw [h1]
    have ho : rgB g q a s = true := decide_eq_true ⟨h3, h4, h5, h6⟩
    show (!rgB g q a s) = false
    rw [ho]; rfl
  refine ⟨?_, ⟨fun i hi => ?_, by omega⟩⟩
  · unfold cvE
    rw [if_neg (by omega), k1, k2, ho]; rfl
  · obtain ⟨e, g, q, a, s, h1, h2, h3, h4, h5, h6⟩ := hr i hi
    exact ⟨e, g, q, a, s, h1, by show _ ∧ _; omega, by show _ ∧ _; omega, by show _ ∧ _; omega, by show _ ∧ _; omega, by show _ ∧ _; omega⟩
def qbent_s : SpQ
  | [.ptr 0 0, .agg [.int .i64 k, .str nm, .int .i64 t, .int .i64 f, .int .i64 a, .int .i64 b, .int .i64 c, .sl 2 h rd]], [.cells [.sl 1 false xs, .int .i64 i]] => some (fun K => (SrcQ xs i ∧ RdsP rd ∧ rd.length ≤ 100) ∧ (∀ (k1 : Int) (nm1 : ByteArray) (t1 f1 a1 b1 c1 : Int) (ys : List (List AV)) (j : Int), (BntQ t1 f1 a1 b1 c1 ys j) → K (.agg [.int .i64 k1, .str nm1, .int .i64 t1, .int .i64 f1, .int .i64 a1, .int .i64 b1, .int .i64 c1, .sl 2 false ys]) [.cells [.sl 1 false xs, .int .i64 j]]))
  | _, _ => none
set_option maxRecDepth 100000 in
def qbent_T : Prop :=
  ∀ (gl : Glob) (h : Bool) (xs rd : List (List AV)) (i k t f a b c : Int) (nm : ByteArray), SrcQ xs i ∧ RdsP rd ∧ rd.length ≤ (100 : Nat) → bif decide ((0 : Nat) = (0 : Nat) ∧ (0 :
  Nat) + rd.length ≤ (9223372036854775807 : Nat) ∧ ((0 : Nat) + rd.length) * (16 : Nat) ≤ (140737488355328 : Nat)) then SrcQ xs i ∧ ∀ (v j : Int), NumQ (8 : Int) v j → bif decide (v
  = (0 : Int)) then (SrcQ xs j ∧ (-1 : Int) ≤ (4 : Int) ∧ (-1000000000 : Int) ≤ (-1 : Int) ∧ (4 : Int) ≤ (1000000000 : Int)) ∧ ∀ (v j : Int), ((-1 : Int) ≤ v ∧ v ≤ (4 : Int)) ∧ (0 :
  Int) ≤ j → bif decide (([] ++ rd).length = ([] ++ rd).length) then ∃ k1 nm1 t1 f1 a1 b1 c1 ys j_1, BntQ t1 f1 a1 b1 c1 ys j_1 ∧ (v = k1 ∧ nm = nm1 ∧ t = t1 ∧ f = f1 ∧ a = a1 ∧ b =
  b1 ∧ c = c1 ∧ (True ∧ [] ++ rd = ys) ∧ True) ∧ ((True ∧ xs = xs) ∧ j = j_1 ∧ True) ∧ True else False else bif decide (v = (1 : Int)) then (SrcQ xs j ∧ ((6 : Nat) = (6 : Nat) ∧ (1 :
  Nat) ≤ (6 : Nat) ∧ (6 : Nat) ≤ (1000 : Nat)) ∧ StrsA [[AV.str { data := #[] }], [AV.str { data := #[(65 : UInt8), (76 : UInt8), (80 : UInt8), (72 : UInt8)] }], [AV.str { data :=
  #[(97 : UInt8), (108 : UInt8), (112 : UInt8), (104 : UInt8), (97 : UInt8)] }], [AV.str { data := #[(65 : UInt8), (76 : UInt8), (80 : UInt8), (72 : UInt8), (65 : UInt8), (49 :
  UInt8)] }], [AV.str { data := #[(65 : UInt8), (76 : UInt8), (32 : UInt8), (80 : UInt8), (72 : UInt8)] }], [AV.str { data := #[(65 : UInt8), (76 : UInt8), (80 : UInt8), (72 :
  UInt8), (65 : UInt8)] }]]) ∧ ∀ (v : ByteArray) (j : Int), PickQ [[AV.str { data := #[] }], [AV.str { data := #[(65 : UInt8), (76 : UInt8), (80 : UInt8), (72 : UInt8)] }], [AV.str {
  data := #[(97 : UInt8), (108 : UInt8), (112 : UInt8), (104 : UInt8), (97 : UInt8)] }], [AV.str { data := #[(65 : UInt8), (76 : UInt8), (80 : UInt8), (72 : UInt8), (65 : UInt8), (49
  : UInt8)] }], [AV.str { data := #[(65 : UInt8), (76 : UInt8), (32 : UInt8), (80 : UInt8), (72 : UInt8)] }], [AV.str { data := #[(65 : UInt8), (76 : UInt8), (80 : UInt8), (72 :
  UInt8), (65 : UInt8)] }]] (AV.str v) j → bif decide (([] ++ rd).length = ([] ++ rd).length) then ∃ k1 nm1 t1 f1 a1 b1 c1 ys j_1, BntQ t1 f1 a1 b1 c1 ys j_1 ∧ (k = k1 ∧ v = nm1 ∧ t
  = t1 ∧ f = f1 ∧ a = a1 ∧ b = b1 ∧ c = c1 ∧ (True ∧ [] ++ rd = ys) ∧ True) ∧ ((True ∧ xs = xs) ∧ j = j_1 ∧ True) ∧ True else False else bif decide (v = (2 : Int)) then (SrcQ xs j ∧
  ((3 : Nat) = (3 : Nat) ∧ (1 : Nat) ≤ (3 : Nat) ∧ (3 : Nat) ≤ (1000 : Nat)) ∧ IntsB [[AV.int IntKind.i64 (-1 : Int)], [AV.int IntKind.i64 (52596000 : Int)], [AV.int IntKind.i64 (0 :
  Int)]]) ∧ ∀ (v j : Int), PickQ [[AV.int IntKind.i64 (-1 : Int)], [AV.int IntKind.i64 (52596000 : Int)], [AV.int IntKind.i64 (0 : Int)]] (AV.int IntKind.i64 v) j → bif decide (([]
  ++ rd).length = ([] ++ rd).length) then ∃ k1 nm1 t1 f1 a1 b1 c1 ys j_1, BntQ t1 f1 a1 b1 c1 ys j_1 ∧ (k = k1 ∧ nm = nm1 ∧ v = t1 ∧ f = f1 ∧ a = a1 ∧ b = b1 ∧ c = c1 ∧ (True ∧ [] ++
  rd = ys) ∧ True) ∧ ((True ∧ xs = xs) ∧ j = j_1 ∧ True) ∧ True else False else bif decide (v = (3 : Int)) then SrcQ xs j ∧ ∀ (f a b c j : Int), PlaQ f a b c j → bif decide (([] ++
  rd).length = ([] ++ rd).length) then ∃ k1 nm1 t1 f1 a1 b1 c1 ys j_1, BntQ t1 f1 a1 b1 c1 ys j_1 ∧ (k = k1 ∧ nm = nm1 ∧ t = t1 ∧ f = f1 ∧ a = a1 ∧ b = b1 ∧ c = c1 ∧ (True ∧ [] ++ rd
  = ys) ∧ True) ∧ ((True ∧ xs = xs) ∧ j = j_1 ∧ True) ∧ True else False else bif decide (v = (4 : Int)) then (SrcQ xs j ∧ (-1 : Int) ≤ (20 : Int) ∧ (-1000000000 : Int) ≤ (-1 : Int) ∧
  (20 : Int) ≤ (1000000000 : Int)) ∧ ∀ (v j : Int), ((-1 : Int) ≤ v ∧ v ≤ (20 : Int)) ∧ (0 : Int) ≤ j → SrcQ xs j ∧ ∀ (v_1 j : Int), NumQ (841 : Int) v_1 j → SrcQ xs j ∧ ∀ (v_2 j :
  Int), NumQ (200 : Int) v_2 j → bif decide (([] ++ rd).length = ([] ++ rd).length) then ∃ k1 nm1 t1 f1 a1 b1 c1 ys j_1, BntQ t1 f1 a1 b1 c1 ys j_1 ∧ (k = k1 ∧ nm = nm1 ∧ t = t1 ∧ v
  = f1 ∧ v_1 = a1 ∧ v_2 = b1 ∧ (0 : Int) = c1 ∧ (True ∧ [] ++ rd = ys) ∧ True) ∧ ((True ∧ xs = xs) ∧ j = j_1 ∧ True) ∧ True else False else bif decide (v = (5 : Int)) then (SrcQ xs j
  ∧ (0 : Int) ≤ (12 : Int) ∧ (-1000000000 : Int) ≤ (0 : Int) ∧ (12 : Int) ≤ (1000000000 : Int)) ∧ ∀ (v j : Int), ((0 : Int) ≤ v ∧ v ≤ (12 : Int)) ∧ (0 : Int) ≤ j → SrcQ xs j ∧ ∀ (v_1
  j : Int), NumQ (9000 : Int) v_1 j → bif decide (([] ++ rd).length = ([] ++ rd).length ∧ ([] ++ rd).length + [[AV.int IntKind.i64 v, AV.int IntKind.i64 v_1]].length ≤
  (9223372036854775807 : Nat) ∧ (([] ++ rd).length + [[AV.int IntKind.i64 v, AV.int IntKind.i64 v_1]].length) * (16 : Nat) ≤ (140737488355328 : Nat)) then bif decide (([] ++ rd ++
  [[AV.int IntKind.i64 v, AV.int IntKind.i64 v_1]]).length = ([] ++ rd ++ [[AV.int IntKind.i64 v, AV.int IntKind.i64 v_1]]).length) then ∃ k1 nm1 t1 f1 a1 b1 c1 ys j_1, BntQ t1 f1 a1
  b1 c1 ys j_1 ∧ (k = k1 ∧ nm = nm1 ∧ t = t1 ∧ f = f1 ∧ a = a1 ∧ b = b1 ∧ c = c1 ∧ (True ∧ [] ++ rd ++ [[AV.int IntKind.i64 v, AV.int IntKind.i64 v_1]] = ys) ∧ True) ∧ ((True ∧ xs =
  xs) ∧ j = j_1 ∧ True) ∧ True else False else False else bif decide (v = (6 : Int)) then bif decide ((0 : Int) < (↑([] ++ rd).length : Int)) then SrcQ xs j ∧ ∀ (v j : Int), NumQ
  (↑([] ++ rd).length : Int) v j → (SrcQ xs j ∧ ((3 : Nat) = (3 : Nat) ∧ (1 : Nat) ≤ (3 : Nat) ∧ (3 : Nat) ≤ (1000 : Nat)) ∧ IntsB [[AV.int IntKind.i64 (-1001 : Int)], [AV.int
  IntKind.i64 (0 : Int)], [AV.int IntKind.i64 (99999 : Int)]]) ∧ ∀ (v_1 j : Int), PickQ [[AV.int IntKind.i64 (-1001 : Int)], [AV.int IntKind.i64 (0 : Int)], [AV.int IntKind.i64
  (99999 : Int)]] (AV.int IntKind.i64 v_1) j → bif decide ((0 : Int) ≤ v ∧ v < (↑([] ++ rd).length : Int)) then bif decide (([] ++ rd).length = ([] ++ rd).length ∧ v.toNat < ([] ++
  rd).length) then bif decide (([] ++ rd).length = (setEl ([] ++ rd) v.toNat (1 : Nat) [AV.int IntKind.i64 v_1]).length) then ∃ k1 nm1 t1 f1 a1 b1 c1 ys j_1, BntQ t1 f1 a1 b1 c1 ys
  j_1 ∧ (k = k1 ∧ nm = nm1 ∧ t = t1 ∧ f = f1 ∧ a = a1 ∧ b = b1 ∧ c = c1 ∧ (True ∧ setEl ([] ++ rd) v.toNat (1 : Nat) [AV.int IntKind.i64 v_1] = ys) ∧ True) ∧ ((True ∧ xs = xs) ∧ j =
  j_1 ∧ True) ∧ True else False else False else False else bif decide (([] ++ rd).length = ([] ++ rd).length) then ∃ k1 nm1 t1 f1 a1 b1 c1 ys j_1, BntQ t1 f1 a1 b1 c1 ys j_1 ∧ (k =
  k1 ∧ nm = nm1 ∧ t = t1 ∧ f = f1 ∧ a = a1 ∧ b = b1 ∧ c = c1 ∧ (True ∧ [] ++ rd = ys) ∧ True) ∧ ((True ∧ xs = xs) ∧ j = j_1 ∧ True) ∧ True else False else bif decide (([] ++
  rd).length = ([] ++ rd).length) then ∃ k1 nm1 t1 f1 a1 b1 c1 ys j_1, BntQ t1 f1 a1 b1 c1 ys j_1 ∧ (k = k1 ∧ nm = nm1 ∧ t = t1 ∧ f = f1 ∧ a = a1 ∧ b = b1 ∧ IntKind.i64.wrap (c + (1
  : Int)) = c1 ∧ (True ∧ [] ++ rd = ys) ∧ True) ∧ ((True ∧ xs = xs) ∧ j = j_1 ∧ True) ∧ True else False else False
set_option maxRecDepth 100000 in
theorem qbent_P : qbent_T := by
  unfold qbent_T
  intro gl h xs rd i k t f a b c nm ⟨hs, hr, hn⟩
  have s := hs.s
  have e0 : ([] : List (List AV)) ++ rd = rd := rfl
  have fin : ∀ {k t f a b c j : Int} {nm : ByteArray} {ys : List (List AV)}, RdsP ys → 0 ≤ j → ∃ k1 nm1 t1 f1 a1 b1 c1 zs j1, BntQ t1 f1 a1 b1 c1 zs j1 ∧ (k = k1 ∧ nm = nm1 ∧ t = t1 ∧ f = f1 ∧ a = a1 ∧ b = b1 ∧ c = c1 ∧ (True ∧ ys = zs) ∧ True) ∧ ((True ∧ xs = xs) ∧ j = j1 ∧ True) ∧ True := fun hr hj => ⟨_, _, _, _, _, _, _, _, _, ⟨hr, hj⟩, ⟨rfl, rfl, rfl, rfl, rfl, rfl, rfl, ⟨trivial, rfl⟩, trivial⟩, sT', trivial⟩
  refine cd1 ⟨rfl, by omega, by omega⟩ ⟨hs, fun v j q1 => ?_⟩
  have h1 : SrcQ xs j := ⟨s, q1.fj⟩
  refine cs (fun _ => ⟨⟨h1, by decide, by decide, by decide⟩, fun v j q => ?_⟩) (fun _ => cs (fun _ => ⟨⟨h1, ⟨rfl, by decide, by decide⟩, ⟨fun x hx => ?_⟩⟩, fun v j q => ?_⟩) (fun _ => cs (fun _ => ⟨⟨h1, ⟨rfl, by decide, by decide⟩, ints_of [-1, 52596000, 0] ?_⟩, fun v j q => ?_⟩) (fun _ => cs (fun _ => ⟨h1, fun f a b c j q => ?_⟩) (fun _ => cs (fun _ => ⟨⟨h1, by decide, by decide, by decide⟩, fun v j q => ⟨⟨s, q.2⟩, fun v2 j q2 => ⟨⟨s, q2.fj⟩, fun v3 j q3 => ?_⟩⟩⟩) (fun _ => cs (fun _ => ⟨⟨h1, by decide, by decide, by decide⟩, fun v j q => ⟨⟨s, q.2⟩, fun v2 j q2 => cd1 ⟨rfl, ?_, ?_⟩ ?_⟩⟩) (fun _ => cs (fun _ => cs (fun hlen => ⟨h1, fun v j q => ⟨⟨⟨s, q.fj⟩, ⟨rfl, by decide, by decide⟩, ints_of [-1001, 0, 99999] ?_⟩, fun v2 j q2 => ?_⟩⟩) (fun _ => ?_)) (fun _ => ?_)))))))
  · exact cd1 rfl (fin hr q.2)
  · simp only [List.mem_cons, List.not_mem_nil, or_false] at hx
    rcases hx with rfl | rfl | rfl | rfl | rfl | rfl <;> exact ⟨_, rfl⟩
  · exact cd1 rfl (fin hr q.fj)
  · intro n hn
    simp only [List.mem_cons, List.not_mem_nil, or_false] at hn
    show _ ∧ _
    omega
  · exact cd1 rfl (fin hr q.fj)
  · exact cd1 rfl (fin hr q.fj)
  · exact cd1 rfl (fin hr q3.fj)
  · simp; omega
  · simp; omega
  · refine cd1 rfl (fin ⟨fun i hi => ?_, by simp; omega⟩ q2.fj)
    rw [e0, List.length_append, List.length_singleton] at hi
    rw [e0, gD_app]
    by_cases hl : i < rd.length
    · rw [if_pos hl]; exact hr.row i hl
    · rw [if_neg hl, show i - rd.length = 0 by omega]
      have := q2.fv (by omega)
      exact ⟨v, v2, rfl, by show _ ∧ _; omega, by show _ ∧ _; omega⟩
  · intro n hn
    simp only [List.mem_cons, List.not_mem_nil, or_false] at hn
    show _ ∧ _
    omega
  · rw [e0] at q hlen ⊢
    have qv := q.fv (by omega)
    have := pick_of [-1001, 0, 99999] q2
    simp only [List.mem_cons, List.not_mem_nil, or_false] at this
    obtain ⟨e, v', he, r1, r2⟩ := hr.row v.toNat (by omega)
    have e1 : setEl rd v.toNat 1 [.int .i64 v2] = rd.set v.toNat [.int .i64 e, .int .i64 v2] := by unfold setEl; rw [he]; rfl
    refine cd1 (by omega) (cd1 (by omega) (cd1 (by simp [setEl]) ?_))
    rw [e1]
    refine fin ⟨fun i hi => ?_, by simp; omega⟩ q2.fj
    rw [List.length_set] at hi
    rw [gD_set (by omega)]
    by_cases hki : i = v.toNat
    · rw [if_pos hki]; exact ⟨e, v2, rfl, r1, by show _ ∧ _; omega⟩
    · rw [if_neg hki]; exact hr.row i hi
  · exact cd1 rfl (fin hr q1.fj)
  · exact cd1 rfl (fin hr q1.fj)
def qbent_S : Prop := ∀ (gl : Glob) (h : Bool) (xs rd : List (List AV)) (i k t f a b c : Int) (nm : ByteArray), SrcQ xs i ∧ RdsP rd ∧ rd.length ≤ 100 → fnQ Tryd.prog { glob := gl, spec := lk [], specH := lk [], specQ := lk [(13, qn_s), (14, qrange_s), (28, qpick_s), (38, qtext_s), (24, qplace_s)], nowf := true, wrap := true } { nt := 81, drop := drp [(1, 992), (2, 1024), (3, 258048), (4, 524288), (5, 7340032), (6, 16777216), (7, 503316480), (8, 1073741824), (9, 32212254720), (10, 68719476736), (11, 962072674304), (12, 2199023255552), (13, 1121501860331520), (14, 2251799813685248), (15, 4607182418800017408), (16, 9223372036854775808), (17, 129127208515966861312), (18, 1208630671709449821880320), (19, 1208925819614629174706176)], fr := 1000, kp := [0], frz := fun id => cond (Nat.beq id 19) [1001005] [] } (fun _ _ => none) 6 Tryd.f16 [.ptr 0 0, .agg [.int .i64 k, .str nm, .int .i64 t, .int .i64 f, .int .i64 a, .int .i64 b, .int .i64 c, .sl 2 h rd]] [.cells [.sl 1 false xs, .int .i64 i]] (fun r2 bs2 => ∃ (k1 : Int) (nm1 : ByteArray) (t1 f1 a1 b1 c1 : Int) (ys : List (List AV)) (j : Int), (BntQ t1 f1 a1 b1 c1 ys j) ∧ le r2 (.agg [.int .i64 k1, .str nm1, .int .i64 t1, .int .i64 f1, .int .i64 a1, .int .i64 b1, .int .i64 c1, .sl 2 false ys]) ∧ leBs bs2 [.cells [.sl 1 false xs, .int .i64 j]])
set_option maxRecDepth 100000 in
theorem qbent_e : qbent_T = qbent_S := by kernel_rfl
theorem qbent_v : qbent_S := @Eq.mp (qbent_T) (qbent_S) (qbent_e) qbent_P
theorem qbent_ok (gl : Glob) : QOK Tryd.prog gl 16 qbent_s := by
  refine ⟨fok Tryd.func16 (by kernel_rfl) (by kernel_rfl), ?_⟩
  intro xs bs T h K hT
  unfold qbent_s at h
  split at h
  · simp only [Option.some.injEq] at h
    subst h
    obtain ⟨hp, hK⟩ := hT
    obtain ⟨r, bs2, ⟨o0, o1, o2, o3, o4, o5, o6, o7, o8, hq, hl, hb⟩, hC⟩ := fnQ_sound tyNil (by exact specOK rfl rfl trivial trivial (d := qsOf rfl ⟨(qn_ok gl), (qrange_ok gl), (qpick_ok gl), (qtext_ok gl), (qplace_ok gl), trivial⟩)) (by kernel_rfl) Tryd.func16 (qbent_v gl _ _ _ _ _ _ _ _ _ _ _ hp)
    exact ⟨_, _, hK o0 o1 o2 o3 o4 o5 o6 o7 o8 hq, hC.le hl hb⟩
  · cases h
def dsmall_s : Sp
  | [.agg [.int .i64 k, .str nm, .int .i64 t, .int .i64 f, .int .i64 a, .int .i64 b, .int .i64 c, .sl 2 h rd]] => some (True, .bool (decide (nm.size ≤ 40) && decide ((rd.length : Int) ≤ 40)))
  | _ => none
set_option maxRecDepth 100000 in
def dsmall_T : Prop :=
  ∀ (gl : Glob) (h : Bool) (rd : List (List AV)) (k t f a b c : Int) (nm : ByteArray), ((-9223372036854775808 : Int) ≤ k ∧ k ≤ (9223372036854775807 : Int)) ∧ nm.size.le
  (9223372036854775807 : Nat) ∧ ((-9223372036854775808 : Int) ≤ t ∧ t ≤ (9223372036854775807 : Int)) ∧ ((-9223372036854775808 : Int) ≤ f ∧ f ≤ (9223372036854775807 : Int)) ∧
  ((-9223372036854775808 : Int) ≤ a ∧ a ≤ (9223372036854775807 : Int)) ∧ ((-9223372036854775808 : Int) ≤ b ∧ b ≤ (9223372036854775807 : Int)) ∧ ((-9223372036854775808 : Int) ≤ c ∧ c
  ≤ (9223372036854775807 : Int)) ∧ True ∧ True → bif decide ((↑nm.size : Int) ≤ (40 : Int)) then decide ((↑rd.length : Int) ≤ (40 : Int)) = (decide (nm.size ≤ (40 : Nat)) && decide
  ((↑rd.length : Int) ≤ (40 : Int))) else false = (decide (nm.size ≤ (40 : Nat)) && decide ((↑rd.length : Int) ≤ (40 : Int)))
set_option maxRecDepth 100000 in
theorem dsmall_P : dsmall_T := by
  unfold dsmall_T
  intro gl h rd k t f a b c nm _
  by_cases h1 : nm.size ≤ 40
  · refine cs (fun _ => ?_) (fun q => absurd (by omega) q)
    rw [decide_eq_true h1]; rfl
  · refine cs (fun q => absurd (by omega) h1) (fun q => ?_)
    rw [decide_eq_false h1]; rfl
def dsmall_S : Prop := ∀ (gl : Glob) (h : Bool) (rd : List (List AV)) (k t f a b c : Int) (nm : ByteArray), fnK Tryd.prog { glob := gl, spec := lk [], specH := lk [], nowf := true } { nt := 13, drop := drp [(1, 8184)] } (fun _ _ => none) 6 Tryd.f7 [.agg [.int .i64 k, .str nm, .int .i64 t, .int .i64 f, .int .i64 a, .int .i64 b, .int .i64 c, .sl 2 h rd]] (.bool (decide (nm.size ≤ 40) && decide ((rd.length : Int) ≤ 40)))
set_option maxRecDepth 100000 in
theorem dsmall_e : dsmall_T = dsmall_S := by kernel_rfl
theorem dsmall_v : dsmall_S := @Eq.mp (dsmall_T) (dsmall_S) (dsmall_e) dsmall_P
theorem dsmall_ok (gl : Glob) : SOK Tryd.prog gl 7 dsmall_s := by
  refine ⟨fok Tryd.func7 (by kernel_rfl) (by kernel_rfl), ?_⟩
  intro xs pre r h hp
  unfold dsmall_s at h
  split at h
  · simp only [Option.some.injEq, Prod.mk.injEq] at h
    obtain ⟨h1, h2⟩ := h
    subst h1 h2
    exact fnK_sound tyNil (by exact specOK rfl rfl trivial trivial) (by kernel_rfl) Tryd.func7 rfl (dsmall_v gl _ _ _ _ _ _ _ _ _)
  · cases h
structure CliQ (ys : List (List AV)) (j : Int) : Prop where
  fc : cvE ys = 0
  fp : NrsP ys
  fl : ys.length ≤ 200
  fj : 0 ≤ j
structure CliP (x : Int × Int × List (List AV)) : Prop where
  fi : 0 ≤ x.1 ∧ x.1 ≤ x.2.2.length
  fj : 0 ≤ x.2.1
  fr : ∀ k, k < x.2.2.length → ∃ e g q a s : Int, x.2.2.getD k [] = [.int .i64 e, .int .i64 g, .int .i64 q, .int .i64 a, .int .i64 s] ∧ (1 ≤ e ∧ e ≤ 11) ∧ (0 ≤ g ∧ g < 20) ∧ (1 ≤ q ∧ q ≤ 12) ∧ (-1030 ≤ a ∧ a ≤ 11030) ∧ (x.1 ≤ k → -1000 ≤ a ∧ a ≤ 11000) ∧ 0 ≤ s ∧ s ≤ 12000
  fo : ordN x.2.2 = true
  fl : x.2.2.length ≤ 200
theorem cli_up {i j j' e g q a s a' s' : Int} {ys : List (List AV)} (h : CliP (i, j, ys)) (hl : i < ys.length) (hr : ys.getD i.toNat [] = [.int .i64 e, .int .i64 g, .int .i64 q, .int .i64 a, .int .i64 s]) (h2 : (1 ≤ e ∧ e ≤ 11) ∧ (0 ≤ g ∧ g < 20) ∧ (1 ≤ q ∧ q ≤ 12)) (ha : -1030 ≤ a' ∧ a' ≤ 11030) (hs : 0 ≤ s' ∧ s' ≤ 12000) (hj : 0 ≤ j') : CliP (i + 1, j', ys.set i.toNat [.int .i64 e, .int .i64 g, .int .i64 q, .int .i64 a', .int .i64 s']) := by
  obtain ⟨⟨i0, i1⟩, _, hf, ho, hn⟩ := h
  simp only at i0 i1 hf ho hn
  have hi : i.toNat < ys.length := by omega
  refine ⟨by simp; omega, hj, fun k hk => ?_, ?_, by simp; exact hn⟩
  · simp only [List.length_set] at hk ⊢
    rw [gD_set hi]
    by_cases hki : k = i.toNat
    · rw [if_pos hki]
      exact ⟨e, g, q, a', s', rfl, h2.1, h2.2.1, h2.2.2, ha, by omega, hs⟩
    · rw [if_neg hki]
      obtain ⟨e, g, q, a, s, h1, h2, h3, h4, h5, h6, h7⟩ := hf k hk
      exact ⟨e, g, q, a, s, h1, h2, h3, h4, h5, fun hh => h6 (by omega), h7⟩
  · simp only
    refine ord_key (by simp) (fun k hk => ?_) ho
    rw [gD_set hi]
    by_cases hki : k = i.toNat
    · rw [if_pos hki, hki, hr]; exact ⟨rfl, rfl, rfl⟩
    · rw [if_neg hki]; exact ⟨rfl, rfl, rfl⟩
theorem cli_no {i j j' : Int} {ys : List (List AV)} (h : CliP (i, j, ys)) (hl : i < ys.length) (hj : 0 ≤ j') : CliP (i + 1, j', ys) := by
  obtain ⟨⟨i0, i1⟩, _, hf, ho, hn⟩ := h
  simp only at i0 i1 hf ho hn
  refine ⟨by simp only; omega, hj, fun k hk => ?_, ho, hn⟩
  obtain ⟨e, g, q, a, s, h1, h2, h3, h4, h5, h6, h7⟩ := hf k hk
  exact ⟨e, g, q, a, s, h1, h2, h3, h4, h5, fun hh => h6 (by simp only at hh; omega), h7⟩
def cliI (xs : List (List AV)) (near e : Int) (n : Nat) : LInv := ⟨Int × Int × List (List AV), fun x => ⟨[(0, .ptr 0 0), (1, .int .i64 near), (4, .ptr 1004 0), (5, .ptr 1005 0), (6, .int .i64 e), (17, .int .i64 n), (18, .int .i64 x.1)], [(0, .cells [.sl 1 false xs, .int .i64 x.2.1]), (1004, .cells [.nils]), (1005, .cells [.rw 1012 5 n]), (1012, .row 43 5 x.2.2)]⟩, fun x => CliP x ∧ x.2.2.length = n, fun x => (n - x.1).toNat, none⟩
def cliJ (xs : List (List AV)) (id : Nat) (st : St) : Option LInv := cond (Nat.beq id 3) (match lk st.tmps 1, lk st.tmps 6, lk st.heap 1012 with
  | some (.int _ m), some (.int _ e), some (.row _ _ ys) => some (cliI xs m e ys.length)
  | _, _, _ => none) none
def dclimate_s : SpQ
  | [.ptr 0 0, .int .i64 near], [.cells [.sl 1 false xs, .int .i64 i]] => some (fun K => (SrcQ xs i ∧ (0 ≤ near ∧ near ≤ 52595999)) ∧ (∀ (ys : List (List AV)) (j : Int), (CliQ ys j) → K (.agg [.sl 5 false ys]) [.cells [.sl 1 false xs, .int .i64 j]]))
  | _, _ => none
set_option maxRecDepth 100000 in
def dclimate_T : Prop :=
  ∀ (gl : Glob) (xs : List (List AV)) (i near : Int), SrcQ xs i ∧ (0 : Int) ≤ near ∧ near ≤ (52595999 : Int) → (SrcQ xs i ∧ ((0 : Int) ≤ near ∧ near ≤ (52595999 : Int)) ∧ (0 : Int) ≤
  (6 : Int) ∧ (6 : Int) ≤ (1000 : Int)) ∧ ∀ (ys : List (List AV)) (j : Int), PlcQ (6 : Int) ys j → (RpsV ys ∧ ys.length ≤ (1000 : Nat)) ∧ ∀ (ys_1 : List (List AV)) (e : Int), LrnQ ys
  ys_1 e → (∃ x, (CliP x ∧ x.snd.snd.length = ys_1.length) ∧ ((0 : Nat) = (0 : Nat) ∧ near = near ∧ (0 : Nat) = (0 : Nat) ∧ (0 : Nat) = (0 : Nat) ∧ e = e ∧ (↑ys_1.length : Int) =
  (↑ys_1.length : Int) ∧ (0 : Int) = x.fst ∧ True) ∧ ((True ∧ xs = xs) ∧ j = x.snd.fst ∧ True) ∧ (True ∧ True) ∧ (ys_1.length = ys_1.length ∧ True) ∧ ys_1 = x.snd.snd ∧ True) ∧ ∀ (x
  : Int × Int × List (List AV)), CliP x ∧ x.snd.snd.length = ys_1.length → bif decide (x.fst < (↑ys_1.length : Int)) then SrcQ xs x.snd.fst ∧ ∀ (v j : Int), NumQ (4 : Int) v j → bif
  decide (v = (0 : Int)) then SrcQ xs j ∧ ∀ (v j : Int), NumQ (60 : Int) v j → bif decide ((0 : Int) ≤ x.fst ∧ x.fst < (↑ys_1.length : Int)) then bif decide (ys_1.length =
  x.snd.snd.length ∧ x.fst.toNat < x.snd.snd.length) then bif decide (rng IntKind.i64 (x.fst + (1 : Int))) then ∃ y, (CliP y ∧ y.snd.snd.length = ys_1.length) ∧ (cliI xs near e
  ys_1.length).m y < (cliI xs near e ys_1.length).m x ∧ ((0 : Nat) = (0 : Nat) ∧ near = near ∧ (0 : Nat) = (0 : Nat) ∧ (0 : Nat) = (0 : Nat) ∧ e = e ∧ (↑ys_1.length : Int) =
  (↑ys_1.length : Int) ∧ x.fst + (1 : Int) = y.fst ∧ True) ∧ ((True ∧ xs = xs) ∧ j = y.snd.fst ∧ True) ∧ (True ∧ True) ∧ (ys_1.length = ys_1.length ∧ True) ∧ setEl x.snd.snd
  x.fst.toNat (4 : Nat) [AV.int IntKind.i64 v] = y.snd.snd ∧ True else False else False else False else bif decide (v = (1 : Int)) then bif decide ((0 : Int) ≤ x.fst ∧ x.fst <
  (↑ys_1.length : Int)) then bif decide (ys_1.length = x.snd.snd.length ∧ x.fst.toNat < x.snd.snd.length) then ∃ n, List.take [AV.int IntKind.i64 n].length (List.drop (3 : Nat)
  (x.snd.snd.getD x.fst.toNat [])) = [AV.int IntKind.i64 n] ∧ (SrcQ xs j ∧ (-30 : Int) ≤ (30 : Int) ∧ (-1000000000 : Int) ≤ (-30 : Int) ∧ (30 : Int) ≤ (1000000000 : Int)) ∧ ∀ (v j :
  Int), ((-30 : Int) ≤ v ∧ v ≤ (30 : Int)) ∧ (0 : Int) ≤ j → bif decide (rng IntKind.i64 (n + v)) then bif decide ((0 : Int) ≤ x.fst ∧ x.fst < (↑ys_1.length : Int)) then bif decide
  (ys_1.length = x.snd.snd.length ∧ x.fst.toNat < x.snd.snd.length) then bif decide (rng IntKind.i64 (x.fst + (1 : Int))) then ∃ y, (CliP y ∧ y.snd.snd.length = ys_1.length) ∧ (cliI
  xs near e ys_1.length).m y < (cliI xs near e ys_1.length).m x ∧ ((0 : Nat) = (0 : Nat) ∧ near = near ∧ (0 : Nat) = (0 : Nat) ∧ (0 : Nat) = (0 : Nat) ∧ e = e ∧ (↑ys_1.length : Int)
  = (↑ys_1.length : Int) ∧ x.fst + (1 : Int) = y.fst ∧ True) ∧ ((True ∧ xs = xs) ∧ j = y.snd.fst ∧ True) ∧ (True ∧ True) ∧ (ys_1.length = ys_1.length ∧ True) ∧ setEl x.snd.snd
  x.fst.toNat (3 : Nat) [AV.int IntKind.i64 (n + v)] = y.snd.snd ∧ True else False else False else False else False else False else False else bif decide (rng IntKind.i64 (x.fst + (1
  : Int))) then ∃ y, (CliP y ∧ y.snd.snd.length = ys_1.length) ∧ (cliI xs near e ys_1.length).m y < (cliI xs near e ys_1.length).m x ∧ ((0 : Nat) = (0 : Nat) ∧ near = near ∧ (0 :
  Nat) = (0 : Nat) ∧ (0 : Nat) = (0 : Nat) ∧ e = e ∧ (↑ys_1.length : Int) = (↑ys_1.length : Int) ∧ x.fst + (1 : Int) = y.fst ∧ True) ∧ ((True ∧ xs = xs) ∧ j = y.snd.fst ∧ True) ∧
  (True ∧ True) ∧ (ys_1.length = ys_1.length ∧ True) ∧ x.snd.snd = y.snd.snd ∧ True else False else bif decide (ys_1.length = x.snd.snd.length) then ∃ ys j, CliQ ys j ∧ ((True ∧
  x.snd.snd = ys) ∧ True) ∧ ((True ∧ xs = xs) ∧ x.snd.fst = j ∧ True) ∧ True else False
set_option maxRecDepth 100000 in
theorem dclimate_P : dclimate_T := by
  unfold dclimate_T
  intro gl xs i near ⟨hs, h1⟩
  have s := hs.s
  refine ⟨⟨hs, h1, by decide, by decide⟩, fun rs j q1 => ⟨⟨q1.fr, by have := q1.fl; omega⟩, fun ys e q2 => ?_⟩⟩
  have ini : CliP (0, j, ys) := by
    refine ⟨by simp, q1.fj, fun k hk => ?_, q2.fn.ford, q2.fl⟩
    obtain ⟨e, g, q, a, s, h1, h2, h3, h4, h5, h6, _⟩ := q2.fn.frow k hk
    exact ⟨e, g, q, a, s, h1, h2, h3, h4, by omega, fun _ => h5, h6⟩
  refine ⟨⟨(0, j, ys), ⟨ini, rfl⟩, ⟨rfl, rfl, rfl, rfl, rfl, rfl, rfl, trivial⟩, sT', ⟨trivial, trivial⟩, ⟨rfl, trivial⟩, rfl, trivial⟩, ?_⟩
  rintro ⟨i, j, zs⟩ ⟨hp, hz⟩
  simp only at hz
  have hj : 0 ≤ j := hp.fj
  have hi : 0 ≤ i ∧ i ≤ zs.length := hp.fi
  dsimp only
  have nx : ∀ {j' : Int} {zs' : List (List AV)}, i < zs.length → CliP (i + 1, j', zs') → zs'.length = zs.length → cond (decide (rng .i64 (i + 1))) (∃ y : Int × Int × List (List AV), (CliP y ∧ y.snd.snd.length = ys.length) ∧ (cliI xs near e ys.length).m y < (cliI xs near e ys.length).m (i, j, zs) ∧ ((0 : Nat) = 0 ∧ near = near ∧ (0 : Nat) = 0 ∧ (0 : Nat) = 0 ∧ e = e ∧ (ys.length : Int) = ys.length ∧ i + 1 = y.fst ∧ True) ∧ ((True ∧ xs = xs) ∧ j' = y.snd.fst ∧ True) ∧ (True ∧ True) ∧ (ys.length = ys.length ∧ True) ∧ zs' = y.snd.snd ∧ True) False := by
    intro j' zs' hl h hn
    exact cdI (by have := hp.fl; simp only at this; omega) ⟨(i + 1, j', zs'), ⟨h, by simp only; omega⟩, by simp only [cliI]; omega, ⟨rfl, rfl, rfl, rfl, rfl, rfl, rfl, trivial⟩, ⟨⟨trivial, rfl⟩, rfl, trivial⟩, ⟨trivial, trivial⟩, ⟨rfl, trivial⟩, rfl, trivial⟩
  refine cs (fun hl => ⟨⟨s, hj⟩, fun v j1 p1 => ?_⟩) (fun hl => ?_)
  · have hl : i < zs.length := by omega
    obtain ⟨e', g, q, a, s', r1, r2, r3, r4, r5, r6, r7⟩ := hp.fr i.toNat (show i.toNat < zs.length by omega)
    simp only at r1 r6
    have r6 := r6 (by omega)
    refine cs (fun _ => ⟨⟨s, p1.fj⟩, fun v2 j2 p2 => cd1 (by omega) (cd1 (by omega) ?_)⟩) (fun _ => cs (fun _ => cd1 (by omega) (cd1 (by omega) ⟨a, by rw [r1]; rfl, ⟨⟨s, p1.fj⟩, by decide, by decide, by decide⟩, fun v2 j2 p2 => cdI (by omega) (cd1 (by omega) (cd1 (by omega) ?_))⟩)) (fun _ => ?_))
    · refine nx hl ?_ (List.length_set ..)
      have := p2.fv (by omega)
      have hh := cli_up (a' := a) (s' := v2) hp hl r1 ⟨r2, r3, r4⟩ r5 (by omega) p2.fj
      have e1 : setEl zs i.toNat 4 [.int .i64 v2] = zs.set i.toNat [.int .i64 e', .int .i64 g, .int .i64 q, .int .i64 a, .int .i64 v2] := by unfold setEl; rw [r1]; rfl
      rw [e1]; exact hh
    · refine nx hl ?_ (List.length_set ..)
      have hh := cli_up (a' := a + v2) (s' := s') hp hl r1 ⟨r2, r3, r4⟩ (by omega) r7 p2.2
      have e1 : setEl zs i.toNat 3 [.int .i64 (a + v2)] = zs.set i.toNat [.int .i64 e', .int .i64 g, .int .i64 q, .int .i64 (a + v2), .int .i64 s'] := by unfold setEl; rw [r1]; rfl
      rw [e1]; exact hh
    · exact nx hl (cli_no hp hl p1.fj) rfl
  · have cv := cv_ok hp.fl (fun k hk => by
      obtain ⟨e, g, q, a, s, h1, h2, h3, h4, h5, h6, h7⟩ := hp.fr k hk
      exact ⟨e, g, q, a, s, h1, h2, h3, h4, by omega, by omega⟩) hp.fo
    exact cd1 hz.symm ⟨zs, j, ⟨cv.1, cv.2, hp.fl, hj⟩, ⟨⟨trivial, rfl⟩, trivial⟩, sT', trivial⟩
def dclimate_S : Prop := ∀ (gl : Glob) (xs : List (List AV)) (i near : Int), SrcQ xs i ∧ (0 ≤ near ∧ near ≤ 52595999) → fnQ Tryd.prog { glob := gl, spec := lk [], specH := lk [], specQ := lk [(11, qplaced_s), (12, qlearn_s), (13, qn_s), (14, qrange_s)], shape := [39], nowf := true } { nt := 47, drop := drp [(1, 32512), (2, 98304), (4, 1048576), (5, 2097152), (6, 16777216), (7, 4261412864), (8, 8589934592), (9, 35167192219648), (10, 35184372088832), (11, 70368744177664)], fr := 1000, kp := [0], frz := fun id => cond (Nat.beq id 11) [1001012] [] } (cliJ xs) 6 Tryd.f23 [.ptr 0 0, .int .i64 near] [.cells [.sl 1 false xs, .int .i64 i]] (fun r2 bs2 => ∃ (ys : List (List AV)) (j : Int), (CliQ ys j) ∧ le r2 (.agg [.sl 5 false ys]) ∧ leBs bs2 [.cells [.sl 1 false xs, .int .i64 j]])
set_option maxRecDepth 100000 in
theorem dclimate_e : dclimate_T = dclimate_S := by kernel_rfl
theorem dclimate_v : dclimate_S := @Eq.mp (dclimate_T) (dclimate_S) (dclimate_e) dclimate_P
theorem dclimate_ok (gl : Glob) : QOK Tryd.prog gl 23 dclimate_s := by
  refine ⟨fok Tryd.func23 (by kernel_rfl) (by kernel_rfl), ?_⟩
  intro xs bs T h K hT
  unfold dclimate_s at h
  split at h
  · simp only [Option.some.injEq] at h
    subst h
    obtain ⟨hp, hK⟩ := hT
    obtain ⟨r, bs2, ⟨o0, o1, hq, hl, hb⟩, hC⟩ := fnQ_sound tyNil (by exact specOK rfl rfl trivial trivial (d := qsOf rfl ⟨(qplaced_ok gl), (qlearn_ok gl), (qn_ok gl), (qrange_ok gl), trivial⟩)) (by kernel_rfl) Tryd.func23 (dclimate_v gl _ _ _ hp)
    exact ⟨_, _, hK o0 o1 hq, hC.le hl hb⟩
  · cases h
end Go.Proofs.YtceknalhogbbnaaDoor
