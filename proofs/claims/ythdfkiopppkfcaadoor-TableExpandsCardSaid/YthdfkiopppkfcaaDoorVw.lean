/- Bytes made a string. -/
import Derived.Test.YthdfkiopppkfcaaDoorVv
import Derived.Laws.BytesArg
namespace Go.Proofs.YthdfkiopppkfcaaDoor
open Go
open Go.RowKit (Below)
set_option linter.unusedVariables false
set_option linter.unusedSimpArgs false

def brow (ns : List Int) : List (List AV) := ns.map fun n => [.int .u8 n]
def bytesK : List (List AV) → (List Int → Prop) → Prop
  | [], k => k []
  | y :: l, k => match y with | [.int .u8 n] => bytesK l fun ns => k (n :: ns) | _ => False
theorem bytesK_sound : ∀ (ys : List (List AV)) (k : List Int → Prop), bytesK ys k → ∃ ns, k ns ∧ ys = brow ns
  | [], k, h => ⟨[], h, rfl⟩
  | y :: l, k, h => by
    simp only [bytesK] at h
    split at h
    · obtain ⟨ns, h1, h2⟩ := bytesK_sound l _ h
      exact ⟨_, h1, by rw [h2]; rfl⟩
    · exact h.elim
def bytes1 : List AV → (List Int → Prop) → Prop
  | [], k => k []
  | y :: l, k => match y with | .int .u8 n => bytes1 l fun ns => k (n :: ns) | _ => False
theorem bytes1_sound : ∀ (ys : List AV) (k : List Int → Prop), bytes1 ys k → ∃ ns, k ns ∧ ys = ns.map (AV.int .u8)
  | [], k, h => ⟨[], h, rfl⟩
  | y :: l, k, h => by
    simp only [bytes1] at h
    split at h
    · obtain ⟨ns, h1, h2⟩ := bytes1_sound l _ h
      exact ⟨_, h1, by rw [h2]; rfl⟩
    · exact h.elim
theorem CVl.ints {S : Pin} {m : Nm} {k : IntKind} : ∀ {ns : List Int} {vs : List Value}, CVl S (ns.map (AV.int k)) m vs → vs = ns.map (Value.int k)
  | [], vs, h => by simp only [List.map_nil, CVl] at h; simp [h]
  | n :: ns, vs, h => by
    simp only [List.map_cons, CVl, CV] at h
    obtain ⟨u, us, rfl, ⟨rfl, _⟩, h2⟩ := h
    rw [CVl.ints h2]; rfl
theorem brow_flat (ns : List Int) : (brow ns).flatten = ns.map (AV.int .u8) := by
  induction ns with
  | nil => rfl
  | cons n ns ih => simp only [brow, List.map_cons, List.flatten_cons] at ih ⊢; rw [ih]; rfl
def ab2s (P : Program) (src dst : TypeId) (h : Nat → Option Blk) (hint : Bool) (x : AV) (K : AV → List Nat → Prop) : Prop :=
  match P.underlying src, P.underlying dst with
  | some (.slice e), some .string => (match P.underlying e with
    | some (.int .u8) => (match x with
      | .ms k off n _ s => (match h k with | some (.cells cs) => cond (Nat.beq s 1 && Nat.ble (off + n) cs.length && Nat.ble n 9223372036854775807) (bytes1 ((cs.drop off).take n) fun ns => K (.str (strOfNums ns)) [k]) False | _ => False)
      | x => srcK h 1 x fun ys rd => cond hint (∃ ns, ys = brow ns ∧ chk (ns.length ≤ 9223372036854775807) (K (.str (strOfNums ns)) rd)) (bytesK ys fun ns => chk (ns.length ≤ 9223372036854775807) (K (.str (strOfNums ns)) rd)))
    | _ => False)
  | _, _ => False
theorem ab2s_sound {P : Program} {E : Env} {nt : Nat} {o : Oper} {src dst : TypeId} {y : Operand} {ev : Operand → AV} {h : Nat → Option Blk} {hint : Bool} {K : AV → List Nat → Prop} (ho : o.op = .convert src dst y) (hd : dstOk nt o.dst = true)
    (H : ab2s P src dst h hint (ev y) K) : ∃ r rd, K r rd ∧ Good P E nt o ev h r [] rd := by
  unfold ab2s at H
  split at H
  · rename_i e hs hdt
    split at H
    · rename_i he
      have conv : ∀ (w : World) (ad : Addr) (ns : List Int) (c : Nat), (loadCells ad ns.length).run P w = .ok (ns.map (Value.int .u8)).toArray w → (do let z ← convert src dst (Value.slice (some ad) ns.length c); pure (Next.value z) : Sem Next).run P w = .ok (.value (.string (strOfNums ns))) w := by
        intro w ad ns c hlc
        rw [Sem.run_bind, run_convert_bytes_string w src dst e _ _ c hs he hdt, run_bytesToString w ad _ c ns hlc, foldl_push_bytes]
        simp [strOfNums, ByteArray.empty, ByteArray.emptyWithCapacity]
        rfl
      have fin : ∀ (ys : List (List AV)) (rd : List Nat) (ns : List Int), ys = brow ns → ns.length ≤ 9223372036854775807 → (∀ (G : Gh) (kp : List Nat) (st : St) (a : Act) (w : World) (S : Pin) (m : Nm) (v : Value), Rel G kp st a w S m → (∀ j ∈ rd, lk st.heap j = h j) → CV S (ev y) m v → Src S noNm w 1 ys v) → Good P E nt o ev h (.str (strOfNums ns)) [] rd := by
        intro ys rd ns hy hlen hsrc
        refine good_value hd fun G kp st a w S m hG hR he' hk hf => ?_
        have hv := he' y (by simp [ho, Op.operands])
        obtain ⟨A, c, hve, h1, h2, news, h3, h4, h5, h6⟩ := hsrc G kp st a w S m _ hR hk hv
        subst hy
        rw [brow_flat] at h4
        have hn := CVl.ints h4
        subst hn
        have hl : (brow ns).length = ns.length := by simp [brow]
        refine ⟨.string (strOfNums ns), w, S, m, ?_, hR, by simp only [CV]; exact ⟨trivial, by rw [strOfNums_size]; exact hlen⟩⟩
        simp only [execOp, ho, hve, hl]
        rcases h6 with ⟨rfl, rfl⟩ | ⟨ad, rfl, h7⟩
        · have : ns = [] := List.eq_nil_of_length_eq_zero (by omega)
          subst this
          rw [Sem.run_bind]
          erw [run_convert_bytes_nil w src e hs he 0 0 dst hdt]
          rfl
        · have hlc : (loadCells ad ns.length).run P w = .ok (ns.map (Value.int .u8)).toArray w := by
            have := run_loadCells_list (P := P) w ad (ns.map (Value.int .u8)) (fun j v hj => h7 j v hj)
            simpa using this
          exact conv w ad ns c hlc
      split at H
      · rename_i x k off n c s hx
        split at H
        · rename_i cs hcs
          obtain ⟨hb, H1⟩ := cond_F H
          simp only [Bool.and_eq_true] at hb
          have hs1 := Nat.eq_of_beq_eq_true hb.1.1
          have hle := Nat.le_of_ble_eq_true hb.1.2
          have hn := Nat.le_of_ble_eq_true hb.2
          obtain ⟨ns, H2, hns⟩ := bytes1_sound _ _ H1
          have hlen : ns.length = n := by
            have := congrArg List.length hns
            simp at this; omega
          refine ⟨_, [k], H2, good_value hd fun G kp st a w S m hG hR he' hk hf => ?_⟩
          have hv := he' y (by simp [ho, Op.operands])
          rw [hx] at hv
          simp only [CV] at hv
          obtain ⟨g, ofs, hm, hve, h1, h2, h3⟩ := hv
          obtain ⟨g', arr, t, p1, p2, p3, p4⟩ := hR.held k _ ((hk k (by simp)).trans hcs)
          rw [hm] at p1
          injection p1 with p1
          injection p1 with p1
          injection p1 with p1
          injection p1 with p1
          subst p1
          have hval : (arr.toList.drop off).take n = ns.map (Value.int .u8) := by
            have := (p3.drop off).take n
            rw [hns] at this
            exact CVl.ints this
          refine ⟨.string (strOfNums ns), w, S, m, ?_, hR, by simp only [CV]; exact ⟨trivial, by rw [strOfNums_size, hlen]; exact hn⟩⟩
          simp only [execOp, ho, hve]
          have hlc : (loadCells ⟨g, ofs, none⟩ ns.length).run P w = .ok (ns.map (Value.int .u8)).toArray w := by
            have := run_loadCells_list (P := P) w ⟨g, ofs, none⟩ (ns.map (Value.int .u8)) (fun j v hj => by
              have hjn : j < n := by
                have := (List.getElem?_eq_some_iff.1 hj).1
                simp at this; omega
              have hc : c ≠ 0 := by omega
              rw [h1 hc, add_none, cell_of_row w g (off + j) arr t (0, 0) p2]
              rw [← hval, List.getElem?_take, if_pos hjn, List.getElem?_drop] at hj
              simpa using hj)
            simpa using this
          have := conv w ⟨g, ofs, none⟩ ns c hlc
          rw [hlen] at this
          exact this
        · exact H.elim
      · obtain ⟨ys, rd, H1, hsrc⟩ := srcK_sound H
        cases hint with
        | true =>
          simp only [cond_true] at H1
          obtain ⟨ns, hy, H2⟩ := H1
          obtain ⟨hl, H3⟩ := chk_iff.1 H2
          exact ⟨_, rd, H3, fin ys rd ns hy hl hsrc⟩
        | false =>
          simp only [cond_false] at H1
          obtain ⟨ns, H2, hy⟩ := bytesK_sound _ _ H1
          obtain ⟨hl, H3⟩ := chk_iff.1 H2
          exact ⟨_, rd, H3, fin ys rd ns hy hl hsrc⟩
    · exact H.elim
  · exact H.elim
end Go.Proofs.YthdfkiopppkfcaaDoor
