/- A string made bytes: an own row, whose block bears a mark behind its end. -/
import Derived.Test.YthdfkiopppkfcaaDoorVw
import Derived.Lib.ConvBytes
namespace Go.Proofs.YthdfkiopppkfcaaDoor
open Go
open Go.RowKit (Below)
set_option linter.unusedVariables false
set_option linter.unusedSimpArgs false

/-- The bytes of a string, as numbers. -/
def strNums (s : ByteArray) : List Int := s.data.toList.map fun b => (b.toNat : Int)
theorem strNums_len (s : ByteArray) : (strNums s).length = s.size := by simp [strNums]
theorem strNums_byte (s : ByteArray) (i : Nat) : (strNums s).getD i 0 = byteI s i := by
  unfold strNums byteI
  rw [List.getD_eq_getElem?_getD, List.getElem?_map]
  rcases Nat.lt_or_ge i s.size with h | h
  · rw [getElem?_pos s i h]
    have h2 : i < s.data.toList.length := by simpa using h
    rw [List.getElem?_eq_getElem h2]
    simp [ByteArray.getElem_eq_getElem_data]
  · rw [getElem?_neg s i (by omega)]
    have h2 : s.data.toList.length ≤ i := by simpa using h
    rw [List.getElem?_eq_none h2]
    rfl
theorem strOf_nums (s : ByteArray) : strOfNums (strNums s) = s := by
  unfold strOfNums strNums
  have : (s.data.toList.map (fun b => (b.toNat : Int))).map (fun n : Int => UInt8.ofNat n.toNat) = s.data.toList := by
    rw [List.map_map]
    conv => rhs; rw [← List.map_id s.data.toList]
    refine List.map_congr_left fun b _ => ?_
    simp
  simp [this]
def as2b (P : Program) (nm : Nat) (src dst : TypeId) (x : AV) (K : AV → List (Nat × Blk) → List Nat → Prop) : Prop :=
  match P.underlying src, P.underlying dst with
  | some .string, some (.slice e) => (match P.underlying e with
    | some (.int .u8) => (match x with
      | .str s => cond (Nat.blt e 1000000) (K (.rw nm 1 s.size) [(nm, .row (Nat.add e 1000000) 1 (brow (strNums s)))] []) False
      | _ => False)
    | _ => False)
  | _, _ => False
theorem as2b_sound {P : Program} {E : Env} {nt nm : Nat} {o : Oper} {src dst : TypeId} {y : Operand} {ev : Operand → AV} {h : Nat → Option Blk} {K : AV → List (Nat × Blk) → List Nat → Prop} (ho : o.op = .convert src dst y) (hd : dstOk nt o.dst = true)
    (H : as2b P nm src dst (ev y) K) : ∃ r b, K r [(nm, b)] [] ∧ Good P E nt o ev h r [(nm, b)] [] := by
  unfold as2b at H
  split at H
  · rename_i e hs hdt
    split at H
    · rename_i he
      split at H
      · rename_i s hx
        obtain ⟨hle, H1⟩ := cond_F H
        have hle : e < 1000000 := Nat.le_of_ble_eq_true hle
        refine ⟨_, _, H1, good_value hd fun G kp st a w S m hG hR he' hrd hf => ?_⟩
        have hv := he' y (by simp [ho, Op.operands])
        rw [hx] at hv
        simp only [CV] at hv
        obtain ⟨hv, hsz⟩ := hv
        have hrow : ∀ (j : Nat) (x : List AV), (brow (strNums s))[j]? = some x → x.length = 1 ∧ ∀ (i : Nat) (z : AV), x[i]? = some z → ∃ v, (Lib.bytesCells w e s)[j * 1 + i]? = some v ∧ v.oneCell' = true ∧ CV S z noNm v := by
          intro j x hj
          unfold brow at hj
          rw [List.getElem?_map] at hj
          cases hn : (strNums s)[j]? with
          | none => rw [hn] at hj; cases hj
          | some n =>
            rw [hn] at hj
            simp only [Option.map_some, Option.some.injEq] at hj
            subst hj
            refine ⟨rfl, fun i z hi => ?_⟩
            have hi0 : i = 0 := by
              have := (List.getElem?_eq_some_iff.1 hi).1
              simp only [List.length_singleton] at this
              omega
            subst hi0
            simp only [List.getElem?_cons_zero, Option.some.injEq] at hi
            subst hi
            have hjl : j < s.size := by have := (List.getElem?_eq_some_iff.1 hn).1; rw [strNums_len] at this; exact this
            unfold strNums at hn
            rw [List.getElem?_map] at hn
            have h2 : j < s.data.toList.length := by simpa using hjl
            rw [List.getElem?_eq_getElem h2] at hn
            simp only [Option.map_some, Option.some.injEq] at hn
            refine ⟨.int .u8 n, ?_, rfl, ?_⟩
            · unfold Lib.bytesCells
              have h3 : j < s.data.size := hjl
              rw [Nat.mul_one, Nat.add_zero, Array.getElem?_append_left (by simpa using h3), Array.getElem?_map, Array.getElem?_eq_getElem h3]
              simp only [Option.map_some, Option.some.injEq, Value.int.injEq, true_and]
              rw [← hn]; simp
            · simp only [CV]
              refine ⟨trivial, ?_⟩
              rw [← hn]
              have := s.data.toList[j].toNat_lt
              simp only [rng]
              omega
        have hge := grownCap_ge w s.size 0 e
        have hmx := grownCap_le_maxLen w s.size 0 e hsz
        have hcs : (Lib.bytesCells w e s).size = grownCap w s.size 0 e * 1 := by
          unfold Lib.bytesCells
          simp
          have : s.data.size = s.size := rfl
          omega
        have h2m : e + 1000000 < 2000000 := Nat.add_lt_add_right hle 1000000
        have hnew := hR.newRowW (e := e + 1000000) (s := 1) (c := grownCap w s.size 0 e) (xs := brow (strNums s)) (w' := Lib.bytesWorld w e s) (cur := Lib.bytesCells w e s) (fr := ((Lib.bytesCells w e s).size, (Lib.bytesCells w e s).size + 1)) (hf (nm, .row (Nat.add e 1000000) 1 (brow (strNums s))) (by simp) (by simp))
          ⟨rfl, rfl, rfl, by rw [Lib.bytesWorld_size]; omega, fun k hk => Lib.bytesWorld_at_old w e s k hk⟩
          (by rw [Lib.bytesWorld_at_new]; unfold rowTy; rw [if_neg (by omega), if_pos h2m, Nat.add_sub_cancel]) (.inr ⟨by omega, h2m, Nat.le_refl _⟩) (fun b o hb => Lib.bytesWorld_old w e s ⟨b, o, none⟩ hb)
          (by simp [brow, strNums_len]; exact hge) hmx hcs (by rw [rowNm_lo h2m]; exact hrow)
        have hlen : (brow (strNums s)).length = s.size := by simp [brow, strNums_len]
        rw [hlen] at hnew
        refine ⟨.slice (some ⟨w.heap.size, 0, none⟩) s.size (grownCap w s.size 0 e), Lib.bytesWorld w e s, S, _, ?_, hnew.1, hnew.2⟩
        simp only [execOp, ho, hv, Sem.run_bind, Lib.run_convert_string_bytes w src dst e s hs hdt he]
        rfl
      · exact H.elim
    · exact H.elim
  · exact H.elim

/-! An element of an array by value at a place that is not known: its form as told. -/
theorem part_loads {P : Program} {t : TypeId} {cs : List AV} {off : Nat} {r : AV} (h : LoadsTo P t (cs.drop off) r) :
    ∀ (us : Array Value) w S m, CVl S cs m us.toList → ∃ v, (part t us off).run P w = .ok v w ∧ CV S r m v := by
  rcases h with ⟨d, i, h1, h2, h3, h4, rfl⟩ | ⟨d, h1, h2, h3⟩
  · refine fun us w S m hc => ⟨.agg (us.extract off (off + i.size)), ?_, ?_⟩
    · simp [part, run_isAgg h1, h2, run_sizeOf h3]
    · simp only [CV]
      refine ⟨_, rfl, ?_⟩
      have hl := hc.len
      refine CVl.mk ?_ fun j x v e1 e2 => ?_
      · simp at h4 ⊢; simp at hl; omega
      · rw [List.getElem?_take] at e1
        split at e1
        · rename_i hj
          rw [List.getElem?_drop] at e1
          obtain ⟨v', hv', hx⟩ := hc.get e1
          have : v = v' := by
            simp only [Array.toList_extract, List.extract_eq_take_drop, List.getElem?_take, List.getElem?_drop] at e2
            rw [if_pos (by omega)] at e2
            exact Option.some.inj (e2.symm.trans hv')
          subst this; exact hx
        · cases e1
  · intro us w S m hc
    rw [List.getElem?_drop] at h3
    obtain ⟨v, hv, hx⟩ := hc.get h3
    refine ⟨v, ?_, hx⟩
    have hv' : us[off]? = some v := by simpa using hv
    simp [part, run_isAgg h1, h2, hv']
def aixS (P : Program) (E : Env) (d : Option Nat) (t : TypeId) (x i : AV) (K : AV → Prop) : Prop :=
  match P.underlying t with
  | some (.array n e) => (match x, P.info? e with
    | .agg cs, some inf => intK i fun j => chk (0 ≤ j ∧ j < n) (loadK P E d e (cs.drop (j.toNat * inf.size)) K)
    | _, _ => False)
  | _ => False
theorem aixS_sound {P : Program} {E : Env} {d : Option Nat} {o : Oper} {t : TypeId} {x i : Operand} {ev : Operand → AV} {K : AV → Prop} (ho : o.op = .index t x i) (h : aixS P E d t (ev x) (ev i) K) : ∃ r, K r ∧ PG P o ev r := by
  unfold aixS at h
  split at h
  · rename_i n e hd
    split at h
    · rename_i cs inf hx hi
      obtain ⟨j, h, hj⟩ := intK_sound h
      obtain ⟨hb, h⟩ := chk_iff.1 h
      obtain ⟨r, h1, h2⟩ := loadK_sound h
      refine ⟨r, h1, fun a w S m he => ?_⟩
      have hv := he x (by simp [ho, Op.operands])
      have hu := he i (by simp [ho, Op.operands])
      rw [hx] at hv
      simp only [CV] at hv
      obtain ⟨us, hv, hus⟩ := hv
      obtain ⟨q, hu⟩ := hj S m _ hu
      obtain ⟨z, h3, h4⟩ := part_loads h2 us w S m hus
      exact ⟨z, by simp [execOp, ho, hv, hu, Instr.index, asIntOf, run_underlying hd, hb, sizeOf, typeInfo, hi, h3], h4⟩
    · exact h.elim
  · exact h.elim

/-! Bytes of a string that is written in the text: the row that was built gets the mark. -/
def as2s (P : Program) (src dst : TypeId) (x : AV) (h : Nat → Option Blk) (K : AV → List (Nat × Blk) → List Nat → Prop) : Prop :=
  match P.underlying src with
  | some (.slice e) => (match P.underlying e with
    | some (.int .u8) => (match x with
      | .rw k s n => (match h k with
        | some (.row e' s' xs) => cond (Nat.beq src dst && Nat.blt e' 1000000) (chk (0 < xs.length ∧ n = xs.length) (K (.rw k s n) [(k, .row (Nat.add e' 1000000) s' xs)] [k])) False
        | _ => False)
      | _ => False)
    | _ => False)
  | _ => False
theorem freeze_at (w : World) (g : Nat) (cur : Array Value) (t : TypeId) (h : w.heap[g]? = some (.cells cur t (0, 0))) : (w.freeze ⟨g, cur.size, none⟩ 1).heap[g]? = some (.cells cur t (cur.size, cur.size + 1)) := by
  have hlt : g < w.heap.size := (Array.getElem?_eq_some_iff.1 h).1
  have hv : w.heap[g] = .cells cur t (0, 0) := (Array.getElem?_eq_some_iff.1 h).2
  have key : ∀ (f : Obj → Obj), (w.heap.modify g f)[g]? = some (f (.cells cur t (0, 0))) := by
    intro f
    have h2 : g < (w.heap.modify g f).size := by simpa using hlt
    rw [Array.getElem?_eq_getElem h2, Array.getElem_modify_self, hv]
  show (w.heap.modify g _)[g]? = _
  rw [key]
  rfl
theorem freeze_other (w : World) (g o j : Nat) (h : j ≠ g) : (w.freeze ⟨g, o, none⟩ 1).heap[j]? = w.heap[j]? := by
  simp [World.freeze, Array.getElem?_modify, Ne.symm h]
theorem freeze_size (w : World) (g o : Nat) : (w.freeze ⟨g, o, none⟩ 1).heap.size = w.heap.size := by
  simp [World.freeze]
theorem run_convert_mark {P : Program} (w : World) (src e : TypeId) (g n c : Nat) (cur : Array Value) (t : TypeId) (fr : Nat × Nat) (hs : P.underlying src = some (.slice e)) (he : P.underlying e = some (.int .u8)) (hg : w.heap[g]? = some (.cells cur t fr)) :
    (convert src src (.slice (some ⟨g, 0, none⟩) n c)).run P w = .ok (.slice (some ⟨g, 0, none⟩) n c) (w.freeze ⟨g, cur.size, none⟩ 1) := by
  have hsh : w.shape? g = some (t, cur.size) := by simp [World.shape?, hg]
  simp [convert, run_underlying hs, run_underlying he, markStringish, hsh]
theorem as2s_sound {P : Program} {E : Env} {nt : Nat} {o : Oper} {src dst : TypeId} {y : Operand} {ev : Operand → AV} {h : Nat → Option Blk} {K : AV → List (Nat × Blk) → List Nat → Prop} (ho : o.op = .convert src dst y) (hd : dstOk nt o.dst = true)
    (H : as2s P src dst (ev y) h K) : ∃ r u rd, K r u rd ∧ (∀ p ∈ u, p.1 ∈ rd) ∧ Good P E nt o ev h r u rd := by
  unfold as2s at H
  split at H
  · rename_i e hs
    split at H
    · rename_i he
      split at H
      · rename_i x k s n hx
        split at H
        · rename_i bk' e' s' xs hk
          obtain ⟨hb, H1⟩ := cond_F H
          simp only [Bool.and_eq_true] at hb
          have hsd := Nat.eq_of_beq_eq_true hb.1
          have hle : e' < 1000000 := Nat.le_of_ble_eq_true hb.2
          obtain ⟨⟨h0, hn⟩, H2⟩ := chk_iff.1 H1
          refine ⟨_, _, _, H2, fun p hp => by simp at hp ⊢; subst hp; rfl, good_value hd fun G kp st a w S m hG hR he' hrd hf => ?_⟩
          have hv := he' y (by simp [ho, Op.operands])
          rw [hx] at hv
          have hv0 := hv
          simp only [CV] at hv
          obtain ⟨_, A1, q1, c1, p1, p2, p3⟩ := hv
          have hks : lk st.heap k = some (.row e' s' xs) := by rw [hrd k (by simp)]; exact hk
          obtain ⟨A, c, r1, r2, r3, r4⟩ := hR.held k _ hks
          rw [r1] at p1
          injection p1 with p1
          injection p1 with _ p1
          injection p1 with t1 t2 t3
          subst t1; subst t3
          have hvv := p3 (by omega)
          obtain ⟨g, cur, fr, rfl, u1, u2, u3, u4, u5⟩ := r4.resolve_left (fun q => by have := q.2; omega)
          have hfr := u2.lt hle
          subst hfr
          rw [rowTy_lt hle] at u1
          refine ⟨.slice (some ⟨g, 0, none⟩) q1 c, w.freeze ⟨g, cur.size, none⟩ 1, S, m, ?_, ?_, ?_⟩
          · have hev : a.eval y = .slice (some ⟨g, 0, none⟩) q1 c := hvv
            simp only [execOp, ho, hev, ← hsd, Sem.run_bind]
            rw [run_convert_mark w src e g q1 c cur e' (0, 0) hs he u1]
            rfl
          · have h2m : e' + 1000000 < 2000000 := Nat.add_lt_add_right hle 1000000
            rw [rowNm_lo (Nat.lt_trans hle (by decide))] at u5
            refine hR.writeR hks r1 (by omega) rfl rfl rfl (freeze_size w g _) (fun j hj => freeze_other w g _ j hj) u4 ⟨_, c, r1, r2, r3, .inr ⟨g, cur, (cur.size, cur.size + 1), rfl, ?_, .inr ⟨Nat.le_add_left _ _, h2m, Nat.le_refl _⟩, u3, u4, by rw [rowNm_lo (show Nat.add e' 1000000 < 2000000 from h2m)]; exact u5⟩⟩
            rw [freeze_at w g cur e' u1]
            show _ = some (Obj.cells cur (rowTy (e' + 1000000)) _)
            unfold rowTy
            rw [if_neg (by omega), if_pos h2m, Nat.add_sub_cancel]
          · rw [← hvv]; exact hv0
        · exact H.elim
      · exact H.elim
    · exact H.elim
  · exact H.elim
end Go.Proofs.YthdfkiopppkfcaaDoor
