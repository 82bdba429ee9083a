/- Rows, II: slices written out, made, and known for good from now on. -/
import Derived.Test.YthdfkiopppkfcaaDoorVr
namespace Go.Proofs.YthdfkiopppkfcaaDoor
open Go
open Go.RowKit (Below)
set_option linter.unusedVariables false
set_option linter.unusedSimpArgs false

def chunkK (s : Nat) : Nat → List AV → (List (List AV) → Prop) → Prop
  | 0, [], k => k []
  | 0, _ :: _, _ => False
  | n + 1, cs, k => takeK s cs fun x => chunkK s n (cs.drop s) fun l => k (x :: l)
theorem chunkK_sound {s : Nat} : ∀ {n : Nat} {cs : List AV} {k : List (List AV) → Prop}, chunkK s n cs k → ∃ xs, k xs ∧ xs.flatten = cs ∧ xs.length = n ∧ ∀ z ∈ xs, z.length = s
  | 0, [], k, h => ⟨[], h, rfl, rfl, by simp⟩
  | 0, _ :: _, k, h => by simp [chunkK] at h
  | n + 1, cs, k, h => by
    simp only [chunkK] at h
    obtain ⟨h1, h2⟩ := takeK_sound h
    obtain ⟨xs, h3, h4, h5, h6⟩ := chunkK_sound h1
    refine ⟨_, h3, by rw [List.flatten_cons, h4, List.take_append_drop], by simp [h5], fun z hz => ?_⟩
    rcases List.mem_cons.1 hz with rfl | hz
    · simp; omega
    · exact h6 z hz
def repD : Nat → List AV
  | 0 => []
  | n + 1 => .dead :: repD n
theorem repD_cv {S : Pin} {m : Nm} : ∀ (n : Nat) (vs : List Value), vs.length = n → CVl S (repD n) m vs
  | 0, vs, h => by simp only [repD, CVl]; exact List.eq_nil_of_length_eq_zero h
  | n + 1, [], h => by simp at h
  | n + 1, v :: vs, h => by simp only [repD, CVl]; exact ⟨v, vs, rfl, by simp only [CV], repD_cv n vs (by simpa using h)⟩
/-- A new row, its block as told. -/
theorem Rel.newRowW {G : Gh} {kp : List Nat} {st : St} {a : Act} {w w' : World} {S : Pin} {m : Nm} (hR : Rel G kp st a w S m) {nm : Nat} (hf : fresh kp st nm = true) {e s c : Nat} {fr : Nat × Nat} {xs : List (List AV)} {cur : Array Value} (hb : Below w.heap.size w w')
    (hw : w'.heap[w.heap.size]? = some (.cells cur (rowTy e) fr)) (hfr : RowMk e cur.size fr) (hcell : ∀ b o, b < w.heap.size → w'.cell? ⟨b, o, none⟩ = w.cell? ⟨b, o, none⟩) (h1 : xs.length ≤ c) (h2 : c ≤ maxLen) (h3 : cur.size = c * s)
    (h4 : ∀ (j : Nat) (x : List AV), xs[j]? = some x → x.length = s ∧ ∀ (i : Nat) (y : AV), x[i]? = some y → ∃ v, cur[j * s + i]? = some v ∧ v.oneCell' = true ∧ CV S y (rowNm e (m.set nm (.iface 0 (.slice (some ⟨w.heap.size, 0, none⟩) xs.length c)))) v) :
    Rel G kp (st.blk nm (.row e s xs)) a w' S (m.set nm (.iface 0 (.slice (some ⟨w.heap.size, 0, none⟩) xs.length c))) ∧ CV S (.rw nm s xs.length) (m.set nm (.iface 0 (.slice (some ⟨w.heap.size, 0, none⟩) xs.length c))) (.slice (some ⟨w.heap.size, 0, none⟩) xs.length c) := by
  refine ⟨hR.fresh_ hf hb (Ext.refl _) (fun _ _ _ => rfl) ?_ (fun g hg => by simp [bk] at hg; omega) ?_, CV.rw_mk (Nm.set_same _ _ _) h1 h2 (.inr ⟨_, rfl⟩)⟩
  · intro b o v e
    refine ⟨?_, (hR.agree b o v e).2⟩
    rw [hcell b o (hR.agree.lt e)]
    exact (hR.agree b o v e).1
  · refine ⟨_, c, Nm.set_same _ _ _, h1, h2, .inr ⟨w.heap.size, cur, fr, rfl, hw, hfr, h3, fun o => ?_, h4⟩⟩
    cases e : S w.heap.size o with
    | none => rfl
    | some v => have := hR.agree.lt e; omega
theorem Rel.newRow {G : Gh} {kp : List Nat} {st : St} {a : Act} {w : World} {S : Pin} {m : Nm} (hR : Rel G kp st a w S m) {nm : Nat} (hf : fresh kp st nm = true) {e s c : Nat} {o : Bool} (he : e < 1000000) {xs : List (List AV)} {cur : Array Value} (h1 : xs.length ≤ c) (h2 : c ≤ maxLen) (h3 : cur.size = c * s)
    (h4 : ∀ (j : Nat) (x : List AV), xs[j]? = some x → x.length = s ∧ ∀ (i : Nat) (y : AV), x[i]? = some y → ∃ v, cur[j * s + i]? = some v ∧ v.oneCell' = true ∧ CV S y (rowNm (tyO o e) (m.set nm (.iface 0 (.slice (some ⟨w.heap.size, 0, none⟩) xs.length c)))) v) :
    Rel G kp (st.blk nm (.row (tyO o e) s xs)) a (w.alloc (.cells cur e)) S (m.set nm (.iface 0 (.slice (some ⟨w.heap.size, 0, none⟩) xs.length c))) ∧ CV S (.rw nm s xs.length) (m.set nm (.iface 0 (.slice (some ⟨w.heap.size, 0, none⟩) xs.length c))) (.slice (some ⟨w.heap.size, 0, none⟩) xs.length c) :=
  hR.newRowW hf ((Below.refl _ _).alloc (Nat.le_refl _) _) (by rw [rowTy_tyO he]; exact heap_alloc_new w _) .none (fun b o h => World.cell?_alloc_lt _ _ _ h) h1 h2 h3 h4
mutual
/-- A name of the call's own stands in it. -/
def hasN : AV → Bool
  | .ptr _ _ => true
  | .ms _ _ _ _ _ => true
  | .rw _ _ _ => true
  | .mw _ _ _ _ _ _ => true
  | .prw _ _ _ _ _ => true
  | .mpv _ => true
  | .agg cs => hasNl cs
  | .tup cs => hasNl cs
  | .fn _ cs => hasNl cs
  | _ => false
def hasNl : List AV → Bool
  | [] => false
  | x :: xs => hasN x || hasNl xs
end
def abuildS (P : Program) (nm : Nat) (t : TypeId) (len : Nat) (parts : List (Nat × AV)) (K : AV → List (Nat × Blk) → List Nat → Prop) : Prop :=
  match P.underlying t with
  | some (.slice e) => (match P.info? e with
    | some i => cond (Nat.ble (len * i.size) 16777216 && Nat.ble len 9223372036854775807 && Nat.blt e 1000000) (zeroA P e fun _ => fillK (fun q => some (q * i.size, i.size)) (repD (len * i.size)) parts fun cs => cond (allOne cs && (!(hasNl cs) || nnl nm cs)) (stripE (tyO (hasNl cs) e) cs fun cs' => chunkK i.size len cs' fun xs => fcN (hasNl cs) (tyO (hasNl cs) e) fun e2 => K (.rw nm i.size len) [(nm, .row e2 i.size xs)] []) False) False
    | none => False)
  | _ => False
theorem abuildS_sound {P : Program} {E : Env} {nt nm : Nat} {o : Oper} {t : TypeId} {len : Nat} {parts : Array (Nat × Operand)} {ev : Operand → AV} {h : Nat → Option Blk} {K : AV → List (Nat × Blk) → List Nat → Prop} (ho : o.op = .buildSlice t len parts) (hd : dstOk nt o.dst = true)
    (H : abuildS P nm t len (parts.toList.map fun p => (p.1, ev p.2)) K) : ∃ r b, K r [(nm, b)] [] ∧ Good P E nt o ev h r [(nm, b)] [] := by
  unfold abuildS at H
  split at H
  · rename_i e ht
    split at H
    · rename_i i hi
      obtain ⟨hb, H1⟩ := cond_F H
      simp only [Bool.and_eq_true] at hb
      have hle := Nat.le_of_ble_eq_true hb.1.1
      have hl63 := Nat.le_of_ble_eq_true hb.1.2
      have hle : e < 1000000 := Nat.le_of_ble_eq_true hb.2
      obtain ⟨i', z, hi', hz, H2, hzr⟩ := zeroA_sound H1
      rw [hi] at hi'
      injection hi' with hi'
      subst hi'
      obtain ⟨cs, H3, hfill⟩ := fillK_sound _ _ _ H2
      obtain ⟨hone, H4⟩ := cond_F H3
      simp only [Bool.and_eq_true] at hone
      obtain ⟨hone, hnn⟩ := hone
      generalize hop : hasNl cs = op at H4 hnn
      obtain ⟨cs', H5, hstrip⟩ := stripE_sound H4
      have hsame : 2000000 ≤ tyO op e → nnl nm cs = true := fun q => by
        cases op with
        | false => exact absurd (Nat.lt_of_lt_of_le hle (Nat.le_trans (by decide) (show 2000000 ≤ e from q))) (Nat.lt_irrefl _)
        | true => simpa using hnn
      obtain ⟨xs, H6, hfl, hxl, hxs⟩ := chunkK_sound H5
      simp only [fcN_eq, hop] at H6
      refine ⟨_, _, H6, good_value hd fun G kp st a w S m hG hR he hrd hf => ?_⟩
      have hnz : ¬ len * i.size > 2 ^ 24 := by omega
      -- the zeros, whatever they are
      have fin : ∀ (zero : Array Value), ∃ out, Instr.fill (fun q => some (q * i.size, i.size)) ((Array.range (len * i.size)).map (zero[· % zero.size]!)) (parts.map fun p => (p.1, a.eval p.2)).toList = some out ∧ CVl S cs m out.toList := by
        intro zero
        refine hfill S m _ _ (repD_cv _ _ (by simp)) (by simp) (fun j p q hp hq => ?_)
        simp only [List.getElem?_map, Array.toList_map] at hp hq
        cases hj : parts.toList[j]? with
        | none => simp [hj] at hp
        | some u =>
          simp only [hj, Option.map_some, Option.some.injEq] at hp hq
          subst hp hq
          exact ⟨rfl, he u.2 (by rw [ho]; simp only [Op.operands, List.mem_toArray, List.mem_map]; exact ⟨u, List.mem_of_getElem? hj, rfl⟩)⟩
      obtain ⟨zero, hzero⟩ : ∃ zero : Array Value, (len * i.size = 0 ∧ zero = #[]) ∨ (¬ len * i.size = 0 ∧ zero = z.cells) := by
        by_cases h0 : len * i.size = 0
        · exact ⟨_, .inl ⟨h0, rfl⟩⟩
        · exact ⟨_, .inr ⟨h0, rfl⟩⟩
      obtain ⟨out, hout, hcv⟩ := fin zero
      have hcv' := hstrip S m _ hcv
      have hol := hcv'.len
      have hcl : cs'.length = len * i.size := by rw [← hfl, flat_len hxs, hxl]
      simp only [Array.length_toList] at hol
      have hcvS : ∀ u, CVl S cs' (rowNm (tyO op e) (m.set nm u)) out.toList := fun u => by
        by_cases q : tyO op e < 2000000
        · rw [rowNm_lo q] at hcv' ⊢; exact hcv'
        · exact hstrip S (m.set nm u) _ (hcv.set (hsame (Nat.le_of_not_lt q)))
      have hrow := row_of_flat (cur := out) (vals := out.toList) hxs (by rw [hfl]; exact hcvS (.iface 0 (.slice (some ⟨w.heap.size, 0, none⟩) xs.length len))) (allOne_cv hcv hone) (by rw [hxl, List.take_of_length_le (by simp; omega)])
      have hnew := hR.newRow (e := e) (o := op) (c := len) (cur := out) (hf (nm, .row (tyO op e) i.size xs) (by simp) (by simp)) hle (by omega) (by unfold maxLen; omega) (by omega) hrow
      rw [hxl] at hnew
      refine ⟨.slice (some ⟨w.heap.size, 0, none⟩) len len, w.alloc (.cells out e), S, _, ?_, hnew.1, hnew.2⟩
      have hrun : (Instr.buildSlice t len (parts.map fun p => (p.1, a.eval p.2))).run P w = .ok (.slice (some ⟨w.heap.size, 0, none⟩) len len) (w.alloc (.cells out e)) := by
        unfold Instr.buildSlice
        simp only [Sem.run_bind, run_underlying ht, Result.andThen_ok, sizeOf, typeInfo, run_program, hi, Sem.run_pure, hnz, if_false]
        rcases hzero with ⟨h0, rfl⟩ | ⟨h0, rfl⟩
        · rw [if_pos h0]
          simp only [Sem.run_bind, Sem.run_pure, Result.andThen_ok, hout]
          simp [newRow]
        · rw [if_neg h0]
          simp only [Sem.run_bind, hzr, Sem.run_pure, Result.andThen_ok, hout]
          simp [newRow]
      simp only [execOp, ho]
      simp [hrun]
    · exact H.elim
  · exact H.elim
def amakeS (P : Program) (nm : Nat) (t : TypeId) (l c : AV) (K : AV → List (Nat × Blk) → List Nat → Prop) : Prop :=
  match P.underlying t with
  | some (.slice e) => (match P.info? e with
    | some i => intK l fun l => intK c fun c => chk (0 ≤ l ∧ l ≤ c ∧ (i.bytes : Int) * c ≤ 281474976710656 ∧ c ≤ 9223372036854775807) (zeroA P e fun zs => cond (Nat.beq zs.length i.size && allOne zs && Nat.blt e 1000000) (stripL zs fun zs => K (.rw nm i.size l.toNat) [(nm, .row e i.size (List.replicate l.toNat zs))] []) False)
    | none => False)
  | _ => False
theorem amakeS_sound {P : Program} {E : Env} {nt nm : Nat} {o : Oper} {t : TypeId} {ol oc : Operand} {ev : Operand → AV} {h : Nat → Option Blk} {K : AV → List (Nat × Blk) → List Nat → Prop} (ho : o.op = .makeSlice t ol oc) (hd : dstOk nt o.dst = true)
    (H : amakeS P nm t (ev ol) (ev oc) K) : ∃ r b, K r [(nm, b)] [] ∧ Good P E nt o ev h r [(nm, b)] [] := by
  unfold amakeS at H
  split at H
  · rename_i e ht
    split at H
    · rename_i i hi
      obtain ⟨l, H1, hl⟩ := intK_sound H
      obtain ⟨c, H2, hc⟩ := intK_sound H1
      obtain ⟨⟨q1, q2, q3, q4⟩, H3⟩ := chk_iff.1 H2
      obtain ⟨i', z, hi', hz, H4, hzr⟩ := zeroA_sound H3
      rw [hi] at hi'
      injection hi' with hi'
      subst hi'
      obtain ⟨hb, H5⟩ := cond_F H4
      simp only [Bool.and_eq_true] at hb
      have hzl := Nat.eq_of_beq_eq_true hb.1.1
      have hle : e < 1000000 := Nat.le_of_ble_eq_true hb.2
      obtain ⟨zs, H6, hst⟩ := stripL_sound _ _ H5
      refine ⟨_, _, H6, good_value hd fun G kp st a w S m hG hR he hrd hf => ?_⟩
      obtain ⟨kl, hvl⟩ := hl S m _ (he ol (by rw [ho]; simp [Op.operands]))
      obtain ⟨kc, hvc⟩ := hc S m _ (he oc (by rw [ho]; simp [Op.operands]))
      have hzc := ofVs_cv S m z.cells.toList
      have hz1 := allOne_cv hzc hb.1.2
      have hz2 := hst S m _ hzc
      have hzsz := hzc.len
      have hzs2 := hz2.len
      simp only [Array.length_toList] at hzsz hzs2
      have hrun := run_make (P := P) w t e i z ht hi hz kl kc l c q1 q2 q3 q4
      have hrow : ∀ (j : Nat) (x : List AV), (List.replicate l.toNat zs)[j]? = some x → x.length = i.size ∧ ∀ (p : Nat) (y : AV), x[p]? = some y → ∃ v, (madeCells z.cells (c.toNat * i.size))[j * i.size + p]? = some v ∧ v.oneCell' = true ∧ CV S y noNm v := by
        intro j x hx
        rw [List.getElem?_replicate] at hx
        split at hx
        · rename_i hj
          injection hx with hx
          subst hx
          refine ⟨by omega, fun p y hy => ?_⟩
          obtain ⟨v, hv1, hv2⟩ := hz2.get hy
          have hp : p < i.size := by have := (List.getElem?_eq_some_iff.1 hy).1; omega
          have hlt : j * i.size + p < c.toNat * i.size := by
            have : (j + 1) * i.size ≤ c.toNat * i.size := Nat.mul_le_mul_right _ (by omega)
            rw [Nat.succ_mul] at this; omega
          refine ⟨v, ?_, hz1 v (List.mem_of_getElem? hv1), hv2⟩
          have hmod : (j * i.size + p) % z.cells.size = p := by
            rw [show z.cells.size = i.size by omega, Nat.add_comm, Nat.add_mul_mod_self_right, Nat.mod_eq_of_lt hp]
          have hv3 : z.cells[p]? = some v := by simpa using hv1
          unfold madeCells
          simp only [Array.getElem?_map]
          rw [Array.getElem?_range, if_pos hlt]
          simp only [Option.map_some, hmod]
          rw [getElem!_def, hv3]
        · cases hx
      have hnew := hR.newRow (e := e) (o := false) (s := i.size) (xs := List.replicate l.toNat zs) (c := c.toNat) (cur := madeCells z.cells (c.toNat * i.size)) (hf (nm, .row e i.size (List.replicate l.toNat zs)) (by simp) (by simp)) hle (by simp; omega) (by unfold maxLen; omega) (size_madeCells _ _) (by rw [rowNm_lo (show tyO false e < 2000000 from Nat.lt_trans hle (by decide))]; exact hrow)
      rw [List.length_replicate] at hnew
      exact ⟨_, _, S, _, by simp [execOp, ho, hvl, hvc, hrun], hnew.1, hnew.2⟩
    · exact H.elim
  · exact H.elim
end Go.Proofs.YthdfkiopppkfcaaDoor
