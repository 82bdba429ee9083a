/- Walks: slices.Equal of bytes, bits.Same, the reference's Same, At, Of. -/
import Derived.Test.YtkbfldgebcpigaaBitsD
import Derived.Laws.BytesString
import Derived.Laws.Cells
import Derived.Lib.Strings
namespace Go.Proofs.Ytkbfldgebcpigaa
open Go.RowKit

/-- The string of some bytes. -/
def bstr (bs : List Nat) : ByteArray := ⟨(bs.map UInt8.ofNat).toArray⟩
theorem fold_push (ns : List Nat) : ∀ s : ByteArray, (ns.map fun b => ((b : Nat) : Int)).foldl (fun r n => r.push (UInt8.ofNat n.toNat)) s = ⟨s.data ++ (ns.map UInt8.ofNat).toArray⟩ := by
  induction ns with
  | nil => intro s; simp
  | cons n ns ih =>
    intro s
    rw [List.map_cons, List.foldl_cons, ih]
    simp [ByteArray.push, Array.push]
theorem addr_add (b o j : Nat) : Addr.add ⟨b, o, none⟩ j = ⟨b, o + j, none⟩ := by
  unfold Addr.add; split <;> simp_all
theorem conv_bytes {w : World} {B n : Nat} {A : Option Addr} (c : Nat) {bs : List Nat} (hr : Rd w B A (u8s bs)) (hl : bs.length = n) :
    (convert 26 9 (.slice A n c)).run Try.prog w = .ok (.string (bstr bs)) w := by
  rw [run_convert_bytes_string w _ _ 5 A n c Try.underlying26 Try.underlying5 Try.underlying9]
  cases A with
  | none =>
    have : bs = [] := by
      cases bs with
      | nil => rfl
      | cons b bs => obtain ⟨_, _, h, _⟩ := hr.at_ (k := 0) (by simp [u8s]); cases h
    subst this
    subst hl
    rfl
  | some a =>
    have h : (loadCells a n).run Try.prog w = .ok ((bs.map fun b => ((b : Nat) : Int)).map (Value.int .u8)).toArray w := by
      have e : (bs.map fun b => ((b : Nat) : Int)).map (Value.int .u8) = u8s bs := by simp [u8s]
      rw [e, ← hl, ← length_u8s bs]
      refine run_loadCells_list w a (u8s bs) fun j v hj => ?_
      have hj' := (List.getElem?_eq_some_iff.1 hj).1
      obtain ⟨b, o, h1, _, h2⟩ := hr.at_ hj'
      injection h1 with h1
      subst h1
      rw [addr_add]
      exact h2 j v hj
    rw [run_bytesToString w a n c _ h, fold_push]
    simp [bstr]
theorem bstr_eq {a b : List Nat} (ha : Bytes a) (hb : Bytes b) : (bstr a = bstr b) ↔ a = b := by
  constructor
  · intro h
    unfold bstr at h
    injection h with h
    have h' : a.map UInt8.ofNat = b.map UInt8.ofNat := by simpa using h
    refine ext_getD (by simpa using congrArg List.length h') fun i hi => ?_
    have h1 := congrArg (fun l : List UInt8 => (l.getD i 0).toNat) h'
    have hl : a.length = b.length := by simpa using congrArg List.length h'
    simp only [List.getD_eq_getElem?_getD, List.getElem?_map, List.getElem?_eq_getElem hi, List.getElem?_eq_getElem (hl ▸ hi), Option.map_some, Option.getD_some] at h1 ⊢
    have h2 := ha i
    have h3 := hb i
    simp only [List.getD_eq_getElem?_getD, List.getElem?_eq_getElem hi, List.getElem?_eq_getElem (hl ▸ hi), Option.getD_some] at h2 h3
    rw [UInt8.toNat_ofNat', UInt8.toNat_ofNat', Nat.mod_eq_of_lt h2, Nat.mod_eq_of_lt h3] at h1
    exact h1
  · rintro rfl; rfl

def eqB (a b : List Nat) : Bool := decide (a = b)
set_option maxHeartbeats 400000 in
theorem equal_any (A A' : Option Addr) (n c n' c' : Nat) (a b : List Nat) (w : World) (ha : Rd w w.heap.size A (u8s a)) (hb : Rd w w.heap.size A' (u8s b)) (hla : a.length = n) (hlb : b.length = n') (hn : n ≤ 140737488355328) :
    Calls Try.prog 36 #[.slice A n c, .slice A' n' c'] w fun e w' => e = .returned (.bool (eqB a b)) ∧ Below w.heap.size w w' := by
  by_cases hne : n = n'
  · subst hne
    go_enter Try.func36, Try.ntmps36
    go_wp2
    go_loopw [13, 5] (fun i _ wr => ∃ k : Nat, k ≤ n ∧ i = .int .i64 k ∧ (∀ j, j < k → a.getD j 0 = b.getD j 0) ∧ ∃ d, wr = w.drewN d) (fun i _ _ => n - (intOf i).toNat)
    case atStart => exact ⟨0, Nat.zero_le _, rfl, fun j hj => absurd hj (by omega), 0, rfl⟩
    case round =>
      obtain ⟨k, hk, rfl, hpre, d, rfl⟩ := hrel
      by_cases hlt : k < n
      · obtain ⟨b1, o1, rfl, -, hc1⟩ := ha.at_ (k := k) (by rw [length_u8s]; omega)
        obtain ⟨b2, o2, rfl, -, hc2⟩ := hb.at_ (k := k) (by rw [length_u8s]; omega)
        have h1 := hc1 k _ (u8s_at a k (by omega))
        have h2 := hc2 k _ (u8s_at b k (by omega))
        have HP := Lib.hid hpre
        have HLA := Lib.hid hla
        have HLB := Lib.hid hlb
        have HX : Hid (a.getD k 0 = b.getD k 0 → ∀ j, j < k + 1 → a.getD j 0 = b.getD j 0) := hidI (fun h j hj => by
          rcases Nat.lt_or_ge j k with h1 | h1
          · exact hpre j h1
          · have : j = k := by omega
            subst this; exact h)
        have HF : Hid (a.getD k 0 ≠ b.getD k 0 → eqB a b = false) := hidI (fun h => by unfold eqB; simp; rintro rfl; exact h rfl)
        clear ha hb hc1 hc2 hpre hla hlb
        generalize a.getD k 0 = x at h1 HX HF
        generalize b.getD k 0 = y at h2 HX HF
        by_cases hxy : x = y
        · subst hxy
          go_wp2
          go_quiet (fail)
          go_wp2
          go_roundw
          case rel => exact ⟨k + 1, by omega, by go_num, (by first | exact HX.out trivial | exact HX.out rfl), _, rfl⟩
          case measure => simp [intOf]; omega
        · have hd : (((x : Nat) : Int) != ((y : Nat) : Int)) = true := by simp; omega
          go_wp2
          go_quiet (fail)
          go_wp2
          go_ret
          exact ⟨ret_bool (HF.out hxy).symm, below_drewN (below_drewN (Below.refl _ _) _) _⟩
      · have hkn : k = n := by omega
        subst hkn
        have hf : eqB a b = true := by unfold eqB; simp; exact ext_getD (by omega) fun i hi => hpre i (by omega)
        have HF := Lib.hid hf
        clear ha hb hpre hla hlb hf
        go_wp2
        go_ret
        exact ⟨ret_bool HF.out.symm, below_drewN (Below.refl _ _) _⟩
  · have hd : (((n : Nat) : Int) != ((n' : Nat) : Int)) = true := by simp; omega
    have hf : eqB a b = false := by unfold eqB; simp; rintro rfl; omega
    have HF := Lib.hid hf
    clear ha hb hla hlb hf
    go_enter Try.func36, Try.ntmps36
    go_wp2
    go_ret
    exact ⟨ret_bool HF.out.symm, Below.refl _ _⟩

def sameB (l1 l2 : Int) (a b : List Nat) : Bool := (l1 == l2) && eqB a b
set_option maxHeartbeats 400000 in
theorem same_any (A A' : Option Addr) (n c n' c' : Nat) (l1 l2 : Int) (a b : List Nat) (w : World) (ha : Rd w w.heap.size A (u8s a)) (hb : Rd w w.heap.size A' (u8s b)) (hla : a.length = n) (hlb : b.length = n') (hn : n ≤ 140737488355328) :
    Calls Try.prog 28 #[.agg #[.slice A n c, .int .i64 l1], .agg #[.slice A' n' c', .int .i64 l2]] w fun e w' => e = .returned (.bool (sameB l1 l2 a b)) ∧ Below w.heap.size w w' := by
  have C1 := Lib.hid (fun (W : World) (hw : Below w.heap.size w W) => equal_any A A' n c n' c' a b W ((ha.below hw).more hw.size) ((hb.below hw).more hw.size) hla hlb hn)
  have HX : Hid (Below w.heap.size w ((w.alloc (.cells #[.slice A n c, .int .i64 l1] 28)).alloc (.cells #[.slice A' n' c', .int .i64 l2] 28))) := hidI ((below_box _ _).alloc (by simp) _)
  clear ha hb hla hlb
  by_cases h : (l1 == l2) = true
  · have HS : Hid (sameB l1 l2 a b = eqB a b) := hidI (by unfold sameB; rw [h]; rfl)
    go_enter Try.func28, Try.ntmps28
    go_wp2_with fail
    refine (C1.out _ HX.out).mono ?_
    rintro e w1 ⟨rfl, hb1⟩
    have HB := Lib.hid hb1
    clear hb1
    go_wp2
    go_ret
    exact ⟨ret_bool HS.out.symm, HX.out.trans (HB.out.mono (by simp; omega))⟩
  · have h : (l1 == l2) = false := by simpa using h
    have HS : Hid (sameB l1 l2 a b = false) := hidI (by unfold sameB; rw [h]; rfl)
    go_enter Try.func28, Try.ntmps28
    go_wp2
    go_ret
    exact ⟨ret_bool HS.out.symm, HX.out⟩

set_option maxHeartbeats 400000 in
theorem rsame_any (A A' : Option Addr) (n c n' c' : Nat) (l1 l2 : Int) (a b : List Nat) (w : World) (ha : Rd w w.heap.size A (u8s a)) (hb : Rd w w.heap.size A' (u8s b)) (hla : a.length = n) (hlb : b.length = n') (hBa : Bytes a) (hBb : Bytes b) :
    Calls Try.prog 13 #[.agg #[.slice A n c, .int .i64 l1], .agg #[.slice A' n' c', .int .i64 l2]] w fun e w' => e = .returned (.bool (sameB l1 l2 a b)) ∧ Below w.heap.size w w' := by
  have HX : Hid (Below w.heap.size w ((w.alloc (.cells #[.slice A n c, .int .i64 l1] 28)).alloc (.cells #[.slice A' n' c', .int .i64 l2] 28))) := hidI ((below_box _ _).alloc (by simp) _)
  have k1 := conv_bytes c ((ha.below HX.out).more HX.out.size) hla
  have k2 := conv_bytes c' ((hb.below HX.out).more HX.out.size) hlb
  by_cases h : (l1 == l2) = true
  · have HS : Hid (sameB l1 l2 a b = ((bstr a).toList == (bstr b).toList)) := hidI (by
      unfold sameB; rw [h, Bool.true_and]; unfold eqB
      rw [Bool.eq_iff_iff]
      simp only [decide_eq_true_eq, beq_iff_eq]
      rw [← bstr_eq hBa hBb]
      constructor
      · intro e; rw [e]
      · intro e
        rw [Lib.toList_data, Lib.toList_data] at e
        have : (bstr a).data = (bstr b).data := by simpa using e
        cases ha' : bstr a; cases hb' : bstr b; rw [ha', hb'] at this; simpa using this)
    clear ha hb hla hlb hBa hBb
    generalize bstr a = sa at k1 HS
    generalize bstr b = sb at k2 HS
    go_enter Try.func13, Try.ntmps13
    go_wp2
    go_ret
    exact ⟨ret_bool HS.out.symm, HX.out⟩
  · have h : (l1 == l2) = false := by simpa using h
    have HS : Hid (sameB l1 l2 a b = false) := hidI (by unfold sameB; rw [h]; rfl)
    clear ha hb hla hlb k1 k2
    go_enter Try.func13, Try.ntmps13
    go_wp2
    go_ret
    exact ⟨ret_bool HS.out.symm, HX.out⟩
end Go.Proofs.Ytkbfldgebcpigaa
