/- Walks: score.Of. -/
import Derived.Test.YtjllgdpnbllnjaaScH
namespace Go.Proofs.Ytjllgdpnbllnjaa
open Go.RowKit

/-- The sum of f over the differences of the pairs. -/
def sumUp (f : Int → Int) : List (Int × Int) → Int
  | [] => 0
  | p :: l => f (p.1 - p.2) + sumUp f l
theorem sumUp_append (f : Int → Int) (a b : List (Int × Int)) : sumUp f (a ++ b) = sumUp f a + sumUp f b := by
  induction a with
  | nil => simp [sumUp]
  | cons p a ih => simp [sumUp, ih]; omega
theorem sumUp_take (f : Int → Int) (l : List (Int × Int)) (k : Nat) (hk : k < l.length) : sumUp f (l.take (k + 1)) = sumUp f (l.take k) + f ((l.getD k (0, 0)).1 - (l.getD k (0, 0)).2) := by
  rw [getD_get _ _ hk, List.take_succ_eq_append_getElem hk, sumUp_append]
  simp [sumUp]
theorem sq_bd (d : Int) (h : -2000000 ≤ d ∧ d ≤ 2000000) : 0 ≤ d * d ∧ d * d ≤ 4000000000000 := by
  rcases Int.le_total 0 d with h0 | h0
  · have a := Int.mul_nonneg h0 h0
    have b := Int.mul_le_mul h.2 h.2 h0 (by omega)
    omega
  · have a := Int.mul_nonneg (show 0 ≤ -d by omega) (show 0 ≤ -d by omega)
    have b := Int.mul_le_mul (show -d ≤ 2000000 by omega) (show -d ≤ 2000000 by omega) (by omega) (by omega)
    rw [Int.neg_mul_neg] at a b
    omega
def absI (x : Int) : Int := max x (-x)
theorem sumUp_bd (f : Int → Int) (B : Nat) (l : List (Int × Int)) (hf : ∀ p ∈ l, -(B : Int) ≤ f (p.1 - p.2) ∧ f (p.1 - p.2) ≤ B) : -((B * l.length : Nat) : Int) ≤ sumUp f l ∧ sumUp f l ≤ ((B * l.length : Nat) : Int) := by
  induction l with
  | nil => simp [sumUp]
  | cons p l ih =>
    have h1 := hf p (by simp)
    have h2 := ih (fun q hq => hf q (by simp [hq]))
    simp only [sumUp, List.length_cons, Nat.mul_succ]
    omega
theorem sums_bd (l : List (Int × Int)) (k : Nat) (hL : l.length ≤ 10000) (hk : k ≤ l.length) (H : ∀ j, j < l.length → pOk (l.getD j (0, 0)) = true) : (-20000000000 ≤ sumUp id (l.take k) ∧ sumUp id (l.take k) ≤ 20000000000) ∧ (-20000000000 ≤ sumUp absI (l.take k) ∧ sumUp absI (l.take k) ≤ 20000000000) ∧ (-40000000000000000 ≤ sumUp (fun d => d * d) (l.take k) ∧ sumUp (fun d => d * d) (l.take k) ≤ 40000000000000000) := by
  have hb : ∀ p ∈ l.take k, -2000000 ≤ p.1 - p.2 ∧ p.1 - p.2 ≤ 2000000 := by
    intro p hp
    obtain ⟨j, hj, rfl⟩ := List.getElem_of_mem (List.mem_of_mem_take hp)
    have h := H j hj
    rw [getD_get _ _ hj] at h
    unfold pOk at h
    rw [Bool.and_eq_true] at h
    have h1 := inB_iff.1 h.1
    have h2 := inB_iff.1 h.2
    omega
  have hlen : (l.take k).length = k := by rw [List.length_take]; omega
  have a := sumUp_bd id 2000000 (l.take k) (fun p hp => by have := hb p hp; simp only [id]; omega)
  have b := sumUp_bd absI 2000000 (l.take k) (fun p hp => by have := hb p hp; unfold absI; omega)
  have c := sumUp_bd (fun d => d * d) 4000000000000 (l.take k) (fun p hp => by have := sq_bd _ (hb p hp); omega)
  rw [hlen] at a b c
  omega
/-- What Of gives: the code and the four fields. -/
def ofP (l : List (Int × Int)) : Int × Int × Int × Int × Int :=
  if checkS l = 0 then (0, l.length, sumUp id l, sumUp absI l, sumUp (fun d => d * d) l) else (checkS l, 0, 0, 0, 0)
def ERes (w w' : World) (e : Ending) (r : Int × Int × Int × Int × Int) : Prop :=
  e = .returned (.tuple #[.agg #[.int .i64 r.2.1, .int .i64 r.2.2.1, .int .i64 r.2.2.2.1, .int .i64 r.2.2.2.2], .int .i64 r.1]) ∧ Below w.heap.size w w'

set_option maxHeartbeats 1000000 in
theorem ofp_any (A : Option Addr) (l : List (Int × Int)) (c : Nat) (w : World) (hR : Rd w w.heap.size A (pcells l)) (hlen : l.length ≤ 4611686018427387904) :
    Calls Try.prog 21 #[.slice A l.length c] w fun e w' => ERes w w' e (ofP l) := by
  go_enter Try.func21, Try.ntmps21
  have K1 := Lib.hid (blk_new (W := w) (g := w.heap.size) 42 #[.int .i64 0, .int .i64 0, .int .i64 0, .int .i64 0] rfl)
  have X := Lib.hid (below_box w (.cells #[.int .i64 0, .int .i64 0, .int .i64 0, .int .i64 0] 42))
  go_wp2_with fail
  refine (check_any A l c _ (rd_alloc hR _) hlen).mono ?_
  rintro e w1 ⟨rfl, hb⟩
  replace hR := Lib.hid (rd_next (rd_alloc hR _) hb)
  replace K1 := Lib.hid (blk_next K1.out hb)
  replace X := Lib.hid (ext_next X.out hb)
  clear hb
  by_cases hc : checkS l = 0
  case neg =>
    have HS : Hid (ofP l = (checkS l, 0, 0, 0, 0)) := hidI (by unfold ofP; rw [if_neg hc])
    have r0 : w1.cell? ⟨w.heap.size, 0, none⟩ = some (.int .i64 0) := by rw [K1.out.cell]; rfl
    have r1 : w1.cell? ⟨w.heap.size, 1, none⟩ = some (.int .i64 0) := by rw [K1.out.cell]; rfl
    have r2 : w1.cell? ⟨w.heap.size, 2, none⟩ = some (.int .i64 0) := by rw [K1.out.cell]; rfl
    have r3 : w1.cell? ⟨w.heap.size, 3, none⟩ = some (.int .i64 0) := by rw [K1.out.cell]; rfl
    have f0 := K1.out.frozen 0
    have f1 := K1.out.frozen 1
    have f2 := K1.out.frozen 2
    have f3 := K1.out.frozen 3
    generalize checkS l = cd at hc HS ⊢
    go_wp2
    refine bodyPost_ret (v := .tuple #[.agg #[.int .i64 0, .int .i64 0, .int .i64 0, .int .i64 0], .int .i64 cd]) (by simp [results, Try.results21, go_sem, r0, r1, r2, r3]) rfl ?_
    rw [HS.out]
    exact ⟨rfl, (((X.out.setCell (by simp) _).setCell (by simp) _).setCell (by simp) _).setCell (by simp) _⟩
  case pos =>
  have HL : Hid (l.length ≤ 10000) := hidI (by unfold checkS at hc; split at hc <;> omega)
  have HP : Hid (∀ j, j < l.length → pOk (l.getD j (0, 0)) = true) := hidI (fun j hj => by
    unfold checkS at hc
    split at hc
    · omega
    split at hc
    · rename_i h; rw [List.all_eq_true] at h; rw [getD_get _ _ hj]; exact h _ (List.getElem_mem hj)
    · omega)
  have HS : Hid (ofP l = (0, (l.length : Int), sumUp id l, sumUp absI l, sumUp (fun d => d * d) l)) := hidI (by unfold ofP; rw [if_pos hc])
  rw [hc]
  clear hc
  have hg0 : w.heap.size < w1.heap.size := K1.out.lt
  have X1 := Lib.hid (ext_alloc X.out (.cells #[.int .i64 (l.length : Int), .int .i64 0, .int .i64 0, .int .i64 0] 42))
  go_wp2
  have K2 := Lib.hid (blk_new (W := w1) (g := w1.heap.size) 42 #[.int .i64 (l.length : Int), .int .i64 0, .int .i64 0, .int .i64 0] rfl)
  replace K1 := Lib.hid (K1.out.alloc (.cells #[.int .i64 (l.length : Int), .int .i64 0, .int .i64 0, .int .i64 0] 42))
  have X2 := Lib.hid (below_box w1 (.cells #[.int .i64 (l.length : Int), .int .i64 0, .int .i64 0, .int .i64 0] 42))
  generalize w1.alloc (.cells #[.int .i64 (l.length : Int), .int .i64 0, .int .i64 0, .int .i64 0] 42) = W0 at K1 K2 X1 X2 ⊢
  go_loopw [20] (fun i wr => ∃ k : Nat, k ≤ l.length ∧ i = .int .i64 k ∧ Blk wr w1.heap.size 42 #[.int .i64 (l.length : Int), .int .i64 (sumUp id (l.take k)), .int .i64 (sumUp absI (l.take k)), .int .i64 (sumUp (fun d => d * d) (l.take k))] ∧ Blk wr w.heap.size 42 #[.int .i64 0, .int .i64 0, .int .i64 0, .int .i64 0] ∧ Below w.heap.size w wr ∧ Below w1.heap.size w1 wr) (fun i _ => l.length - (intOf i).toNat)
  case atStart => exact ⟨0, Nat.zero_le _, rfl, K2.out, K1.out, X1.out, X2.out⟩
  case round =>
    obtain ⟨k, hk, rfl, k2, k1, x1, x2⟩ := hrel
    clear K1 K2 X1 X2
    have HLe := HL.out
    by_cases hk1 : k < l.length
    · obtain ⟨b, o, rfl, hbl, hq⟩ := (hR.out.below x2).at_ (k := 2 * k) (by rw [pcells_len]; omega)
      have y0 := hq _ _ (pcells_get l k hk1).1
      have y1 := hq _ _ (pcells_get l k hk1).2
      rw [show o + (2 * k + 1) = o + k * 2 + 1 by omega] at y1
      rw [show o + 2 * k = o + k * 2 by omega] at y0
      have hbb : b < wr.heap.size := Nat.lt_of_lt_of_le hbl x2.size
      have hg2 : w1.heap.size < wr.heap.size := k2.lt
      have t1 := Lib.hid (sumUp_take id l k hk1)
      have t2 := Lib.hid (sumUp_take absI l k hk1)
      have t3 := Lib.hid (sumUp_take (fun d => d * d) l k hk1)
      have hp := HP.out k hk1
      have c1 : wr.cell? ⟨w1.heap.size, 1, none⟩ = some (.int .i64 (sumUp id (l.take k))) := by rw [k2.cell]; rfl
      have c2 : wr.cell? ⟨w1.heap.size, 2, none⟩ = some (.int .i64 (sumUp absI (l.take k))) := by rw [k2.cell]; rfl
      have c3 : wr.cell? ⟨w1.heap.size, 3, none⟩ = some (.int .i64 (sumUp (fun d => d * d) (l.take k))) := by rw [k2.cell]; rfl
      have f1 := k2.frozen 1
      have f2 := k2.frozen 2
      have f3 := k2.frozen 3
      have bd : (-20000000000 ≤ sumUp id (l.take k) ∧ sumUp id (l.take k) ≤ 20000000000) ∧ (-20000000000 ≤ sumUp absI (l.take k) ∧ sumUp absI (l.take k) ≤ 20000000000) ∧ (-40000000000000000 ≤ sumUp (fun d => d * d) (l.take k) ∧ sumUp (fun d => d * d) (l.take k) ≤ 40000000000000000) := sums_bd l k HLe hk HP.out
      obtain ⟨⟨ba1, ba2⟩, ⟨bb1, bb2⟩, bc1, bc2⟩ := bd
      replace x1 := Lib.hid x1
      replace x2 := Lib.hid x2
      replace k1 := Lib.hid k1
      replace k2 := Lib.hid k2
      clear hq
      generalize l.getD k (0, 0) = p at y0 y1 t1 t2 t3 hp
      obtain ⟨p1, p2⟩ := p
      have hp' : (-1000000 ≤ p1 ∧ p1 ≤ 1000000) ∧ (-1000000 ≤ p2 ∧ p2 ≤ 1000000) := by
        unfold pOk at hp; rw [Bool.and_eq_true] at hp; exact ⟨inB_iff.1 hp.1, inB_iff.1 hp.2⟩
      obtain ⟨⟨bp1, bp2⟩, bp3, bp4⟩ := hp'
      clear hp
      have hdd : 0 ≤ (p1 - p2) * (p1 - p2) ∧ (p1 - p2) * (p1 - p2) ≤ 4000000000000 := sq_bd _ (by omega)
      obtain ⟨bq1, bq2⟩ := hdd
      generalize sumUp id (l.take k) = s1 at *
      generalize sumUp absI (l.take k) = s2 at *
      generalize sumUp (fun d => d * d) (l.take k) = s3 at *
      have e2 : sumUp absI (l.take (k + 1)) = s2 + (if p1 - p2 < -(p1 - p2) then -(p1 - p2) else p1 - p2) := by
        rw [t2.out]; unfold absI; show s2 + max (p1 - p2) (-(p1 - p2)) = _; split <;> omega
      replace e2 := Lib.hid e2
      go_wp2_with fail
      go_round
      case rel =>
        refine ⟨k + 1, by omega, by go_num, ?_, ?_, ?_, ?_⟩
        · rw [show sumUp id (l.take (k + 1)) = s1 + (p1 - p2) from t1.out, e2.out, show sumUp (fun d => d * d) (l.take (k + 1)) = s3 + (p1 - p2) * (p1 - p2) from t3.out]
          exact (((k2.out.puts 1 _ rfl).puts 2 _ rfl).puts 3 _ rfl).alloc _
        · exact (((k1.out.far (by simp; omega) _).far (by simp; omega) _).far (by simp; omega) _).alloc _
        · exact ext_alloc (((x1.out.setCell (by simp; omega) _).setCell (by simp; omega) _).setCell (by simp; omega) _) _
        · exact ext_alloc (((x2.out.setCell (by simp) _).setCell (by simp) _).setCell (by simp) _) _
      case measure => simp [intOf]; omega
    · have hk' : k = l.length := by omega
      subst hk'
      rw [List.take_length] at k2
      have c0 : wr.cell? ⟨w1.heap.size, 0, none⟩ = some (.int .i64 (l.length : Int)) := by rw [k2.cell]; rfl
      have c1 : wr.cell? ⟨w1.heap.size, 1, none⟩ = some (.int .i64 (sumUp id l)) := by rw [k2.cell]; rfl
      have c2 : wr.cell? ⟨w1.heap.size, 2, none⟩ = some (.int .i64 (sumUp absI l)) := by rw [k2.cell]; rfl
      have c3 : wr.cell? ⟨w1.heap.size, 3, none⟩ = some (.int .i64 (sumUp (fun d => d * d) l)) := by rw [k2.cell]; rfl
      have r0 : wr.cell? ⟨w.heap.size, 0, none⟩ = some (.int .i64 0) := by rw [k1.cell]; rfl
      have r1 : wr.cell? ⟨w.heap.size, 1, none⟩ = some (.int .i64 0) := by rw [k1.cell]; rfl
      have r2 : wr.cell? ⟨w.heap.size, 2, none⟩ = some (.int .i64 0) := by rw [k1.cell]; rfl
      have r3 : wr.cell? ⟨w.heap.size, 3, none⟩ = some (.int .i64 0) := by rw [k1.cell]; rfl
      have f0 := k1.frozen 0
      have f1 := k1.frozen 1
      have f2 := k1.frozen 2
      have f3 := k1.frozen 3
      replace x1 := Lib.hid x1
      clear k1 k2 x2
      generalize sumUp id l = s1 at *
      generalize sumUp absI l = s2 at *
      generalize sumUp (fun d => d * d) l = s3 at *
      go_wp2
      refine bodyPost_ret (v := .tuple #[.agg #[.int .i64 (l.length : Int), .int .i64 s1, .int .i64 s2, .int .i64 s3], .int .i64 0]) (by simp [results, Try.results21, go_sem, r0, r1, r2, r3]) rfl ?_
      rw [HS.out]
      exact ⟨rfl, (((x1.out.setCell (by simp) _).setCell (by simp) _).setCell (by simp) _).setCell (by simp) _⟩
end Go.Proofs.Ytjllgdpnbllnjaa
