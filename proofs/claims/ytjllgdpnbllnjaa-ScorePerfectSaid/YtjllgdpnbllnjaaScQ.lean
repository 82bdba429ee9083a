/- Walks: score.Table. -/
import Derived.Test.YtjllgdpnbllnjaaScI
import Derived.Test.YtjllgdpnbllnjaaMm
namespace Go.Proofs.Ytjllgdpnbllnjaa
open Go.RowKit

/-- How many pairs f holds of. -/
def cnt (f : Int × Int → Bool) : List (Int × Int) → Int
  | [] => 0
  | p :: l => (if f p then 1 else 0) + cnt f l
theorem cnt_append (f : Int × Int → Bool) (a b : List (Int × Int)) : cnt f (a ++ b) = cnt f a + cnt f b := by
  induction a with
  | nil => simp [cnt]
  | cons p a ih => simp only [List.cons_append, cnt, ih]; omega
theorem cnt_take (f : Int × Int → Bool) (l : List (Int × Int)) (k : Nat) (hk : k < l.length) : cnt f (l.take (k + 1)) = cnt f (l.take k) + if f (l.getD k (0, 0)) then 1 else 0 := by
  rw [getD_get _ _ hk, List.take_succ_eq_append_getElem hk, cnt_append]
  simp [cnt]
theorem cnt_bd (f : Int × Int → Bool) (l : List (Int × Int)) : 0 ≤ cnt f l ∧ cnt f l ≤ l.length := by
  induction l with
  | nil => simp [cnt]
  | cons p l ih => simp only [cnt, List.length_cons]; split <;> omega
def fHit (t : Int) (p : Int × Int) : Bool := decide (t ≤ p.1) && decide (t ≤ p.2)
def fAlarm (t : Int) (p : Int × Int) : Bool := decide (t ≤ p.1) && !decide (t ≤ p.2)
def fMiss (t : Int) (p : Int × Int) : Bool := !decide (t ≤ p.1) && decide (t ≤ p.2)
def fRest (t : Int) (p : Int × Int) : Bool := !decide (t ≤ p.1) && !decide (t ≤ p.2)
/-- What Table gives: the code and the four counts. -/
def tabS (l : List (Int × Int)) (t : Int) : Int × Int × Int × Int × Int :=
  if checkS l = 0 then (0, cnt (fHit t) l, cnt (fAlarm t) l, cnt (fMiss t) l, cnt (fRest t) l) else (checkS l, 0, 0, 0, 0)
def Cnts (t : Int) (l : List (Int × Int)) (n1 n2 n3 n4 : Int) : Prop := cnt (fHit t) l = n1 ∧ cnt (fAlarm t) l = n2 ∧ cnt (fMiss t) l = n3 ∧ cnt (fRest t) l = n4
theorem cnts_step {t : Int} {l : List (Int × Int)} {k : Nat} (hk : k < l.length) {n1 n2 n3 n4 p1 p2 : Int} (hp : l.getD k (0, 0) = (p1, p2)) (h : Cnts t (l.take k) n1 n2 n3 n4) :
    Cnts t (l.take (k + 1)) (if t ≤ p1 ∧ t ≤ p2 then n1 + 1 else n1) (if t ≤ p1 ∧ ¬ t ≤ p2 then n2 + 1 else n2) (if ¬ t ≤ p1 ∧ t ≤ p2 then n3 + 1 else n3) (if ¬ t ≤ p1 ∧ ¬ t ≤ p2 then n4 + 1 else n4) := by
  obtain ⟨h1, h2, h3, h4⟩ := h
  unfold Cnts
  rw [cnt_take _ l k hk, cnt_take _ l k hk, cnt_take _ l k hk, cnt_take _ l k hk, hp, h1, h2, h3, h4]
  by_cases a : t ≤ p1 <;> by_cases b : t ≤ p2 <;> simp [fHit, fAlarm, fMiss, fRest, a, b]

set_option maxHeartbeats 2000000 in
theorem table_any (A : Option Addr) (l : List (Int × Int)) (c : Nat) (t : Int) (w : World) (hR : Rd w w.heap.size A (pcells l)) (hlen : l.length ≤ 4611686018427387904) :
    Calls Try.prog 22 #[.slice A l.length c, .int .i64 t] w fun e w' => ERes w w' e (tabS l t) := by
  go_enter Try.func22, Try.ntmps22
  have M := Lib.hid (((Mm.start w).arg hR).new 23 #[.int .i64 0, .int .i64 0, .int .i64 0, .int .i64 0])
  clear hR
  go_wp2_with fail
  refine (check_any A l c _ (M.out.r 0 rfl) hlen).mono ?_
  rintro e w1 ⟨rfl, hb⟩
  replace M := Lib.hid (M.out.next hb)
  clear hb
  by_cases hc : checkS l = 0
  case neg =>
    have HS : Hid (tabS l t = (checkS l, 0, 0, 0, 0)) := hidI (by unfold tabS; rw [if_neg hc])
    have r0 := M.out.c 0 0 rfl rfl
    have r1 := M.out.c 0 1 rfl rfl
    have r2 := M.out.c 0 2 rfl rfl
    have r3 := M.out.c 0 3 rfl rfl
    have f0 := M.out.f 0 0 rfl
    have f1 := M.out.f 0 1 rfl
    have f2 := M.out.f 0 2 rfl
    have f3 := M.out.f 0 3 rfl
    generalize checkS l = cd at hc HS ⊢
    go_wp2
    refine bodyPost_ret (v := .tuple #[.agg #[.int .i64 0, .int .i64 0, .int .i64 0, .int .i64 0], .int .i64 cd]) (by simp [results, Try.results22, go_sem, r0, r1, r2, r3]) rfl ?_
    rw [HS.out]
    exact ⟨rfl, (((M.out.put 0 0 _ rfl).put 0 1 _ rfl).put 0 2 _ rfl).put 0 3 _ rfl |>.below⟩
  case pos =>
  have HL : Hid (l.length ≤ 10000) := hidI (by unfold checkS at hc; split at hc <;> omega)
  have HS : Hid (tabS l t = (0, cnt (fHit t) l, cnt (fAlarm t) l, cnt (fMiss t) l, cnt (fRest t) l)) := hidI (by unfold tabS; rw [if_pos hc])
  rw [hc]
  clear hc
  have hg0 := M.out.l 0 rfl
  replace M := Lib.hid (M.out.new 23 #[.int .i64 0, .int .i64 0, .int .i64 0, .int .i64 0])
  go_wp2_with fail
  generalize w1.alloc (.cells #[.int .i64 0, .int .i64 0, .int .i64 0, .int .i64 0] 23) = W0 at M ⊢
  go_loopw [20] (fun i wr => ∃ k : Nat, ∃ n1 n2 n3 n4 : Int, k ≤ l.length ∧ i = .int .i64 k ∧ Hid (Cnts t (l.take k) n1 n2 n3 n4) ∧ Hid (Mm w wr [(w1.heap.size, 23, #[.int .i64 n1, .int .i64 n2, .int .i64 n3, .int .i64 n4]), (w.heap.size, 23, #[.int .i64 0, .int .i64 0, .int .i64 0, .int .i64 0])] [(A, pcells l)] [])) (fun i _ => l.length - (intOf i).toNat)
  case atStart => exact ⟨0, 0, 0, 0, 0, Nat.zero_le _, rfl, hidI ⟨rfl, rfl, rfl, rfl⟩, M⟩
  case round =>
    obtain ⟨k, n1, n2, n3, n4, hk, rfl, HN, M'⟩ := hrel
    clear M
    have HLe := HL.out
    have hg2 := M'.out.l 0 rfl
    have c0 := M'.out.c 0 0 rfl rfl
    have c1 := M'.out.c 0 1 rfl rfl
    have c2 := M'.out.c 0 2 rfl rfl
    have c3 := M'.out.c 0 3 rfl rfl
    have f0 := M'.out.f 0 0 rfl
    have f1 := M'.out.f 0 1 rfl
    have f2 := M'.out.f 0 2 rfl
    have f3 := M'.out.f 0 3 rfl
    by_cases hk1 : k < l.length
    · obtain ⟨b, o, rfl, hbl, hq⟩ := (M'.out.r 0 rfl).at_ (k := 2 * k) (by rw [pcells_len]; omega)
      have y0 := hq _ _ (pcells_get l k hk1).1
      have y1 := hq _ _ (pcells_get l k hk1).2
      rw [show o + (2 * k + 1) = o + k * 2 + 1 by omega] at y1
      rw [show o + 2 * k = o + k * 2 by omega] at y0
      have hlt : (l.take k).length ≤ 10000 := by simp; omega
      have B : (0 ≤ n1 ∧ n1 ≤ 10000) ∧ (0 ≤ n2 ∧ n2 ≤ 10000) ∧ (0 ≤ n3 ∧ n3 ≤ 10000) ∧ (0 ≤ n4 ∧ n4 ≤ 10000) := by
        obtain ⟨h1, h2, h3, h4⟩ := HN.out
        have b1 := cnt_bd (fHit t) (l.take k)
        have b2 := cnt_bd (fAlarm t) (l.take k)
        have b3 := cnt_bd (fMiss t) (l.take k)
        have b4 := cnt_bd (fRest t) (l.take k)
        omega
      obtain ⟨⟨b1, b1'⟩, ⟨b2, b2'⟩, ⟨b3, b3'⟩, b4, b4'⟩ := B
      clear hq hlt
      obtain ⟨⟨p1, p2⟩, hp⟩ : ∃ p, l.getD k (0, 0) = p := ⟨_, rfl⟩
      rw [hp] at y0 y1
      replace HN := Lib.hid (cnts_step hk1 hp HN.out)
      clear hp
      by_cases h1 : t ≤ p1 <;> by_cases h2 : t ≤ p2
      all_goals
        simp only [h1, h2, if_true, if_false, and_self, and_true, and_false, not_true, not_false_eq_true] at HN
        go_wp2_with fail
        go_quiet (fail)
        go_wp2
        go_roundw
        case rel => exact ⟨k + 1, _, _, _, _, by omega, by go_num, HN, hidI ((((M'.out.new _ _).drewN _).put 1 _ _ rfl).tail)⟩
        case measure => simp [intOf]; omega
    · have hk' : k = l.length := by omega
      subst hk'
      have r0 := M'.out.c 1 0 rfl rfl
      have r1 := M'.out.c 1 1 rfl rfl
      have r2 := M'.out.c 1 2 rfl rfl
      have r3 := M'.out.c 1 3 rfl rfl
      have s0 := M'.out.f 1 0 rfl
      have s1 := M'.out.f 1 1 rfl
      have s2 := M'.out.f 1 2 rfl
      have s3 := M'.out.f 1 3 rfl
      rw [List.take_length] at HN
      go_wp2
      refine bodyPost_ret (v := .tuple #[.agg #[.int .i64 n1, .int .i64 n2, .int .i64 n3, .int .i64 n4], .int .i64 0]) (by simp [results, Try.results22, go_sem, r0, r1, r2, r3]) rfl ?_
      obtain ⟨e1, e2, e3, e4⟩ := HN.out
      rw [HS.out, e1, e2, e3, e4]
      exact ⟨rfl, (((M'.out.put 1 0 _ rfl).put 1 1 _ rfl).put 1 2 _ rfl).put 1 3 _ rfl |>.below⟩
end Go.Proofs.Ytjllgdpnbllnjaa
