/- The walk of writer.write. -/
import Derived.Test.YtkbfldgebcpigaaBitsB
import Derived.BigRegion
import Derived.Deep.LoopGhost
namespace Go.Proofs.Ytkbfldgebcpigaa
open Go.RowKit

/-- Block gw is a writer that holds the bits l: its row is the call's own, from block base on. -/
def WrOK (w : World) (base gw : Nat) (l : List Nat) : Prop :=
  ∃ v, Blk w gw 57 #[v, .int .i64 (l.length : Nat)] ∧ w.ownsRow base 5 1 v (pack l).length (u8s (pack l))

theorem or_fin : ∀ j, j < 8 → ∀ x, x < 2 → ∀ z, z < 256 → z % 2 ^ (j + 1) = 0 → bits .or .u8 ((z : Nat) : Int) (((x : Nat) : Int) % 256 * 2 ^ j % 256) = ((z + x * 2 ^ j : Nat) : Int) := by decide +kernel
theorem ofInt_i64 (a : Nat) (ha : a < 9223372036854775808) : (BitVec.ofInt 64 (a : Int)).toNat = a := by
  rw [BitVec.ofInt_natCast, BitVec.toNat_ofNat]; exact Nat.mod_eq_of_lt (by omega)
theorem and_one_i64 (q : Nat) (hq : q < 9223372036854775808) : bits .and .i64 ((q : Nat) : Int) 1 = ((q % 2 : Nat) : Int) := by
  have h1 : (BitVec.ofInt 64 (1 : Int)).toNat = 1 := by decide
  show IntKind.i64.wrap ((BitVec.ofInt 64 (q : Int) &&& BitVec.ofInt 64 (1 : Int)).toNat : Int) = _
  rw [BitVec.toNat_and, ofInt_i64 q hq, h1, Nat.and_one_is_mod, IntKind.wrap_i64]
  omega
theorem or_step (z j value s : Nat) (hz : z < 256) (hj : j < 8) (hv : value < 16777216) (hlow : z % 2 ^ (j + 1) = 0) :
    bits .or .u8 ((z : Nat) : Int) (bits .and .i64 (((value : Nat) : Int) / 2 ^ s) 1 % 256 * 2 ^ j % 256) = ((z + value / 2 ^ s % 2 * 2 ^ j : Nat) : Int) := by
  have e : ((value : Nat) : Int) / 2 ^ s = ((value / 2 ^ s : Nat) : Int) := by push_cast; rfl
  have h1 : value / 2 ^ s ≤ value := Nat.div_le_self _ _
  rw [e, and_one_i64 _ (by omega)]
  exact or_fin j hj _ (by omega) z hz hlow
theorem u8s_set (bs : List Nat) (k x : Nat) : u8s (bs.set k x) = (u8s bs).set k (.int .u8 ((x : Nat) : Int)) := by simp [u8s, List.map_set]
theorem grow_of (m : List Nat) (h : ¬ m.length % 8 = 0) : grow m = pack m := by unfold grow; rw [if_neg h]
theorem grow_at (m : List Nat) (h : m.length % 8 = 0) : grow m = pack m ++ [0] := by unfold grow; rw [if_pos h]
/-- What a round leaves is a writer again. -/
theorem wr_step {W : World} {base gw g n c : Nat} {m : List Nat} (x : Nat) (hblk : Blk W gw 57 #[.slice (some ⟨g, 0, none⟩) n c, .int .i64 (m.length : Nat)])
    (hown : W.ownsRow base 5 1 (.slice (some ⟨g, 0, none⟩) n c) n (u8s (grow m))) (hne : g ≠ gw) (hn : n = m.length / 8 + 1) :
    WrOK (((W.setCell ⟨g, m.length / 8, none⟩ (.int .u8 (((grow m).getD (m.length / 8) 0 + x * 2 ^ (7 - m.length % 8) : Nat) : Int))).drew).setCell ⟨gw, 1, none⟩ (.int .i64 ((m.length : Nat) + 1))) base gw (m ++ [x]) := by
  refine ⟨.slice (some ⟨g, 0, none⟩) n c, ?_, ?_⟩
  · exact Blk.puts (Blk.drew (hblk.far (p := ⟨g, m.length / 8, none⟩) (fun e => hne e.symm) _)) 1 _ (by simp)
  · have h1 := (hown.stored (m.length / 8) (.int .u8 (((grow m).getD (m.length / 8) 0 + x * 2 ^ (7 - m.length % 8) : Nat) : Int))).1
    rw [← u8s_set, ← pack_snoc] at h1
    have h2 : (W.setCell ⟨g, m.length / 8, none⟩ (.int .u8 (((grow m).getD (m.length / 8) 0 + x * 2 ^ (7 - m.length % 8) : Nat) : Int))).drew.ownsRow base 5 1 (.slice (some ⟨g, 0, none⟩) n c) n (u8s (pack (m ++ [x]))) := h1
    have h3 := ownsRow_setCell_other h2 (a := ⟨gw, 1, none⟩) (by simp [Value.ownBlock]; exact hne) (.int .i64 ((m.length : Nat) + 1))
    have e : (pack (m ++ [x])).length = n := by rw [length_pack]; simp; omega
    rw [e]
    exact h3

set_option maxHeartbeats 1000000 in
theorem write_any (base gw : Nat) (l : List Nat) (value width : Nat) (w : World) (B : Nat) (hw : WrOK w base gw l) (h01 : B01 l) (hv : value < 16777216) (hwd : width ≤ 24) (hlim : l.length + width ≤ 40000) (hB1 : B ≤ gw) (hB2 : B ≤ base) (hbs : base ≤ w.heap.size) :
    Calls Try.prog 31 #[.pointer (some ⟨gw, 0, none⟩), .int .i64 value, .int .i64 width] w fun e w' => e = .returned (.tuple #[]) ∧ WrOK w' base gw (l ++ nb value width width) ∧ Below B w w' := by
  obtain ⟨i0, hi, hz0, hz1, hz2⟩ := info_parts info_u8
  go_enter Try.func31, Try.ntmps31
  go_wp2
  go_loopw [6] (fun i wr => ∃ k : Nat, k ≤ width ∧ i = .int .i64 ((width : Int) - 1 - k) ∧ WrOK wr base gw (l ++ nb value width k) ∧ Below B w wr) (fun i _ => (intOf i + 1).toNat)
  case atStart => exact ⟨0, Nat.zero_le _, by simp, by simpa [nb] using hw, Below.refl _ _⟩
  case round =>
    obtain ⟨k, hk, rfl, hwo, hbel⟩ := hrel
    by_cases hlt : k < width
    · obtain ⟨v, hblk, hown⟩ := hwo
      have hsucc := Lib.hid (nb_succ value width k)
      have hlen : (l ++ nb value width k).length = l.length + k := by simp [length_nb]
      have hm01 : B01 (l ++ nb value width k) := b01_append h01 (b01_nb _ _ _)
      have HE := Lib.hid (List.append_assoc l (nb value width k) [value / 2 ^ (width - 1 - k) % 2])
      generalize l ++ nb value width k = m at hblk hown hlen hm01 HE
      have hml : m.length < 40000 := by omega
      have hpl : (pack m).length ≤ 5000 := by rw [length_pack]; omega
      have hsz : base ≤ wr.heap.size := Nat.le_trans hbs hbel.size
      have H1 := Lib.hid hlen
      have HM := Lib.hid hm01
      clear hlen hm01
      by_cases h8 : m.length % 8 = 0
      · have h8' : (((m.length : Nat) : Int) % 8 == 0) = true := by simp; omega
        have hg8 := Lib.hid (grow_at m h8)
        have hl8 := Lib.hid (length_grow m)
        have hlp : (pack m).length = m.length / 8 := by rw [length_pack]; omega
        have HLP := Lib.hid hlp
        have H2 := Lib.hid hown
        have H3 := Lib.hid hblk
        obtain ⟨A0, c0, rfl, _⟩ := (own_slice hown).2
        have hc0 : wr.cell? ⟨gw, 0, none⟩ = some (.slice A0 (pack m).length c0) := by rw [hblk.cell]; rfl
        have hc1 : wr.cell? ⟨gw, 1, none⟩ = some (.int .i64 (m.length : Nat)) := by rw [hblk.cell]; rfl
        have H8 := Lib.hid h8
        clear hown hblk hlp h8
        go_wp2_with (at_builtin; refine wpList_append_own _ rfl (.tmp 25) (.tmp 26) 26 rfl base 5 i0 (.int .u8 0) 1 1 Try.underlying26 hi hz0 hz1 hz2 rfl (by decide) _ _ _ rfl (H2.out.alloc _) ⟨wr.heap.size, 0, none⟩ 1 1 [.int .u8 0] rfl rfl ?c1 ?c2 ?c3 ?c4 ?c5 ?_)
        case c1 =>
          intro j u hj
          match j, hj with
          | 0, hj => simp at hj; subst hj; simp [Addr.add]
        case c2 => intro u hu; simp at hu; subst hu; rfl
        case c3 => unfold maxLen; omega
        case c4 => omega
        case c5 => simp; omega
        intro v1 w1 hown1 hgrow1 _
        have hblk1 : Blk w1 gw 57 #[.slice A0 (pack m).length c0, .int .i64 (m.length : Nat)] :=
          (H3.out.alloc _).grown hgrow1 (fun e => own_blk_ne H2.out H3.out (by decide) e.symm)
        have hbel1 : Below B w w1 := (hbel.alloc (by omega) _).grown hgrow1 (by simp; omega) (fun k hk => by
          have := (H2.out.alloc (.cells #[.int .u8 0] 5)).lt k hk; omega)
        rw [show u8s (pack m) ++ [Value.int .u8 0] = u8s (grow m) by rw [hg8.out]; simp [u8s]] at hown1
        obtain ⟨g, c, rfl, hbg, hgl, -, -⟩ := own_at hown1 (by omega)
        have hne : g ≠ gw := by
          have := own_blk_ne hown1 hblk1 (by decide)
          intro e; apply this; simp [Value.ownBlock, e]
        have hk0 : w1.cell? ⟨gw, 0, none⟩ = some (.slice A0 (pack m).length c0) := by rw [hblk1.cell]; rfl
        have hk1 : w1.frozen? ⟨gw, 0, none⟩ = false := hblk1.frozen 0
        have P1 := Lib.hid (ownsRow_setCell_other hown1 (a := ⟨gw, 0, none⟩) (by simp [Value.ownBlock]; exact hne) (.slice (some ⟨g, 0, none⟩) ((pack m).length + 1) c))
        have P2 := Lib.hid (hblk1.puts (cs' := #[.slice (some ⟨g, 0, none⟩) ((pack m).length + 1) c, .int .i64 (m.length : Nat)]) 0 (.slice (some ⟨g, 0, none⟩) ((pack m).length + 1) c) (by simp))
        have P3 := Lib.hid (hbel1.setCell (p := ⟨gw, 0, none⟩) hB1 (.slice (some ⟨g, 0, none⟩) ((pack m).length + 1) c))
        clear hown1 hblk1 hbel1 hgrow1 hc0 hc1 hbel
        go_wp2
        obtain ⟨n1, hn1'⟩ : ∃ n1, n1 = (pack m).length + 1 := ⟨_, rfl⟩
        have hn1 : n1 = m.length / 8 + 1 := by rw [hn1', HLP.out]
        rw [← hn1'] at P1 P2 P3
        rw [← hn1']
        generalize w1.setCell _ _ = W at P1 P2 P3 ⊢
        clear hk0 hk1 hn1'
        clear hgl
        have hq : m.length / 8 < (grow m).length := by rw [hl8.out]; omega
        have hzlow := grow_low m
        have hzb : (grow m).getD (m.length / 8) 0 < 256 := by rw [getD_grow]; exact byteOf_lt HM.out _
        obtain ⟨g', c', he, -, -, hcell, hfz⟩ := own_at P1.out (by omega)
        obtain ⟨rfl, rfl⟩ : g' = g ∧ c' = c := by simp at he; exact ⟨he.1.symm, he.2.symm⟩
        have hz := hcell (m.length / 8) _ (u8s_at _ _ hq)
        have hf := hfz (m.length / 8)
        have Q1 := Lib.hid (fun x => wr_step (m := m) x P2.out P1.out hne hn1)
        have Q2 := Lib.hid (fun u u' => ((P3.out.setCell (p := ⟨g', m.length / 8, none⟩) (by simp; omega) u).drew).setCell (p := ⟨gw, 1, none⟩) hB1 u')
        have hc0' : W.cell? ⟨gw, 0, none⟩ = some (.slice (some ⟨g', 0, none⟩) n1 c') := by rw [P2.out.cell]; rfl
        have hc1' : W.cell? ⟨gw, 1, none⟩ = some (.int .i64 (m.length : Nat)) := by rw [P2.out.cell]; rfl
        have hf1' := P2.out.frozen 1
        generalize (grow m).getD (m.length / 8) 0 = z at hz hzlow hzb Q1
        have HO := Lib.hid (or_step z (7 - m.length % 8) value (width - 1 - k) hzb (by omega) hv (by rw [show 7 - m.length % 8 + 1 = 8 - m.length % 8 by omega]; exact hzlow))
        have e1 : (((m.length : Nat) : Int) / 8).toNat = m.length / 8 := by omega
        have e2 : ((m.length : Nat) : Int) / 8 < (n1 : Nat) := by omega
        have HN := Lib.hid hn1
        clear hcell hfz hzlow hn1 he hq
        go_region
        rw [HO.out]
        go_wp2
        go_roundw
        case rel =>
          refine ⟨k + 1, by omega, by congr 1; omega, ?_, Q2.out _ _⟩
          rw [hsucc.out, ← HE.out]
          exact Q1.out _
        case measure => simp [intOf]; omega
      · have h8' : (((m.length : Nat) : Int) % 8 == 0) = false := by simp; omega
        have hg8 := Lib.hid (grow_of m h8)
        have hl8 := Lib.hid (length_grow m)
        obtain ⟨n1, hn1'⟩ : ∃ n1, n1 = (pack m).length := ⟨_, rfl⟩
        have hn1 : n1 = m.length / 8 + 1 := by rw [hn1', length_pack]; omega
        rw [← hn1'] at hown
        obtain ⟨g, c, rfl, hbg, -, -, -⟩ := own_at hown (by omega)
        have hne : g ≠ gw := by
          have := own_blk_ne hown hblk (by decide)
          intro e; apply this; simp [Value.ownBlock, e]
        rw [← grow_of m h8] at hown
        have P1 := Lib.hid hown
        have P2 := Lib.hid hblk
        have P3 := Lib.hid hbel
        have hc0 : wr.cell? ⟨gw, 0, none⟩ = some (.slice (some ⟨g, 0, none⟩) n1 c) := by rw [hblk.cell]; rfl
        have hc1 : wr.cell? ⟨gw, 1, none⟩ = some (.int .i64 (m.length : Nat)) := by rw [hblk.cell]; rfl
        clear hown hblk hbel h8 hn1'
        go_wp2
        obtain ⟨W, rfl⟩ : ∃ W, W = wr := ⟨_, rfl⟩
        clear hc0 hc1
        have hq : m.length / 8 < (grow m).length := by rw [hl8.out]; omega
        have hzlow := grow_low m
        have hzb : (grow m).getD (m.length / 8) 0 < 256 := by rw [getD_grow]; exact byteOf_lt HM.out _
        obtain ⟨g', c', he, -, -, hcell, hfz⟩ := own_at P1.out (by omega)
        obtain ⟨rfl, rfl⟩ : g' = g ∧ c' = c := by simp at he; exact ⟨he.1.symm, he.2.symm⟩
        have hz := hcell (m.length / 8) _ (u8s_at _ _ hq)
        have hf := hfz (m.length / 8)
        have Q1 := Lib.hid (fun x => wr_step (m := m) x P2.out P1.out hne hn1)
        have Q2 := Lib.hid (fun u u' => ((P3.out.setCell (p := ⟨g', m.length / 8, none⟩) (by simp; omega) u).drew).setCell (p := ⟨gw, 1, none⟩) hB1 u')
        have hc0' : W.cell? ⟨gw, 0, none⟩ = some (.slice (some ⟨g', 0, none⟩) n1 c') := by rw [P2.out.cell]; rfl
        have hc1' : W.cell? ⟨gw, 1, none⟩ = some (.int .i64 (m.length : Nat)) := by rw [P2.out.cell]; rfl
        have hf1' := P2.out.frozen 1
        generalize (grow m).getD (m.length / 8) 0 = z at hz hzlow hzb Q1
        have HO := Lib.hid (or_step z (7 - m.length % 8) value (width - 1 - k) hzb (by omega) hv (by rw [show 7 - m.length % 8 + 1 = 8 - m.length % 8 by omega]; exact hzlow))
        have e1 : (((m.length : Nat) : Int) / 8).toNat = m.length / 8 := by omega
        have e2 : ((m.length : Nat) : Int) / 8 < (n1 : Nat) := by omega
        have HN := Lib.hid hn1
        clear hcell hfz hzlow hn1 he hq
        go_region
        rw [HO.out]
        go_wp2
        go_roundw
        case rel =>
          refine ⟨k + 1, by omega, by congr 1; omega, ?_, Q2.out _ _⟩
          rw [hsucc.out, ← HE.out]
          exact Q1.out _
        case measure => simp [intOf]; omega
    · have hkw : k = width := by omega
      subst hkw
      have HW := Lib.hid hwo
      have HB := Lib.hid hbel
      clear hwo hbel
      go_wp2
      go_end0
      exact ⟨rfl, HW.out, HB.out⟩
end Go.Proofs.Ytkbfldgebcpigaa
