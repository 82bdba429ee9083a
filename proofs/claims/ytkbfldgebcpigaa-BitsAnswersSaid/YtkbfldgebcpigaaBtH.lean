/- Bits: the reference's Append; Same. -/
import Derived.Test.YtkbfldgebcpigaaBtG
namespace Go.Proofs.Ytkbfldgebcpigaa
open Go
set_option linter.unusedVariables false
set_option linter.unusedSimpArgs false

structure ApP (ys : List (List AV)) (n v w : Int) (x : Int × List (List AV)) : Prop where
  flo : -1 ≤ x.1
  fhi : x.1 < w
  fz : x.2 = ir (ub ys n ++ nb v.toNat w.toNat (w - 1 - x.1).toNat)
def apI (ys : List (List AV)) (n v w : Int) : LInv := ⟨Int × List (List AV), fun x => ⟨[(1, .int .i64 v), (2, .int .i64 w), (6, .ptr 6 0), (8, .rw 36 1 x.2.length), (9, .int .i64 x.1)], [(6, .cells [.nils, .int .i64 0]), (36, .row 3 1 x.2)]⟩, ApP ys n v w, fun x => (x.1 + 1).toNat, none⟩
def rbappend_s : Sp
  | [.agg [.sl 1 f ys, .int .i64 n], .int .i64 v, .int .i64 w] => some (BytP ys, .tup [.agg [.sl 1 false (appR ys n v w), .int .i64 (appL ys n v w)], .int .i64 (appE ys n v w)])
  | _ => none
set_option maxRecDepth 100000 in
def rbappend_T : Prop :=
  ∀ (gl : Glob) (f : Bool) (ys : List (List AV)) (n v w : Int), BytP ys → True ∧ ((-9223372036854775808 : Int) ≤ n ∧ n ≤ (9223372036854775807 : Int)) ∧ True → (-9223372036854775808 :
  Int) ≤ v ∧ v ≤ (9223372036854775807 : Int) → (-9223372036854775808 : Int) ≤ w ∧ w ≤ (9223372036854775807 : Int) → BytP ys ∧ bif !validB (bn ys) n then (appR ys n v w = [] ∧ (0 :
  Int) = appL ys n v w ∧ True) ∧ (7 : Int) = appE ys n v w ∧ True else True ∧ bif !widB w then (appR ys n v w = [] ∧ (0 : Int) = appL ys n v w ∧ True) ∧ (1 : Int) = appE ys n v w ∧
  True else bif decide (v < (0 : Int)) then (appR ys n v w = [] ∧ (0 : Int) = appL ys n v w ∧ True) ∧ (1 : Int) = appE ys n v w ∧ True else bif decide ((0 : Int) ≤ IntKind.u64.wrap
  w) then bif decide (rng IntKind.i64 ((1 : Int) * (2 : Int) ^ min (IntKind.u64.wrap w).toNat (64 : Nat))) then bif decide ((1 : Int) * (2 : Int) ^ min (IntKind.u64.wrap w).toNat (64
  : Nat) ≤ v) then (appR ys n v w = [] ∧ (0 : Int) = appL ys n v w ∧ True) ∧ (1 : Int) = appE ys n v w ∧ True else bif decide (rng IntKind.i64 (n + w)) then bif decide ((40000 : Int)
  < n + w) then (appR ys n v w = [] ∧ (0 : Int) = appL ys n v w ∧ True) ∧ (2 : Int) = appE ys n v w ∧ True else (BytP ys ∧ validB (bn ys) n = true) ∧ bif decide (rng IntKind.i64 (w -
  (1 : Int))) then (∃ x, ApP ys n v w x ∧ (v = v ∧ w = w ∧ (0 : Nat) = (0 : Nat) ∧ (ir (ub ys n)).length = x.snd.length ∧ w - (1 : Int) = x.fst ∧ True) ∧ (True ∧ (0 : Int) = (0 :
  Int) ∧ True) ∧ ir (ub ys n) = x.snd ∧ True) ∧ ∀ (x : Int × List (List AV)), ApP ys n v w x → bif decide ((0 : Int) ≤ x.fst) then bif decide ((0 : Int) ≤ IntKind.u64.wrap x.fst)
  then bif decide (x.snd.length = x.snd.length ∧ x.snd.length + [[AV.int IntKind.i64 (bits BinOp.and IntKind.i64 (v / (2 : Int) ^ min (IntKind.u64.wrap x.fst).toNat (64 : Nat)) (1 :
  Int))]].length ≤ (9223372036854775807 : Nat) ∧ (x.snd.length + [[AV.int IntKind.i64 (bits BinOp.and IntKind.i64 (v / (2 : Int) ^ min (IntKind.u64.wrap x.fst).toNat (64 : Nat)) (1 :
  Int))]].length) * (8 : Nat) ≤ (140737488355328 : Nat)) then bif decide (rng IntKind.i64 (x.fst - (1 : Int))) then ∃ y, ApP ys n v w y ∧ (apI ys n v w).m y < (apI ys n v w).m x ∧ (v
  = v ∧ w = w ∧ (0 : Nat) = (0 : Nat) ∧ (x.snd ++ [[AV.int IntKind.i64 (bits BinOp.and IntKind.i64 (v / (2 : Int) ^ min (IntKind.u64.wrap x.fst).toNat (64 : Nat)) (1 :
  Int))]]).length = y.snd.length ∧ x.fst - (1 : Int) = y.fst ∧ True) ∧ (True ∧ (0 : Int) = (0 : Int) ∧ True) ∧ x.snd ++ [[AV.int IntKind.i64 (bits BinOp.and IntKind.i64 (v / (2 :
  Int) ^ min (IntKind.u64.wrap x.fst).toNat (64 : Nat)) (1 : Int))]] = y.snd ∧ True else False else False else False else (BitP x.snd ∧ x.snd.length = x.snd.length) ∧ ((True ∧ br
  (pack (inn x.snd)) = appR ys n v w) ∧ (↑x.snd.length : Int) = appL ys n v w ∧ True) ∧ (0 : Int) = appE ys n v w ∧ True else False else False else False else False
set_option maxRecDepth 100000 in
theorem rbappend_P : rbappend_T := by
  unfold rbappend_T
  intro gl f ys n v w hb _ _ _
  have bad : ∀ z : Int, ¬ z = 0 → appE ys n v w = z → (appR ys n v w = [] ∧ 0 = appL ys n v w ∧ True) ∧ z = appE ys n v w ∧ True := by
    intro z hz he
    unfold appR appL
    rw [he, if_neg hz, if_neg hz]; exact ⟨⟨rfl, rfl, trivial⟩, rfl, trivial⟩
  have hl := hb.fl
  refine ⟨hb, csplit (fun q => ?_) (fun q => ⟨trivial, csplit (fun q2 => ?_) (fun q2 => cs (fun q3 => ?_) (fun q3 => ?_))⟩)⟩
  · have q : validB (bn ys) n = false := by simpa using q
    exact bad 7 (by decide) (by unfold appE; rw [q]; rfl)
  · have q : validB (bn ys) n = true := by simpa using q
    have q2 : widB w = false := by simpa using q2
    exact bad 1 (by decide) (by unfold appE; rw [q, q2]; rfl)
  · have q : validB (bn ys) n = true := by simpa using q
    exact bad 1 (by decide) (by unfold appE; rw [q, decide_eq_false (show ¬ (0 ≤ v ∧ v < 2 ^ w.toNat) from fun z => by omega), Bool.and_false]; rfl)
  have q : validB (bn ys) n = true := by simpa using q
  have q2 : widB w = true := by simpa using q2
  have hw := of_decide_eq_true q2
  have hvb := validB_iff.1 q
  rw [bn_len] at hvb
  have ew : IntKind.u64.wrap w = w := wrap_eq (by show _ ∧ _; omega)
  obtain ⟨k, hk, hk2⟩ : ∃ k : Nat, k = w.toNat ∧ k ≤ 24 := ⟨_, rfl, by omega⟩
  have hp : (1 : Int) * 2 ^ min w.toNat 64 = 2 ^ w.toNat := by rw [show min w.toNat 64 = w.toNat by omega, Int.one_mul]
  have hpb : (2 : Int) ^ w.toNat ≤ 16777216 := by
    rw [← hk]
    have : ∀ k : Nat, k ≤ 24 → (2 : Int) ^ k ≤ 16777216 := by decide
    exact this k hk2
  have hp0 : (0 : Int) < 2 ^ w.toNat := Int.pow_pos (by decide)
  rw [ew, hp]
  generalize hP : (2 : Int) ^ w.toNat = P at *
  have l1 : (ub ys n).length = n.toNat := by unfold ub; exact len_unpack _ _
  refine cd1 (by omega) (cdI (by omega) (cs (fun q4 => ?_) (fun q4 => cdI (by omega) (cs (fun q5 => ?_) (fun q5 => ⟨⟨hb, q⟩, cdI (by omega) ⟨⟨(w - 1, _), ⟨by simp only; omega, by simp only; omega, ?_⟩, ⟨rfl, rfl, rfl, rfl, rfl, trivial⟩, ⟨trivial, rfl, trivial⟩, rfl, trivial⟩, ?_⟩⟩)))))
  · exact bad 1 (by decide) (by unfold appE; rw [q, hP, decide_eq_false (show ¬ (0 ≤ v ∧ v < P) from fun z => by omega), Bool.and_false]; rfl)
  · exact bad 2 (by decide) (by unfold appE; rw [q, q2, hP, decide_eq_true (show 0 ≤ v ∧ v < P by omega), if_pos rfl, Bool.and_self, if_pos rfl, if_neg (by omega)])
  · simp only
    rw [show (w - 1 - (w - 1)).toNat = 0 by omega, show nb v.toNat w.toNat 0 = [] from rfl, List.append_nil]
    rfl
  rintro ⟨i, zs⟩ ⟨i0, i1, hz⟩
  simp only at i0 i1 hz
  dsimp only
  have zl : zs.length = n.toNat + (w - 1 - i).toNat := by rw [hz, ir_len, List.length_append, l1, length_nb]
  have b01 : ∀ k, B01 (ub ys n ++ nb v.toNat w.toNat k) := fun k => b01_append (b01_unpack _ _) (b01_nb _ _ _)
  refine cs (fun hi => ?_) (fun hi => ?_)
  · have ei : IntKind.u64.wrap i = i := wrap_eq (by show _ ∧ _; omega)
    have ev : v = ((v.toNat : Nat) : Int) := by omega
    have eb : bits .and .i64 (v / 2 ^ min i.toNat 64) 1 = ((v.toNat / 2 ^ i.toNat % 2 : Nat) : Int) := by
      rw [show min i.toNat 64 = i.toNat by omega]
      conv => lhs; rw [ev]
      exact and_shift _ _ (by omega)
    rw [ei, eb]
    have nx : zs ++ [[.int .i64 ((v.toNat / 2 ^ i.toNat % 2 : Nat) : Int)]] = ir (ub ys n ++ nb v.toNat w.toNat (w - 1 - (i - 1)).toNat) := by
      rw [show (w - 1 - (i - 1)).toNat = (w - 1 - i).toNat + 1 by omega, nb_succ, show w.toNat - 1 - (w - 1 - i).toNat = i.toNat by omega, ← List.append_assoc, ← ir_app, ← hz]
      rfl
    exact cd1 (by omega) (cd1 ⟨rfl, by simp; omega, by simp; omega⟩ (cdI (by omega) ⟨(i - 1, _), ⟨by simp only; omega, by simp only; omega, nx⟩, by simp only [apI]; omega, ⟨rfl, rfl, rfl, rfl, rfl, trivial⟩, ⟨trivial, rfl, trivial⟩, rfl, trivial⟩))
  · rw [show (w - 1 - i).toNat = w.toNat by omega] at hz zl
    obtain ⟨k1, k2⟩ := ir_ok (b01 w.toNat) (by rw [List.length_append, l1, length_nb]; omega)
    have e0 : appE ys n v w = 0 := by unfold appE; rw [q, q2, hP, decide_eq_true (show 0 ≤ v ∧ v < P by omega), if_pos rfl, Bool.and_self, if_pos rfl, if_pos (by omega)]
    unfold appR appL
    rw [e0, if_pos rfl, if_pos rfl]
    refine ⟨⟨by rw [hz]; exact k1, rfl⟩, ⟨⟨trivial, ?_⟩, by omega, trivial⟩, rfl, trivial⟩
    rw [hz, k2]
def rbappend_S : Prop := ∀ (gl : Glob) (f : Bool) (ys : List (List AV)) (n v w : Int), BytP ys → fnK Try.prog { glob := gl, spec := lk [(12, rbvalid_s), (34, rbwidth_s)], specH := lk [(35, rball_s), (10, rbof_s)], nowf := true } { nt := 53, drop := drp [(1, 3072), (2, 8192), (3, 134201344), (4, 268435456), (5, 8053063680), (6, 17179869184), (7, 103079215104), (8, 412316860416), (9, 549755813888), (10, 6597069766656), (11, 2243003720663040), (12, 6755399441055744)] } (invs [(9, apI ys n v w)]) 6 Try.f22 [.agg [.sl 1 f ys, .int .i64 n], .int .i64 v, .int .i64 w] (.tup [.agg [.sl 1 false (appR ys n v w), .int .i64 (appL ys n v w)], .int .i64 (appE ys n v w)])
set_option maxRecDepth 100000 in
theorem rbappend_e : rbappend_T = rbappend_S := by kernel_rfl
theorem rbappend_v : rbappend_S := @Eq.mp (rbappend_T) (rbappend_S) (rbappend_e) rbappend_P
theorem rbappend_ok (gl : Glob) : SOK Try.prog gl 22 rbappend_s := by
  refine ⟨fok Try.func22 (by kernel_rfl) (by kernel_rfl), ?_⟩
  intro xs pre r h hp
  unfold rbappend_s at h
  split at h
  · simp only [Option.some.injEq, Prod.mk.injEq] at h
    obtain ⟨h1, h2⟩ := h
    subst h1 h2
    exact fnK_sound tyNil (by exact specOK rfl rfl ⟨(rbvalid_ok gl), (rbwidth_ok gl), trivial⟩ ⟨(rball_ok gl), (rbof_ok gl), trivial⟩) (by kernel_rfl) Try.func22 rfl (rbappend_v gl _ _ _ _ _ hp)
  · cases h
structure SeP (ys zs : List (List AV)) (i : Int) : Prop where
  flo : 0 ≤ i
  fhi : i ≤ ys.length
  fz : ∀ k : Nat, (k : Int) < i → (bn ys).getD k 0 = (bn zs).getD k 0
def seI (f g : Bool) (ys zs : List (List AV)) : LInv := ⟨Int, fun i => ⟨[(0, .sl 1 f ys), (1, .sl 1 g zs), (12, .int .i64 ys.length), (13, .int .i64 i)], []⟩, SeP ys zs, fun i => (ys.length - i).toNat, none⟩
def seq_s : Sp
  | [.sl 1 f ys, .sl 1 g zs] => some (BytP ys ∧ BytP zs, .bool (decide (bn ys = bn zs)))
  | _ => none
set_option maxRecDepth 100000 in
def seq_T : Prop :=
  ∀ (gl : Glob) (f g : Bool) (ys zs : List (List AV)), BytP ys ∧ BytP zs → True → True → bif decide ¬(↑ys.length : Int) = (↑zs.length : Int) then false = decide (bn ys = bn zs) else
  (∃ x, SeP ys zs x ∧ (((bif f then f = true else True) ∧ ys = ys) ∧ ((bif g then g = true else True) ∧ zs = zs) ∧ (↑ys.length : Int) = (↑ys.length : Int) ∧ (0 : Int) = x ∧ True) ∧
  True) ∧ ∀ (x : Int), SeP ys zs x → bif decide (x < (↑ys.length : Int)) then bif decide ((0 : Int) ≤ x ∧ x < (↑ys.length : Int)) then ∃ n, List.take [AV.int IntKind.u8 n].length
  (ys.getD x.toNat []) = [AV.int IntKind.u8 n] ∧ bif decide ((0 : Int) ≤ x ∧ x < (↑zs.length : Int)) then ∃ n_1, List.take [AV.int IntKind.u8 n_1].length (zs.getD x.toNat []) =
  [AV.int IntKind.u8 n_1] ∧ bif decide ¬n = n_1 then false = decide (bn ys = bn zs) else bif decide (rng IntKind.i64 (x + (1 : Int))) then ∃ y, SeP ys zs y ∧ (seI f g ys zs).m y <
  (seI f g ys zs).m x ∧ (((bif f then f = true else True) ∧ ys = ys) ∧ ((bif g then g = true else True) ∧ zs = zs) ∧ (↑ys.length : Int) = (↑ys.length : Int) ∧ x + (1 : Int) = y ∧
  True) ∧ True else False else False else False else true = decide (bn ys = bn zs)
set_option maxRecDepth 100000 in
theorem seq_P : seq_T := by
  unfold seq_T
  intro gl f g ys zs ⟨hb, hc⟩ _ _
  have bf : cond f (f = true) True := by cases f <;> trivial
  have bg : cond g (g = true) True := by cases g <;> trivial
  have h1 := bn_len ys
  have h2 := bn_len zs
  have hl := hb.fl
  refine cs (fun h => ?_) (fun h => ⟨⟨0, ⟨by decide, by omega, fun k hk => by omega⟩, ⟨⟨bf, rfl⟩, ⟨bg, rfl⟩, rfl, rfl, trivial⟩, trivial⟩, ?_⟩)
  · exact (decide_eq_false fun q => h (by rw [← h1, ← h2, q])).symm
  rintro i ⟨i0, i1, hz⟩
  refine cs (fun hi => cd1 (by omega) ⟨_, by rw [(bn_at hb (j := i.toNat) (by omega)).1]; rfl, cd1 (by omega) ⟨_, by rw [(bn_at hc (j := i.toNat) (by omega)).1]; rfl, cs (fun q => ?_) (fun q => ?_)⟩⟩) (fun hi => ?_)
  · exact (decide_eq_false fun z => q (by rw [z])).symm
  · refine cdI (by omega) ⟨i + 1, ⟨by omega, by omega, fun k hk => ?_⟩, by simp only [seI]; omega, ⟨⟨bf, rfl⟩, ⟨bg, rfl⟩, rfl, rfl, trivial⟩, trivial⟩
    rcases Nat.lt_or_ge k i.toNat with h | h
    · exact hz k (by omega)
    · rw [show k = i.toNat by omega]; have q := Decidable.not_not.1 q; omega
  · exact (decide_eq_true (ext_getD (by omega) fun k hk => hz k (by omega))).symm
def seq_S : Prop := ∀ (gl : Glob) (f g : Bool) (ys zs : List (List AV)), BytP ys ∧ BytP zs → fnK Try.prog { glob := gl, spec := lk [], specH := lk [], shape := [19, 23], nowf := true } { nt := 26, drop := drp [(1, 960), (3, 2048), (5, 32768), (6, 16711680), (8, 33554432)] } (invs [(4, seI f g ys zs)]) 6 Try.f36 [.sl 1 f ys, .sl 1 g zs] (.bool (decide (bn ys = bn zs)))
set_option maxRecDepth 100000 in
theorem seq_e : seq_T = seq_S := by kernel_rfl
theorem seq_v : seq_S := @Eq.mp (seq_T) (seq_S) (seq_e) seq_P
theorem seq_ok (gl : Glob) : SOK Try.prog gl 36 seq_s := by
  refine ⟨fok Try.func36 (by kernel_rfl) (by kernel_rfl), ?_⟩
  intro xs pre r h hp
  unfold seq_s at h
  split at h
  · simp only [Option.some.injEq, Prod.mk.injEq] at h
    obtain ⟨h1, h2⟩ := h
    subst h1 h2
    exact fnK_sound tyNil (by exact specOK rfl rfl trivial trivial) (by kernel_rfl) Try.func36 rfl (seq_v gl _ _ _ _ hp)
  · cases h
def bsame_s : Sp
  | [.agg [.sl 1 f ys, .int .i64 n], .agg [.sl 1 g zs, .int .i64 m]] => some (BytP ys ∧ BytP zs, .bool (decide (n = m) && decide (bn ys = bn zs)))
  | _ => none
set_option maxRecDepth 100000 in
def bsame_T : Prop :=
  ∀ (gl : Glob) (f g : Bool) (ys zs : List (List AV)) (n m : Int), BytP ys ∧ BytP zs → True ∧ ((-9223372036854775808 : Int) ≤ n ∧ n ≤ (9223372036854775807 : Int)) ∧ True → True ∧
  ((-9223372036854775808 : Int) ≤ m ∧ m ≤ (9223372036854775807 : Int)) ∧ True → bif decide (n = m) then (BytP ys ∧ BytP zs) ∧ decide (bn ys = bn zs) = (decide (n = m) && decide (bn
  ys = bn zs)) else false = (decide (n = m) && decide (bn ys = bn zs))
set_option maxRecDepth 100000 in
theorem bsame_P : bsame_T := by
  unfold bsame_T
  intro gl f g ys zs n m ⟨hb, hc⟩ _ _
  refine cs (fun h => ⟨⟨hb, hc⟩, ?_⟩) (fun h => ?_)
  · rw [decide_eq_true h]; rfl
  · rw [decide_eq_false h]; rfl
def bsame_S : Prop := ∀ (gl : Glob) (f g : Bool) (ys zs : List (List AV)) (n m : Int), BytP ys ∧ BytP zs → fnK Try.prog { glob := gl, spec := lk [(36, seq_s)], specH := lk [], nowf := true } { nt := 17, drop := drp [(1, 131040)] } (fun _ _ => none) 6 Try.f28 [.agg [.sl 1 f ys, .int .i64 n], .agg [.sl 1 g zs, .int .i64 m]] (.bool (decide (n = m) && decide (bn ys = bn zs)))
set_option maxRecDepth 100000 in
theorem bsame_e : bsame_T = bsame_S := by kernel_rfl
theorem bsame_v : bsame_S := @Eq.mp (bsame_T) (bsame_S) (bsame_e) bsame_P
theorem bsame_ok (gl : Glob) : SOK Try.prog gl 28 bsame_s := by
  refine ⟨fok Try.func28 (by kernel_rfl) (by kernel_rfl), ?_⟩
  intro xs pre r h hp
  unfold bsame_s at h
  split at h
  · simp only [Option.some.injEq, Prod.mk.injEq] at h
    obtain ⟨h1, h2⟩ := h
    subst h1 h2
    exact fnK_sound tyNil (by exact specOK rfl rfl ⟨(seq_ok gl), trivial⟩ trivial) (by kernel_rfl) Try.func28 rfl (bsame_v gl _ _ _ _ _ _ hp)
  · cases h
end Go.Proofs.Ytkbfldgebcpigaa
