/- Bits: the reference's Append, Read, Join, Pad. -/
import Derived.Test.YtkbfldgebcpigaaBtF
namespace Go.Proofs.Ytkbfldgebcpigaa
open Go
set_option linter.unusedVariables false
set_option linter.unusedSimpArgs false

def rbwidth_s : Sp
  | [.int .i64 w] => some (True, .bool (widB w))
  | _ => none
set_option maxRecDepth 100000 in
def rbwidth_T : Prop :=
  ∀ (gl : Glob) (w : Int), (-9223372036854775808 : Int) ≤ w ∧ w ≤ (9223372036854775807 : Int) → bif decide ((1 : Int) ≤ w) then decide (w ≤ (24 : Int)) = widB w else false = widB w
set_option maxRecDepth 100000 in
theorem rbwidth_P : rbwidth_T := by
  unfold rbwidth_T
  intro gl w _
  unfold widB
  refine cs (fun h => ?_) (fun h => (decide_eq_false (by omega)).symm)
  exact decide_eq_decide.2 ⟨fun q => ⟨by omega, q⟩, fun q => q.2⟩
def rbwidth_S : Prop := ∀ (gl : Glob) (w : Int), fnK Try.prog { glob := gl, spec := lk [], specH := lk [], nowf := true } { nt := 9, drop := drp [(1, 504)] } (fun _ _ => none) 6 Try.f34 [.int .i64 w] (.bool (widB w))
set_option maxRecDepth 100000 in
theorem rbwidth_e : rbwidth_T = rbwidth_S := by kernel_rfl
theorem rbwidth_v : rbwidth_S := @Eq.mp (rbwidth_T) (rbwidth_S) (rbwidth_e) rbwidth_P
theorem rbwidth_ok (gl : Glob) : SOK Try.prog gl 34 rbwidth_s := by
  refine ⟨fok Try.func34 (by kernel_rfl) (by kernel_rfl), ?_⟩
  intro xs pre r h hp
  unfold rbwidth_s at h
  split at h
  · simp only [Option.some.injEq, Prod.mk.injEq] at h
    obtain ⟨h1, h2⟩ := h
    subst h1 h2
    exact fnK_sound tyNil (by exact specOK rfl rfl trivial trivial) (by kernel_rfl) Try.func34 rfl (rbwidth_v gl _)
  · cases h
structure RrP (ys : List (List AV)) (a w : Int) (x : Int × Int) : Prop where
  flo : 0 ≤ x.2
  fhi : x.2 ≤ w
  fv : x.1 = ((rdN ys a x.2.toNat : Nat) : Int)
def rrI (f : Bool) (ys : List (List AV)) (n a w : Int) : LInv := ⟨Int × Int, fun x => ⟨[(1, .int .i64 a), (2, .int .i64 w), (3, .ptr 3 0), (8, .int .i64 x.1), (9, .int .i64 x.2)], [(3, .cells [.sl 1 f ys, .int .i64 n])]⟩, RrP ys a w, fun x => (w - x.2).toNat, none⟩
theorem ir_ok {l : List Nat} (h : B01 l) (hl : l.length ≤ 1000000) : BitP (ir l) ∧ inn (ir l) = l := by
  have e : inn (ir l) = l := by
    unfold inn ir
    rw [List.map_map]
    have : ((fun r => (cellI r).toNat) ∘ fun n : Nat => [AV.int .i64 (n : Int)]) = id := by
      funext n; simp [cellI]
    rw [this, List.map_id]
  refine ⟨⟨fun i hi => ?_, by simpa [ir] using hl⟩, e⟩
  have hi' : i < l.length := by simpa [ir] using hi
  refine ⟨l.getD i 0, ?_, by have := h i; omega⟩
  unfold ir
  rw [List.getD_eq_getElem?_getD, List.getElem?_map, List.getD_eq_getElem?_getD, List.getElem?_eq_getElem hi']
  rfl
theorem ir_app (a b : List Nat) : ir a ++ ir b = ir (a ++ b) := by simp [ir]
theorem ir_len (l : List Nat) : (ir l).length = l.length := by simp [ir]
def rbread_s : Sp
  | [.agg [.sl 1 f ys, .int .i64 n], .int .i64 a, .int .i64 w] => some (BytP ys, .tup [.int .i64 (rdV ys n a w), .int .i64 (rdE ys n a w)])
  | _ => none
set_option maxRecDepth 100000 in
def rbread_T : Prop :=
  ∀ (gl : Glob) (f : Bool) (ys : List (List AV)) (n a w : Int), BytP ys → True ∧ ((-9223372036854775808 : Int) ≤ n ∧ n ≤ (9223372036854775807 : Int)) ∧ True → (-9223372036854775808 :
  Int) ≤ a ∧ a ≤ (9223372036854775807 : Int) → (-9223372036854775808 : Int) ≤ w ∧ w ≤ (9223372036854775807 : Int) → BytP ys ∧ bif !validB (bn ys) n then (0 : Int) = rdV ys n a w ∧ (7
  : Int) = rdE ys n a w ∧ True else True ∧ bif !widB w then (0 : Int) = rdV ys n a w ∧ (1 : Int) = rdE ys n a w ∧ True else bif decide (a < (0 : Int)) then (0 : Int) = rdV ys n a w ∧
  (1 : Int) = rdE ys n a w ∧ True else bif decide (rng IntKind.i64 (n - w)) then bif decide (n - w < a) then (0 : Int) = rdV ys n a w ∧ (11 : Int) = rdE ys n a w ∧ True else (∃ x,
  RrP ys a w x ∧ (a = a ∧ w = w ∧ (0 : Nat) = (0 : Nat) ∧ (0 : Int) = x.fst ∧ (0 : Int) = x.snd ∧ True) ∧ (((bif f then f = true else True) ∧ ys = ys) ∧ n = n ∧ True) ∧ True) ∧ ∀ (x
  : Int × Int), RrP ys a w x → bif decide (x.snd < w) then bif decide (rng IntKind.i64 ((2 : Int) * x.fst)) then bif decide (rng IntKind.i64 (a + x.snd)) then (BytP ys ∧ (0 : Int) ≤
  a + x.snd ∧ a + x.snd < (8 : Int) * (↑ys.length : Int)) ∧ bif decide (rng IntKind.i64 ((2 : Int) * x.fst + (↑(bitOf (bn ys) (a + x.snd).toNat) : Int))) then bif decide (rng
  IntKind.i64 (x.snd + (1 : Int))) then ∃ y, RrP ys a w y ∧ (rrI f ys n a w).m y < (rrI f ys n a w).m x ∧ (a = a ∧ w = w ∧ (0 : Nat) = (0 : Nat) ∧ (2 : Int) * x.fst + (↑(bitOf (bn
  ys) (a + x.snd).toNat) : Int) = y.fst ∧ x.snd + (1 : Int) = y.snd ∧ True) ∧ (((bif f then f = true else True) ∧ ys = ys) ∧ n = n ∧ True) ∧ True else False else False else False
  else False else x.fst = rdV ys n a w ∧ (0 : Int) = rdE ys n a w ∧ True else False
set_option maxRecDepth 100000 in
theorem rbread_P : rbread_T := by
  unfold rbread_T
  intro gl f ys n a w hb _ _ _
  have bad : ∀ z : Int, ¬ z = 0 → rdE ys n a w = z → 0 = rdV ys n a w ∧ z = rdE ys n a w ∧ True := by
    intro z hz he
    unfold rdV
    rw [he, if_neg hz]; exact ⟨rfl, rfl, trivial⟩
  have bf : cond f (f = true) True := by cases f <;> trivial
  refine ⟨hb, csplit (fun q => ?_) (fun q => ⟨trivial, csplit (fun q2 => ?_) (fun q2 => cs (fun q3 => ?_) (fun q3 => ?_))⟩)⟩
  · have q : validB (bn ys) n = false := by simpa using q
    exact bad 7 (by decide) (by unfold rdE; rw [q]; rfl)
  · have q : validB (bn ys) n = true := by simpa using q
    have q2 : widB w = false := by simpa using q2
    exact bad 1 (by decide) (by unfold rdE; rw [q, q2]; rfl)
  · have q : validB (bn ys) n = true := by simpa using q
    exact bad 1 (by decide) (by unfold rdE; rw [q, decide_eq_false (show ¬ 0 ≤ a by omega), Bool.and_false]; rfl)
  have q : validB (bn ys) n = true := by simpa using q
  have q2 : widB w = true := by simpa using q2
  have hw := of_decide_eq_true q2
  have hvb := validB_iff.1 q
  rw [bn_len] at hvb
  refine cdI (by omega) (cs (fun q4 => ?_) (fun q4 => ⟨⟨(0, 0), ⟨by simp, by simp only; omega, rfl⟩, ⟨rfl, rfl, rfl, rfl, rfl, trivial⟩, ⟨⟨bf, rfl⟩, rfl, trivial⟩, trivial⟩, ?_⟩))
  · exact bad 11 (by decide) (by unfold rdE; rw [q, q2, decide_eq_true (show 0 ≤ a by omega), if_pos rfl, Bool.and_self, if_pos rfl, if_neg (by omega)])
  rintro ⟨z, i⟩ ⟨i0, i1, hz⟩
  simp only at i0 i1 hz
  dsimp only
  have hlt := rdN_lt ys a i.toNat
  have hp24 : ∀ k : Nat, k ≤ 24 → 2 ^ k ≤ 16777216 := by decide
  refine cs (fun hi => ?_) (fun hi => ?_)
  · have h24 := hp24 i.toNat (by omega)
    have hbl := bitOf_lt (bn ys) (a + i).toNat
    refine cdI (by omega) (cdI (by omega) ⟨⟨hb, by omega, by omega⟩, cdI (by omega) (cdI (by omega) ⟨(_, i + 1), ⟨by simp only; omega, by simp only; omega, ?_⟩, by simp only [rrI]; omega, ⟨rfl, rfl, rfl, rfl, rfl, trivial⟩, ⟨⟨bf, rfl⟩, rfl, trivial⟩, trivial⟩)⟩)
    simp only
    rw [show (i + 1).toNat = i.toNat + 1 by omega, rdN_succ, show a.toNat + i.toNat = (a + i).toNat by omega, hz]
    omega
  · have e0 : rdE ys n a w = 0 := by unfold rdE; rw [q, q2, decide_eq_true (show 0 ≤ a by omega), if_pos rfl, Bool.and_self, if_pos rfl, if_pos (by omega)]
    unfold rdV
    rw [e0, if_pos rfl, hz, show i.toNat = w.toNat by omega]
    exact ⟨rfl, rfl, trivial⟩
def rbread_S : Prop := ∀ (gl : Glob) (f : Bool) (ys : List (List AV)) (n a w : Int), BytP ys → fnK Try.prog { glob := gl, spec := lk [(12, rbvalid_s), (34, rbwidth_s), (14, rbat_s)], specH := lk [], nowf := true } { nt := 40, drop := drp [(1, 3072), (3, 516096), (5, 32505856), (9, 201326592), (10, 1610612736), (11, 547608330240), (12, 549755813888)] } (invs [(9, rrI f ys n a w)]) 6 Try.f24 [.agg [.sl 1 f ys, .int .i64 n], .int .i64 a, .int .i64 w] (.tup [.int .i64 (rdV ys n a w), .int .i64 (rdE ys n a w)])
set_option maxRecDepth 100000 in
theorem rbread_e : rbread_T = rbread_S := by kernel_rfl
theorem rbread_v : rbread_S := @Eq.mp (rbread_T) (rbread_S) (rbread_e) rbread_P
theorem rbread_ok (gl : Glob) : SOK Try.prog gl 24 rbread_s := by
  refine ⟨fok Try.func24 (by kernel_rfl) (by kernel_rfl), ?_⟩
  intro xs pre r h hp
  unfold rbread_s at h
  split at h
  · simp only [Option.some.injEq, Prod.mk.injEq] at h
    obtain ⟨h1, h2⟩ := h
    subst h1 h2
    exact fnK_sound tyNil (by exact specOK rfl rfl ⟨(rbvalid_ok gl), (rbwidth_ok gl), (rbat_ok gl), trivial⟩ trivial) (by kernel_rfl) Try.func24 rfl (rbread_v gl _ _ _ _ _ hp)
  · cases h
def rbpad_s : Sp
  | [.agg [.sl 1 f ys, .int .i64 n]] => some (BytP ys, .tup [.agg [.sl 1 false (paR ys n), .int .i64 (paL ys n)], .int .i64 (paE ys n)])
  | _ => none
set_option maxRecDepth 100000 in
def rbpad_T : Prop :=
  ∀ (gl : Glob) (f : Bool) (ys : List (List AV)) (n : Int), BytP ys → True ∧ ((-9223372036854775808 : Int) ≤ n ∧ n ≤ (9223372036854775807 : Int)) ∧ True → BytP ys ∧ bif !validB (bn
  ys) n then (paR ys n = [] ∧ (0 : Int) = paL ys n ∧ True) ∧ (7 : Int) = paE ys n ∧ True else bif decide (rng IntKind.i64 ((8 : Int) * (↑ys.length : Int))) then bif decide ((40000 :
  Int) < (8 : Int) * (↑ys.length : Int)) then (paR ys n = [] ∧ (0 : Int) = paL ys n ∧ True) ∧ (2 : Int) = paE ys n ∧ True else bif decide ((0 : Nat) = (0 : Nat) ∧ (0 : Nat) +
  ys.length ≤ (9223372036854775807 : Nat) ∧ ((0 : Nat) + ys.length) * (1 : Nat) ≤ (140737488355328 : Nat)) then bif decide (rng IntKind.i64 ((8 : Int) * (↑ys.length : Int))) then bif
  decide (([] ++ ys).length = ([] ++ ys).length) then ((True ∧ [] ++ ys = paR ys n) ∧ (8 : Int) * (↑ys.length : Int) = paL ys n ∧ True) ∧ (0 : Int) = paE ys n ∧ True else False else
  False else False else False
set_option maxRecDepth 100000 in
theorem rbpad_P : rbpad_T := by
  unfold rbpad_T
  intro gl f ys n hb _
  refine ⟨hb, csplit (fun q => ?_) (fun q => ?_)⟩
  · have q : validB (bn ys) n = false := by simpa using q
    have e : paE ys n = 7 := by unfold paE; rw [q]; rfl
    unfold paR paL
    rw [e]; exact ⟨⟨rfl, rfl, trivial⟩, rfl, trivial⟩
  have q : validB (bn ys) n = true := by simpa using q
  have hv := validB_iff.1 q
  rw [bn_len] at hv
  have e : paE ys n = 0 := by unfold paE; rw [q]; rfl
  refine cdI (by omega) (cs (fun h => by omega) (fun _ => cd1 ⟨rfl, by omega, by omega⟩ (cdI (by omega) (cd1 rfl ?_))))
  unfold paR paL
  rw [e]; exact ⟨⟨⟨trivial, rfl⟩, rfl, trivial⟩, rfl, trivial⟩
def rbpad_S : Prop := ∀ (gl : Glob) (f : Bool) (ys : List (List AV)) (n : Int), BytP ys → fnK Try.prog { glob := gl, spec := lk [(12, rbvalid_s)], specH := lk [], nowf := true } { nt := 23, drop := drp [(1, 48), (2, 128), (3, 3840), (4, 8192), (5, 8372224)] } (fun _ _ => none) 6 Try.f26 [.agg [.sl 1 f ys, .int .i64 n]] (.tup [.agg [.sl 1 false (paR ys n), .int .i64 (paL ys n)], .int .i64 (paE ys n)])
set_option maxRecDepth 100000 in
theorem rbpad_e : rbpad_T = rbpad_S := by kernel_rfl
theorem rbpad_v : rbpad_S := @Eq.mp (rbpad_T) (rbpad_S) (rbpad_e) rbpad_P
theorem rbpad_ok (gl : Glob) : SOK Try.prog gl 26 rbpad_s := by
  refine ⟨fok Try.func26 (by kernel_rfl) (by kernel_rfl), ?_⟩
  intro xs pre r h hp
  unfold rbpad_s at h
  split at h
  · simp only [Option.some.injEq, Prod.mk.injEq] at h
    obtain ⟨h1, h2⟩ := h
    subst h1 h2
    exact fnK_sound tyNil (by exact specOK rfl rfl ⟨(rbvalid_ok gl), trivial⟩ trivial) (by kernel_rfl) Try.func26 rfl (rbpad_v gl _ _ _ hp)
  · cases h
def rbjoin_s : Sp
  | [.agg [.sl 1 f ys, .int .i64 n], .agg [.sl 1 g zs, .int .i64 m]] => some (BytP ys ∧ BytP zs, .tup [.agg [.sl 1 false (joR ys zs n m), .int .i64 (joL ys zs n m)], .int .i64 (joE ys zs n m)])
  | _ => none
set_option maxRecDepth 100000 in
def rbjoin_T : Prop :=
  ∀ (gl : Glob) (f g : Bool) (ys zs : List (List AV)) (n m : Int), BytP ys ∧ BytP zs → True ∧ ((-9223372036854775808 : Int) ≤ n ∧ n ≤ (9223372036854775807 : Int)) ∧ True → True ∧
  ((-9223372036854775808 : Int) ≤ m ∧ m ≤ (9223372036854775807 : Int)) ∧ True → BytP ys ∧ bif !validB (bn ys) n then (joR ys zs n m = [] ∧ (0 : Int) = joL ys zs n m ∧ True) ∧ (7 :
  Int) = joE ys zs n m ∧ True else BytP zs ∧ bif !validB (bn zs) m then (joR ys zs n m = [] ∧ (0 : Int) = joL ys zs n m ∧ True) ∧ (7 : Int) = joE ys zs n m ∧ True else bif decide
  (rng IntKind.i64 (n + m)) then bif decide ((40000 : Int) < n + m) then (joR ys zs n m = [] ∧ (0 : Int) = joL ys zs n m ∧ True) ∧ (2 : Int) = joE ys zs n m ∧ True else (BytP ys ∧
  validB (bn ys) n = true) ∧ (BytP zs ∧ validB (bn zs) m = true) ∧ bif decide ((ir (ub zs m)).length = (ir (ub zs m)).length) then bif decide ((ir (ub ys n)).length = (ir (ub ys
  n)).length ∧ (ir (ub ys n)).length + (ir (ub zs m)).length ≤ (9223372036854775807 : Nat) ∧ ((ir (ub ys n)).length + (ir (ub zs m)).length) * (8 : Nat) ≤ (140737488355328 : Nat))
  then (BitP (ir (ub ys n) ++ ir (ub zs m)) ∧ (ir (ub ys n) ++ ir (ub zs m)).length = (ir (ub ys n) ++ ir (ub zs m)).length) ∧ ((True ∧ br (pack (inn (ir (ub ys n) ++ ir (ub zs m))))
  = joR ys zs n m) ∧ (↑(ir (ub ys n) ++ ir (ub zs m)).length : Int) = joL ys zs n m ∧ True) ∧ (0 : Int) = joE ys zs n m ∧ True else False else False else False
set_option maxRecDepth 100000 in
theorem rbjoin_P : rbjoin_T := by
  unfold rbjoin_T
  intro gl f g ys zs n m ⟨hb, hc⟩ _ _
  have bad : ∀ z : Int, ¬ z = 0 → joE ys zs n m = z → (joR ys zs n m = [] ∧ 0 = joL ys zs n m ∧ True) ∧ z = joE ys zs n m ∧ True := by
    intro z hz he
    unfold joR joL
    rw [he, if_neg hz, if_neg hz]; exact ⟨⟨rfl, rfl, trivial⟩, rfl, trivial⟩
  refine ⟨hb, csplit (fun q => ?_) (fun q => ⟨hc, csplit (fun q2 => ?_) (fun q2 => ?_)⟩)⟩
  · have q : validB (bn ys) n = false := by simpa using q
    exact bad 7 (by decide) (by unfold joE; rw [q]; rfl)
  · have q2 : validB (bn zs) m = false := by simpa using q2
    exact bad 7 (by decide) (by unfold joE; rw [q2, Bool.and_false]; rfl)
  have q : validB (bn ys) n = true := by simpa using q
  have q2 : validB (bn zs) m = true := by simpa using q2
  have hv1 := validB_iff.1 q
  have hv2 := validB_iff.1 q2
  rw [bn_len] at hv1 hv2
  have l1 : (ub ys n).length = n.toNat := by unfold ub; exact len_unpack _ _
  have l2 : (ub zs m).length = m.toNat := by unfold ub; exact len_unpack _ _
  have b01 : B01 (ub ys n ++ ub zs m) := b01_append (b01_unpack _ _) (b01_unpack _ _)
  refine cdI (by omega) (cs (fun q3 => ?_) (fun q3 => ⟨⟨hb, q⟩, ⟨hc, q2⟩, cd1 rfl (cd1 ⟨rfl, by rw [ir_len, ir_len]; omega, by rw [ir_len, ir_len]; omega⟩ ?_)⟩))
  · exact bad 2 (by decide) (by unfold joE; rw [q, q2, Bool.and_self, if_pos rfl, if_neg (by omega)])
  rw [ir_app]
  obtain ⟨k1, k2⟩ := ir_ok b01 (by rw [List.length_append]; omega)
  have e0 : joE ys zs n m = 0 := by unfold joE; rw [q, q2, Bool.and_self, if_pos rfl, if_pos (by omega)]
  unfold joR joL
  rw [e0, if_pos rfl, if_pos rfl, k2]
  exact ⟨⟨k1, rfl⟩, ⟨⟨trivial, rfl⟩, by rw [ir_len, List.length_append]; omega, trivial⟩, rfl, trivial⟩
def rbjoin_S : Prop := ∀ (gl : Glob) (f g : Bool) (ys zs : List (List AV)) (n m : Int), BytP ys ∧ BytP zs → fnK Try.prog { glob := gl, spec := lk [(12, rbvalid_s)], specH := lk [(35, rball_s), (10, rbof_s)], nowf := true } { nt := 28, drop := drp [(1, 8128), (2, 16384), (3, 1015808), (4, 2097152), (5, 264241152)] } (fun _ _ => none) 6 Try.f25 [.agg [.sl 1 f ys, .int .i64 n], .agg [.sl 1 g zs, .int .i64 m]] (.tup [.agg [.sl 1 false (joR ys zs n m), .int .i64 (joL ys zs n m)], .int .i64 (joE ys zs n m)])
set_option maxRecDepth 100000 in
theorem rbjoin_e : rbjoin_T = rbjoin_S := by kernel_rfl
theorem rbjoin_v : rbjoin_S := @Eq.mp (rbjoin_T) (rbjoin_S) (rbjoin_e) rbjoin_P
theorem rbjoin_ok (gl : Glob) : SOK Try.prog gl 25 rbjoin_s := by
  refine ⟨fok Try.func25 (by kernel_rfl) (by kernel_rfl), ?_⟩
  intro xs pre r h hp
  unfold rbjoin_s at h
  split at h
  · simp only [Option.some.injEq, Prod.mk.injEq] at h
    obtain ⟨h1, h2⟩ := h
    subst h1 h2
    exact fnK_sound tyNil (by exact specOK rfl rfl ⟨(rbvalid_ok gl), trivial⟩ ⟨(rball_ok gl), (rbof_ok gl), trivial⟩) (by kernel_rfl) Try.func25 rfl (rbjoin_v gl _ _ _ _ _ _ hp)
  · cases h
end Go.Proofs.Ytkbfldgebcpigaa
