/- Bits: Read, Join, Pad. -/
import Derived.Test.YtkbfldgebcpigaaBtC
namespace Go.Proofs.Ytkbfldgebcpigaa
open Go
set_option linter.unusedVariables false
set_option linter.unusedSimpArgs false

def rdN (ys : List (List AV)) (a : Int) (k : Nat) : Nat := numOf ((List.range k).map fun i => bitOf (bn ys) (a.toNat + i))
def rdE (ys : List (List AV)) (n a w : Int) : Int := if validB (bn ys) n then (if widB w && decide (0 ≤ a) then (if a ≤ n - w then 0 else 11) else 1) else 7
def rdV (ys : List (List AV)) (n a w : Int) : Int := if rdE ys n a w = 0 then ((rdN ys a w.toNat : Nat) : Int) else 0
theorem rdN_succ (ys : List (List AV)) (a : Int) (k : Nat) : rdN ys a (k + 1) = 2 * rdN ys a k + bitOf (bn ys) (a.toNat + k) := by
  unfold rdN
  rw [List.range_succ, List.map_append]
  exact numOf_snoc _ _
theorem bitOf_lt (bs : List Nat) (i : Nat) : bitOf bs i < 2 := by unfold bitOf; omega
theorem rdN_lt (ys : List (List AV)) (a : Int) : ∀ k, rdN ys a k < 2 ^ k
  | 0 => by simp [rdN, numOf]
  | k + 1 => by
    have h1 := rdN_lt ys a k
    have h2 := bitOf_lt (bn ys) (a.toNat + k)
    rw [rdN_succ, Nat.pow_succ]; omega
structure RdP (ys : List (List AV)) (a w : Int) (x : Int × Int) : Prop where
  flo : a ≤ x.2
  fhi : x.2 ≤ a + w
  fv : x.1 = ((rdN ys a (x.2 - a).toNat : Nat) : Int)
def rdI (f : Bool) (ys : List (List AV)) (n a w : Int) : LInv := ⟨Int × Int, fun x => ⟨[(1, .int .i64 a), (2, .int .i64 w), (3, .ptr 3 0), (8, .int .i64 x.1), (9, .int .i64 x.2)], [(3, .cells [.sl 1 f ys, .int .i64 n])]⟩, RdP ys a w, fun x => (a + w - x.2).toNat, none⟩
def bread_s : Sp
  | [.agg [.sl 1 f ys, .int .i64 n], .int .i64 a, .int .i64 w] => some (BytP ys, .tup [.int .i64 (rdV ys n a w), .int .i64 (rdE ys n a w)])
  | _ => none
set_option maxRecDepth 100000 in
def bread_T : Prop :=
  ∀ (gl : Glob) (f : Bool) (ys : List (List AV)) (n a w : Int), BytP ys → True ∧ ((-9223372036854775808 : Int) ≤ n ∧ n ≤ (9223372036854775807 : Int)) ∧ True → (-9223372036854775808 :
  Int) ≤ a ∧ a ≤ (9223372036854775807 : Int) → (-9223372036854775808 : Int) ≤ w ∧ w ≤ (9223372036854775807 : Int) → BytP ys ∧ bif !validB (bn ys) n then (0 : Int) = rdV ys n a w ∧ (7
  : Int) = rdE ys n a w ∧ True else True ∧ bif !widB w then (0 : Int) = rdV ys n a w ∧ (1 : Int) = rdE ys n a w ∧ True else bif decide (a < (0 : Int)) then (0 : Int) = rdV ys n a w ∧
  (1 : Int) = rdE ys n a w ∧ True else bif decide (rng IntKind.i64 (n - w)) then bif decide (n - w < a) then (0 : Int) = rdV ys n a w ∧ (11 : Int) = rdE ys n a w ∧ True else (∃ x,
  RdP ys a w x ∧ (a = a ∧ w = w ∧ (0 : Nat) = (0 : Nat) ∧ (0 : Int) = x.fst ∧ a = x.snd ∧ True) ∧ (((bif f then f = true else True) ∧ ys = ys) ∧ n = n ∧ True) ∧ True) ∧ ∀ (x : Int ×
  Int), RdP ys a w x → bif decide (rng IntKind.i64 (a + w)) then bif decide (x.snd < a + w) then bif decide (rng IntKind.i64 ((2 : Int) * x.fst)) then (BytP ys ∧ (0 : Int) ≤ x.snd ∧
  x.snd < (8 : Int) * (↑ys.length : Int)) ∧ bif decide (rng IntKind.i64 ((2 : Int) * x.fst + (↑(bitOf (bn ys) x.snd.toNat) : Int))) then bif decide (rng IntKind.i64 (x.snd + (1 :
  Int))) then ∃ y, RdP ys a w y ∧ (rdI f ys n a w).m y < (rdI f ys n a w).m x ∧ (a = a ∧ w = w ∧ (0 : Nat) = (0 : Nat) ∧ (2 : Int) * x.fst + (↑(bitOf (bn ys) x.snd.toNat) : Int) =
  y.fst ∧ x.snd + (1 : Int) = y.snd ∧ True) ∧ (((bif f then f = true else True) ∧ ys = ys) ∧ n = n ∧ True) ∧ True else False else False else False else x.fst = rdV ys n a w ∧ (0 :
  Int) = rdE ys n a w ∧ True else False else False
set_option maxRecDepth 100000 in
theorem bread_P : bread_T := by
  unfold bread_T
  intro gl f ys n a w hb _ _ _
  have bad : ∀ z : Int, ¬ z = 0 → rdE ys n a w = z → 0 = rdV ys n a w ∧ z = rdE ys n a w ∧ True := by
    intro z hz he
    unfold rdV
    rw [he, if_neg hz]; exact ⟨rfl, rfl, trivial⟩
  have bf : cond f (f = true) True := by cases f <;> trivial
  refine ⟨hb, csplit (fun q => ?_) (fun q => ⟨trivial, csplit (fun q2 => ?_) (fun q2 => cs (fun q3 => ?_) (fun q3 => ?_))⟩)⟩
  · have q : validB (bn ys) n = false := by simpa using q
    exact bad 7 (by decide) (by unfold rdE; rw [q]; rfl)
  · have q : validB (bn ys) n = true := by simpa using q
    have q2 : widB w = false := by simpa using q2
    exact bad 1 (by decide) (by unfold rdE; rw [q, q2]; rfl)
  · have q : validB (bn ys) n = true := by simpa using q
    exact bad 1 (by decide) (by unfold rdE; rw [q, decide_eq_false (show ¬ 0 ≤ a by omega), Bool.and_false]; rfl)
  have q : validB (bn ys) n = true := by simpa using q
  have q2 : widB w = true := by simpa using q2
  have hw := of_decide_eq_true q2
  have hvb := validB_iff.1 q
  rw [bn_len] at hvb
  refine cdI (by omega) (cs (fun q4 => ?_) (fun q4 => ⟨⟨(0, a), ⟨by simp only; omega, by simp only; omega, ?_⟩, ⟨rfl, rfl, rfl, rfl, rfl, trivial⟩, ⟨⟨bf, rfl⟩, rfl, trivial⟩, trivial⟩, ?_⟩))
  · exact bad 11 (by decide) (by unfold rdE; rw [q, q2, decide_eq_true (show 0 ≤ a by omega), if_pos rfl, Bool.and_self, if_pos rfl, if_neg (by omega)])
  · simp only; rw [Int.sub_self]; rfl
  rintro ⟨z, i⟩ ⟨i0, i1, hz⟩
  simp only at i0 i1 hz
  dsimp only
  have hlt := rdN_lt ys a (i - a).toNat
  have hp24 : ∀ k : Nat, k ≤ 24 → 2 ^ k ≤ 16777216 := by decide
  refine cdI (by omega) (cs (fun hi => ?_) (fun hi => ?_))
  · have h24 := hp24 (i - a).toNat (by omega)
    have hbl := bitOf_lt (bn ys) i.toNat
    refine cdI (by omega) ⟨⟨hb, by omega, by omega⟩, cdI (by omega) (cdI (by omega) ⟨(_, i + 1), ⟨by simp only; omega, by simp only; omega, ?_⟩, by simp only [rdI]; omega, ⟨rfl, rfl, rfl, rfl, rfl, trivial⟩, ⟨⟨bf, rfl⟩, rfl, trivial⟩, trivial⟩)⟩
    simp only
    rw [show (i + 1 - a).toNat = (i - a).toNat + 1 by omega, rdN_succ, show a.toNat + (i - a).toNat = i.toNat by omega, hz]
    omega
  · have e0 : rdE ys n a w = 0 := by unfold rdE; rw [q, q2, decide_eq_true (show 0 ≤ a by omega), if_pos rfl, Bool.and_self, if_pos rfl, if_pos (by omega)]
    unfold rdV
    rw [e0, if_pos rfl, hz, show (i - a).toNat = w.toNat by omega]
    exact ⟨rfl, rfl, trivial⟩
def bread_S : Prop := ∀ (gl : Glob) (f : Bool) (ys : List (List AV)) (n a w : Int), BytP ys → fnK Try.prog { glob := gl, spec := lk [(27, bvalid_s), (33, bwidth_s), (32, bbit_s)], specH := lk [], nowf := true } { nt := 44, drop := drp [(1, 14336), (3, 4161536), (5, 528482304), (8, 536870912), (9, 16106127360), (10, 103079215104), (11, 8658654068736), (12, 8796093022208)] } (invs [(9, rdI f ys n a w)]) 6 Try.f21 [.agg [.sl 1 f ys, .int .i64 n], .int .i64 a, .int .i64 w] (.tup [.int .i64 (rdV ys n a w), .int .i64 (rdE ys n a w)])
set_option maxRecDepth 100000 in
theorem bread_e : bread_T = bread_S := by kernel_rfl
theorem bread_v : bread_S := @Eq.mp (bread_T) (bread_S) (bread_e) bread_P
theorem bread_ok (gl : Glob) : SOK Try.prog gl 21 bread_s := by
  refine ⟨fok Try.func21 (by kernel_rfl) (by kernel_rfl), ?_⟩
  intro xs pre r h hp
  unfold bread_s at h
  split at h
  · simp only [Option.some.injEq, Prod.mk.injEq] at h
    obtain ⟨h1, h2⟩ := h
    subst h1 h2
    exact fnK_sound tyNil (by exact specOK rfl rfl ⟨(bvalid_ok gl), (bwidth_ok gl), (bbit_ok gl), trivial⟩ trivial) (by kernel_rfl) Try.func21 rfl (bread_v gl _ _ _ _ _ hp)
  · cases h
def joE (ys zs : List (List AV)) (n m : Int) : Int := if validB (bn ys) n && validB (bn zs) m then (if n + m ≤ 40000 then 0 else 2) else 7
def joR (ys zs : List (List AV)) (n m : Int) : List (List AV) := if joE ys zs n m = 0 then br (pack (ub ys n ++ ub zs m)) else []
def joL (ys zs : List (List AV)) (n m : Int) : Int := if joE ys zs n m = 0 then n + m else 0
theorem pk_ok {l : List Nat} (h : B01 l) (hl : l.length ≤ 40000) : BytP (br (pack l)) ∧ validB (bn (br (pack l))) l.length = true ∧ ub (br (pack l)) l.length = l := by
  refine ⟨br_bytes (bytes_pack h) (by rw [length_pack]; omega), by rw [bn_br]; exact valid_pack hl, ?_⟩
  unfold ub
  rw [bn_br, Int.toNat_natCast, unpack_pack h]
theorem nb_one {b : Nat} (h : b < 2) : nb b 1 1 = [b] := by
  have : nb b 1 1 = [b / 2 ^ 0 % 2] := by simp [nb]
  rw [this, Nat.pow_zero, Nat.div_one, Nat.mod_eq_of_lt h]
theorem unpack_succ (bs : List Nat) (k : Nat) : unpack bs (k + 1) = unpack bs k ++ [bitOf bs k] := by simp [unpack, List.range_succ]
theorem len_unpack (bs : List Nat) (k : Nat) : (unpack bs k).length = k := by simp [unpack]
structure JoP (ys zs : List (List AV)) (n m : Int) (x : Int × List (List AV)) : Prop where
  flo : 0 ≤ x.1
  fhi : x.1 ≤ m
  fz : x.2 = br (pack (ub ys n ++ unpack (bn zs) x.1.toNat))
def joI (g : Bool) (ys zs : List (List AV)) (n m : Int) : LInv := ⟨Int × List (List AV), fun x => ⟨[(3, .ptr 3 0), (4, .ptr 4 0), (6, .ptr 27 0), (29, .int .i64 m), (30, .int .i64 x.1)], [(3, .cells [.sl 1 g zs, .int .i64 m]), (4, .cells [.nils, .int .i64 0]), (27, .cells [.rw 1027 1 x.2.length, .int .i64 (n + x.1)]), (1027, .row 5 1 x.2)]⟩, JoP ys zs n m, fun x => (m - x.1).toNat, none⟩
def bjoin_s : Sp
  | [.agg [.sl 1 f ys, .int .i64 n], .agg [.sl 1 g zs, .int .i64 m]] => some (BytP ys ∧ BytP zs, .tup [.agg [.sl 1 false (joR ys zs n m), .int .i64 (joL ys zs n m)], .int .i64 (joE ys zs n m)])
  | _ => none
set_option maxRecDepth 100000 in
def bjoin_T : Prop :=
  ∀ (gl : Glob) (f g : Bool) (ys zs : List (List AV)) (n m : Int), BytP ys ∧ BytP zs → True ∧ ((-9223372036854775808 : Int) ≤ n ∧ n ≤ (9223372036854775807 : Int)) ∧ True → True ∧
  ((-9223372036854775808 : Int) ≤ m ∧ m ≤ (9223372036854775807 : Int)) ∧ True → BytP ys ∧ bif !validB (bn ys) n then (joR ys zs n m = [] ∧ (0 : Int) = joL ys zs n m ∧ True) ∧ (7 :
  Int) = joE ys zs n m ∧ True else BytP zs ∧ bif !validB (bn zs) m then (joR ys zs n m = [] ∧ (0 : Int) = joL ys zs n m ∧ True) ∧ (7 : Int) = joE ys zs n m ∧ True else bif decide
  (rng IntKind.i64 (n + m)) then bif decide ((40000 : Int) < n + m) then (joR ys zs n m = [] ∧ (0 : Int) = joL ys zs n m ∧ True) ∧ (2 : Int) = joE ys zs n m ∧ True else (BytP ys ∧
  ys.length ≤ (1000000 : Nat)) ∧ (∃ x, JoP ys zs n m x ∧ ((0 : Nat) = (0 : Nat) ∧ (0 : Nat) = (0 : Nat) ∧ (0 : Nat) = (0 : Nat) ∧ m = m ∧ (0 : Int) = x.fst ∧ True) ∧ (((bif g then g
  = true else True) ∧ zs = zs) ∧ m = m ∧ True) ∧ (True ∧ (0 : Int) = (0 : Int) ∧ True) ∧ (ys.length = x.snd.length ∧ n = n + x.fst ∧ True) ∧ ys = x.snd ∧ True) ∧ ∀ (x : Int × List
  (List AV)), JoP ys zs n m x → bif decide (x.fst < m) then (BytP zs ∧ (0 : Int) ≤ x.fst ∧ x.fst < (8 : Int) * (↑zs.length : Int)) ∧ ((BytP x.snd ∧ validB (bn x.snd) (n + x.fst) =
  true ∧ x.snd.length = x.snd.length) ∧ ((1 : Int) ≤ (1 : Int) ∧ (1 : Int) ≤ (24 : Int)) ∧ ((0 : Int) ≤ (↑(bitOf (bn zs) x.fst.toNat) : Int) ∧ (↑(bitOf (bn zs) x.fst.toNat) : Int) <
  (16777216 : Int)) ∧ n + x.fst + (1 : Int) ≤ (40000 : Int)) ∧ bif decide (rng IntKind.i64 (x.fst + (1 : Int))) then ∃ y, JoP ys zs n m y ∧ (joI g ys zs n m).m y < (joI g ys zs n
  m).m x ∧ ((0 : Nat) = (0 : Nat) ∧ (0 : Nat) = (0 : Nat) ∧ (0 : Nat) = (0 : Nat) ∧ m = m ∧ x.fst + (1 : Int) = y.fst ∧ True) ∧ (((bif g then g = true else True) ∧ zs = zs) ∧ m = m ∧
  True) ∧ (True ∧ (0 : Int) = (0 : Int) ∧ True) ∧ ((br (pack (ub x.snd (n + x.fst) ++ nb (↑(bitOf (bn zs) x.fst.toNat) : Int).toNat (1 : Nat) (1 : Nat)))).length = y.snd.length ∧ n +
  x.fst + (1 : Int) = n + y.fst ∧ True) ∧ br (pack (ub x.snd (n + x.fst) ++ nb (↑(bitOf (bn zs) x.fst.toNat) : Int).toNat (1 : Nat) (1 : Nat))) = y.snd ∧ True else False else bif
  decide (x.snd.length = x.snd.length) then ((True ∧ x.snd = joR ys zs n m) ∧ n + x.fst = joL ys zs n m ∧ True) ∧ (0 : Int) = joE ys zs n m ∧ True else False else False
set_option maxRecDepth 100000 in
theorem bjoin_P : bjoin_T := by
  unfold bjoin_T
  intro gl f g ys zs n m ⟨hb, hc⟩ _ _
  have bg : cond g (g = true) True := by cases g <;> trivial
  have bad : ∀ z : Int, ¬ z = 0 → joE ys zs n m = z → (joR ys zs n m = [] ∧ 0 = joL ys zs n m ∧ True) ∧ z = joE ys zs n m ∧ True := by
    intro z hz he
    unfold joR joL
    rw [he, if_neg hz, if_neg hz]; exact ⟨⟨rfl, rfl, trivial⟩, rfl, trivial⟩
  refine ⟨hb, csplit (fun q => ?_) (fun q => ⟨hc, csplit (fun q2 => ?_) (fun q2 => ?_)⟩)⟩
  · have q : validB (bn ys) n = false := by simpa using q
    exact bad 7 (by decide) (by unfold joE; rw [q]; rfl)
  · have q2 : validB (bn zs) m = false := by simpa using q2
    exact bad 7 (by decide) (by unfold joE; rw [q2, Bool.and_false]; rfl)
  have q : validB (bn ys) n = true := by simpa using q
  have q2 : validB (bn zs) m = true := by simpa using q2
  have hv1 := validB_iff.1 q
  have hv2 := validB_iff.1 q2
  rw [bn_len] at hv1 hv2
  refine cdI (by omega) (cs (fun q3 => ?_) (fun q3 => ⟨⟨hb, by omega⟩, ⟨(0, ys), ⟨by simp, by simp only; omega, ?_⟩, ⟨rfl, rfl, rfl, rfl, rfl, trivial⟩, ⟨⟨bg, rfl⟩, rfl, trivial⟩, ⟨trivial, rfl, trivial⟩, ⟨rfl, by simp only; omega, trivial⟩, rfl, trivial⟩, ?_⟩))
  · exact bad 2 (by decide) (by unfold joE; rw [q, q2, Bool.and_self, if_pos rfl, if_neg (by omega)])
  · simp only
    rw [show unpack (bn zs) (0 : Int).toNat = [] from rfl, List.append_nil]
    unfold ub
    rw [pack_unpack (bn_bytes hb) q, br_bn hb]
  rintro ⟨i, xs⟩ ⟨i0, i1, hx⟩
  simp only at i0 i1 hx
  dsimp only
  obtain ⟨l, hl⟩ : ∃ l, l = ub ys n ++ unpack (bn zs) i.toNat := ⟨_, rfl⟩
  have hN : n + i = (l.length : Int) := by rw [hl, List.length_append, len_unpack]; unfold ub; rw [len_unpack]; omega
  have b01 : B01 l := by rw [hl]; exact b01_append (b01_unpack _ _) (b01_unpack _ _)
  obtain ⟨k1, k2, k3⟩ := pk_ok b01 (by omega)
  rw [← hl] at hx
  rw [hx, hN]
  have hbl := bitOf_lt (bn zs) i.toNat
  have nx : br (pack (ub (br (pack l)) l.length ++ nb ((bitOf (bn zs) i.toNat : Nat) : Int).toNat 1 1)) = br (pack (ub ys n ++ unpack (bn zs) (i + 1).toNat)) := by
    rw [k3, Int.toNat_natCast, nb_one hbl, show (i + 1).toNat = i.toNat + 1 by omega, unpack_succ, ← List.append_assoc, ← hl]
  refine cs (fun hi => ⟨⟨hc, i0, by omega⟩, ⟨⟨k1, k2, rfl⟩, by decide, by omega, by omega⟩, cdI (by omega) ⟨(i + 1, _), ⟨by simp only; omega, by simp only; omega, nx⟩, by simp only [joI]; omega, ⟨rfl, rfl, rfl, rfl, rfl, trivial⟩, ⟨⟨bg, rfl⟩, rfl, trivial⟩, ⟨trivial, rfl, trivial⟩, ⟨rfl, by simp only; omega, trivial⟩, rfl, trivial⟩⟩) (fun hi => cd1 rfl ?_)
  have e0 : joE ys zs n m = 0 := by unfold joE; rw [q, q2, Bool.and_self, if_pos rfl, if_pos (by omega)]
  unfold joR joL
  rw [e0, if_pos rfl, if_pos rfl, ← hN]
  refine ⟨⟨⟨trivial, ?_⟩, by omega, trivial⟩, rfl, trivial⟩
  rw [hl, show i = m by omega]; rfl
def bjoin_S : Prop := ∀ (gl : Glob) (f g : Bool) (ys zs : List (List AV)) (n m : Int), BytP ys ∧ BytP zs → fnK Try.prog { glob := gl, spec := lk [(27, bvalid_s), (32, bbit_s)], specH := lk [(30, bcopied_s), (31, bwrite_s)], nowf := true } { nt := 43, drop := drp [(1, 130560), (2, 131072), (3, 33030144), (4, 33554432), (5, 201326592), (6, 268435456), (8, 4294967296), (9, 128849018880), (10, 274877906944), (11, 8246337208320)], frz := fun id => cond (Nat.beq id 11) [1001027] [] } (invs [(7, joI g ys zs n m)]) 6 Try.f16 [.agg [.sl 1 f ys, .int .i64 n], .agg [.sl 1 g zs, .int .i64 m]] (.tup [.agg [.sl 1 false (joR ys zs n m), .int .i64 (joL ys zs n m)], .int .i64 (joE ys zs n m)])
set_option maxRecDepth 100000 in
theorem bjoin_e : bjoin_T = bjoin_S := by kernel_rfl
theorem bjoin_v : bjoin_S := @Eq.mp (bjoin_T) (bjoin_S) (bjoin_e) bjoin_P
theorem bjoin_ok (gl : Glob) : SOK Try.prog gl 16 bjoin_s := by
  refine ⟨fok Try.func16 (by kernel_rfl) (by kernel_rfl), ?_⟩
  intro xs pre r h hp
  unfold bjoin_s at h
  split at h
  · simp only [Option.some.injEq, Prod.mk.injEq] at h
    obtain ⟨h1, h2⟩ := h
    subst h1 h2
    exact fnK_sound tyNil (by exact specOK rfl rfl ⟨(bvalid_ok gl), (bbit_ok gl), trivial⟩ ⟨(bcopied_ok gl), (bwrite_ok gl), trivial⟩) (by kernel_rfl) Try.func16 rfl (bjoin_v gl _ _ _ _ _ _ hp)
  · cases h
def paE (ys : List (List AV)) (n : Int) : Int := if validB (bn ys) n then 0 else 7
def paR (ys : List (List AV)) (n : Int) : List (List AV) := if paE ys n = 0 then ys else []
def paL (ys : List (List AV)) (n : Int) : Int := if paE ys n = 0 then 8 * ys.length else 0
def bpad_s : Sp
  | [.agg [.sl 1 f ys, .int .i64 n]] => some (BytP ys, .tup [.agg [.sl 1 false (paR ys n), .int .i64 (paL ys n)], .int .i64 (paE ys n)])
  | _ => none
set_option maxRecDepth 100000 in
def bpad_T : Prop :=
  ∀ (gl : Glob) (f : Bool) (ys : List (List AV)) (n : Int), BytP ys → True ∧ ((-9223372036854775808 : Int) ≤ n ∧ n ≤ (9223372036854775807 : Int)) ∧ True → True ∧ BytP ys ∧ bif
  !validB (bn ys) n then (paR ys n = [] ∧ (0 : Int) = paL ys n ∧ True) ∧ (7 : Int) = paE ys n ∧ True else bif decide ((40000 : Int) < IntKind.i64.wrap (szV n * (8 : Int))) then (paR
  ys n = [] ∧ (0 : Int) = paL ys n ∧ True) ∧ (2 : Int) = paE ys n ∧ True else (BytP ys ∧ ys.length ≤ (1000000 : Nat)) ∧ bif decide (ys.length = ys.length) then ((True ∧ ys = paR ys
  n) ∧ IntKind.i64.wrap (szV n * (8 : Int)) = paL ys n ∧ True) ∧ (0 : Int) = paE ys n ∧ True else False
set_option maxRecDepth 100000 in
theorem bpad_P : bpad_T := by
  unfold bpad_T
  intro gl f ys n hb _
  refine ⟨trivial, hb, csplit (fun q => ?_) (fun q => ?_)⟩
  · have q : validB (bn ys) n = false := by simpa using q
    have e : paE ys n = 7 := by unfold paE; rw [q]; rfl
    unfold paR paL
    rw [e]; exact ⟨⟨rfl, rfl, trivial⟩, rfl, trivial⟩
  have q : validB (bn ys) n = true := by simpa using q
  have hv := validB_iff.1 q
  rw [bn_len] at hv
  have e : paE ys n = 0 := by unfold paE; rw [q]; rfl
  have hw : IntKind.i64.wrap (szV n * 8) = 8 * ys.length := by
    rw [szV_eq (by omega) (by omega), wrap_eq (by show _ ∧ _; omega)]; omega
  rw [hw]
  refine cs (fun h => by omega) (fun _ => ⟨⟨hb, by omega⟩, cd1 rfl ?_⟩)
  unfold paR paL
  rw [e]; exact ⟨⟨⟨trivial, rfl⟩, rfl, trivial⟩, rfl, trivial⟩
def bpad_S : Prop := ∀ (gl : Glob) (f : Bool) (ys : List (List AV)) (n : Int), BytP ys → fnK Try.prog { glob := gl, spec := lk [(27, bvalid_s), (29, bsize_s)], specH := lk [(30, bcopied_s)], nowf := true, wrap := true } { nt := 30, drop := drp [(1, 960), (2, 14336), (3, 16384), (4, 196608), (5, 262144), (6, 1572864), (7, 65011712), (8, 1006632960)], frz := fun id => cond (Nat.beq id 8) [1001020] [] } (fun _ _ => none) 6 Try.f11 [.agg [.sl 1 f ys, .int .i64 n]] (.tup [.agg [.sl 1 false (paR ys n), .int .i64 (paL ys n)], .int .i64 (paE ys n)])
set_option maxRecDepth 100000 in
theorem bpad_e : bpad_T = bpad_S := by kernel_rfl
theorem bpad_v : bpad_S := @Eq.mp (bpad_T) (bpad_S) (bpad_e) bpad_P
theorem bpad_ok (gl : Glob) : SOK Try.prog gl 11 bpad_s := by
  refine ⟨fok Try.func11 (by kernel_rfl) (by kernel_rfl), ?_⟩
  intro xs pre r h hp
  unfold bpad_s at h
  split at h
  · simp only [Option.some.injEq, Prod.mk.injEq] at h
    obtain ⟨h1, h2⟩ := h
    subst h1 h2
    exact fnK_sound tyNil (by exact specOK rfl rfl ⟨(bvalid_ok gl), (bsize_ok gl), trivial⟩ ⟨(bcopied_ok gl), trivial⟩) (by kernel_rfl) Try.func11 rfl (bpad_v gl _ _ _ hp)
  · cases h
end Go.Proofs.Ytkbfldgebcpigaa
