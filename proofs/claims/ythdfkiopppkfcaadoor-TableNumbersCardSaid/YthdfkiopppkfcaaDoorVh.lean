/- Operations that only compute, V: all of them in one. -/
import Derived.Test.YthdfkiopppkfcaaDoorVg
namespace Go.Proofs.YthdfkiopppkfcaaDoor
open Go
set_option linter.unusedVariables false
set_option linter.unusedSimpArgs false

def aun (E : Env) (op : UnOp) (x : AV) (K : AV → Prop) : Prop :=
  match op, x with
  | .not, .bool b => K (.bool (!b))
  | .neg, .int k n => ar E k (0 - n) K
  | .xor, .int k n => K (.int k (bits .xor k (if k.signed then -1 else k.max) n))
  | _, _ => False
theorem aun_sound {P : Program} {E : Env} {op : UnOp} {x : AV} {K : AV → Prop} (h : aun E op x K) :
    ∃ r, K r ∧ ∀ (S : Pin) (m : Nm) (w : World) (v : Value), CV S x m v → ∃ z, (Op.unary op v).run P w = .ok z w ∧ CV S r m z := by
  unfold aun at h
  split at h
  · refine ⟨_, h, fun S m w v hv => ?_⟩
    simp only [CV] at hv
    subst hv
    exact ⟨_, by simp [Op.unary]; rfl, by simp only [CV]⟩
  · obtain ⟨z, h1, h2, h3⟩ := ar_sound h
    refine ⟨_, h1, fun S m w v hv => ?_⟩
    simp only [CV] at hv
    obtain ⟨rfl, _⟩ := hv
    exact ⟨_, by simp [Op.unary, Op.intArith]; rfl, by simp only [CV]; exact ⟨by rw [h2]; simp, h3⟩⟩
  · rename_i k n
    refine ⟨_, h, fun S m w v hv => ?_⟩
    simp only [CV] at hv
    obtain ⟨rfl, _⟩ := hv
    exact ⟨.int k (bits .xor k (if k.signed then -1 else k.max) n), by simp [Op.unary, Op.intBits, bits], by simp only [CV]; exact ⟨trivial, bits_rng _ _ _ _⟩⟩
  · exact h.elim

/-- Kinds all of whose numbers are of the other kind. -/
def wider : IntKind → IntKind → Bool
  | .i8, .i8 => true | .i8, .i16 => true | .i8, .i32 => true | .i8, .i64 => true
  | .i16, .i16 => true | .i16, .i32 => true | .i16, .i64 => true
  | .i32, .i32 => true | .i32, .i64 => true
  | .i64, .i64 => true
  | .u8, .i8 => false | .u8, _ => true
  | .u16, .u16 => true | .u16, .u32 => true | .u16, .u64 => true | .u16, .i32 => true | .u16, .i64 => true
  | .u32, .u32 => true | .u32, .u64 => true | .u32, .i64 => true
  | .u64, .u64 => true
  | _, _ => false
theorem wider_rng {k k' : IntKind} {n : Int} (h : wider k k' = true) (hr : rng k n) : rng k' n := by
  cases k <;> cases k' <;> simp only [wider, Bool.false_eq_true] at h <;> simp only [rng] at hr ⊢ <;> omega
def acv (P : Program) (s d : TypeId) (x : AV) (K : AV → Prop) : Prop :=
  match P.underlying s, P.underlying d, x with
  | some _, some (.int k), .int k0 n => cond (wider k0 k) (K (.int k n)) (K (.int k (k.wrap n)))
  | some _, some .string, .str b => K (.str b)
  | some _, some .string, .int _ n => K (.str (Utf8.encode n))
  | _, _, _ => False
theorem encode_le4 (i : Int) : (Utf8.encode i).size ≤ 4 := by
  unfold Utf8.encode
  dsimp only
  repeat' split
  all_goals simp [ByteArray.size]
theorem acv_sound {P : Program} {s d : TypeId} {x : AV} {K : AV → Prop} (h : acv P s d x K) :
    ∃ r, K r ∧ ∀ (S : Pin) (m : Nm) (w : World) (v : Value), CV S x m v → ∃ z, (convert s d v).run P w = .ok z w ∧ CV S r m z := by
  unfold acv at h
  split at h
  · rename_i ds k k0 n h1 h2
    cases hw : wider k0 k with
    | true =>
      rw [hw] at h
      refine ⟨_, h, fun S m w v hv => ?_⟩
      simp only [CV] at hv
      obtain ⟨rfl, hr⟩ := hv
      have := wider_rng hw hr
      exact ⟨.int k n, by simp [convert, run_underlying h1, run_underlying h2, Conv.intToInt, wrap_eq this], by simp only [CV]; exact ⟨trivial, this⟩⟩
    | false =>
      rw [hw] at h
      refine ⟨_, h, fun S m w v hv => ?_⟩
      simp only [CV] at hv
      obtain ⟨rfl, hr⟩ := hv
      exact ⟨.int k (k.wrap n), by simp [convert, run_underlying h1, run_underlying h2, Conv.intToInt], by simp only [CV]; exact ⟨trivial, wrap_rng _ _⟩⟩
  · rename_i ds b h1 h2
    refine ⟨_, h, fun S m w v hv => ?_⟩
    have hv' := hv
    simp only [CV] at hv
    obtain ⟨rfl, hr⟩ := hv
    exact ⟨.string b, by simp [convert, run_underlying h1, run_underlying h2], hv'⟩
  · rename_i ds k0 n h1 h2
    refine ⟨_, h, fun S m w v hv => ?_⟩
    simp only [CV] at hv
    obtain ⟨rfl, hr⟩ := hv
    exact ⟨.string (Utf8.encode n), by simp [convert, run_underlying h1, run_underlying h2, Conv.intToString], by simp only [CV]; exact ⟨trivial, by have := encode_le4 n; unfold maxLen; omega⟩⟩
  · exact h.elim

def afl (P : Program) (t : TypeId) (x : AV) (f : Nat) (K : AV → Prop) : Prop :=
  match P.underlying t, x with
  | some (.struct fs), .agg cs => (match fs[f]? with | some fd => partK P fd.type (cs.drop fd.offset) K | none => False)
  | _, _ => False
theorem afl_sound {P : Program} {t : TypeId} {x : AV} {f : Nat} {K : AV → Prop} (h : afl P t x f K) :
    ∃ r, K r ∧ ∀ (S : Pin) (m : Nm) (w : World) (v : Value), CV S x m v → ∃ z, (Instr.field t v f).run P w = .ok z w ∧ CV S r m z := by
  unfold afl at h
  split at h
  · rename_i fs cs hd
    split at h
    · rename_i fd hf
      obtain ⟨r, h1, h2⟩ := partK_sound h
      refine ⟨r, h1, fun S m w v hv => ?_⟩
      simp only [CV] at hv
      obtain ⟨us, rfl, hu⟩ := hv
      obtain ⟨z, h3, h4⟩ := h2 us w S m hu
      exact ⟨z, by simp [Instr.field, run_underlying hd, hf, asAgg, h3], h4⟩
    · exact h.elim
  · exact h.elim
def afa (P : Program) (t : TypeId) (x : AV) (f : Nat) (K : AV → Prop) : Prop :=
  match P.underlying t with
  | some (.struct fs) => (match fs[f]? with
    | some fd => (match P.info? fd.type with
      | some i => cond (Nat.beq i.size 0) False (match x with
        | .ptr k off => K (.ptr k (off + fd.offset))
        | .ro cs => K (.ro (cs.drop fd.offset))
        | .prw k s q j fo => K (.prw k s q j (fo + fd.offset))
        | _ => False)
      | none => False)
    | none => False)
  | _ => False
theorem afa_sound {P : Program} {t : TypeId} {x : AV} {f : Nat} {K : AV → Prop} (h : afa P t x f K) :
    ∃ r, K r ∧ ∀ (S : Pin) (m : Nm) (w : World) (v : Value), CV S x m v → ∃ z, (Instr.fieldAt t v f).run P w = .ok z w ∧ CV S r m z := by
  unfold afa at h
  split at h
  · rename_i fs hd
    split at h
    · rename_i fd hf
      split at h
      · rename_i i hi
        cases hz : Nat.beq i.size 0 with
        | true => rw [hz] at h; exact h.elim
        | false =>
          rw [hz] at h
          have hz' : ¬ i.size = 0 := fun e => by rw [e] at hz; cases hz
          simp only [cond_false] at h
          split at h
          · rename_i k off
            refine ⟨_, h, fun S m w v hv => ?_⟩
            simp only [CV] at hv
            obtain ⟨g, hm, rfl⟩ := hv
            exact ⟨.pointer (some ⟨g, off + fd.offset, none⟩), by simp [Instr.fieldAt, run_underlying hd, hf, Instr.sureAddr, fieldPlace, sizeOf, typeInfo, hi, hz', add_none], by simp only [CV]; exact ⟨g, hm, rfl⟩⟩
          · rename_i cs
            refine ⟨_, h, fun S m w v hv => ?_⟩
            simp only [CV] at hv
            obtain ⟨b, o, rfl, hc⟩ := hv
            exact ⟨.pointer (some ⟨b, o + fd.offset, none⟩), by simp [Instr.fieldAt, run_underlying hd, hf, Instr.sureAddr, fieldPlace, sizeOf, typeInfo, hi, hz', add_none], by simp only [CV]; exact ⟨b, _, rfl, hc.drop _⟩⟩
          · rename_i k s q j fo
            refine ⟨_, h, fun S m w v hv => ?_⟩
            simp only [CV] at hv
            obtain ⟨⟨g, o, sp⟩, rfl, hsp, A1, q1, c1, h1, h2, h3⟩ := hv
            simp only at hsp
            subst hsp
            refine ⟨.pointer (some ⟨g, o + fd.offset, none⟩), by simp [Instr.fieldAt, run_underlying hd, hf, Instr.sureAddr, fieldPlace, sizeOf, typeInfo, hi, hz', add_none], ?_⟩
            simp only [CV]
            refine ⟨_, rfl, rfl, A1, q1, c1, h1, h2, fun hq => ?_⟩
            obtain ⟨g', e1, e2⟩ := h3 hq
            injection e2 with e2 e3
            subst e2; subst e3
            exact ⟨_, e1, by simp [Nat.add_assoc]⟩
          · exact h.elim
      · exact h.elim
    · exact h.elim
  · exact h.elim
/-- The i-th byte of a string. -/
def byteI (s : ByteArray) (i : Nat) : Int := match s[i]? with | some b => b.toNat | none => 0
theorem byteI_rng (s : ByteArray) (i : Nat) : rng .u8 (byteI s i) := by
  unfold byteI
  split
  · rename_i b _
    have := b.toNat_lt
    simp only [rng]; omega
  · simp [rng]
def aix (P : Program) (t : TypeId) (x i : AV) (K : AV → Prop) : Prop :=
  match P.underlying t with
  | some (.array n e) => (match x, P.info? e with
    | .agg cs, some inf => intK i fun j => chk (0 ≤ j ∧ j < n) (partK P e (cs.drop (j.toNat * inf.size)) K)
    | _, _ => False)
  | some .string => (match x with
    | .str s => intK i fun j => chk (0 ≤ j ∧ j < s.size) (K (.int .u8 (byteI s j.toNat)))
    | _ => False)
  | _ => False
theorem aix_sound {P : Program} {t : TypeId} {x i : AV} {K : AV → Prop} (h : aix P t x i K) :
    ∃ r, K r ∧ ∀ (S : Pin) (m : Nm) (w : World) (v u : Value), CV S x m v → CV S i m u → ∃ z, (Instr.index t v u).run P w = .ok z w ∧ CV S r m z := by
  unfold aix at h
  split at h
  · rename_i n e hd
    split at h
    · rename_i cs inf hi
      obtain ⟨j, h, hj⟩ := intK_sound h
      obtain ⟨hb, h⟩ := chk_iff.1 h
      obtain ⟨r, h1, h2⟩ := partK_sound h
      refine ⟨r, h1, fun S m w v u hv hu => ?_⟩
      simp only [CV] at hv
      obtain ⟨us, rfl, hus⟩ := hv
      obtain ⟨q, rfl⟩ := hj S m u hu
      obtain ⟨z, h3, h4⟩ := h2 us w S m hus
      exact ⟨z, by simp [Instr.index, asIntOf, run_underlying hd, hb, sizeOf, typeInfo, hi, h3], h4⟩
    · exact h.elim
  · rename_i hd
    split at h
    · rename_i s
      obtain ⟨j, h, hj⟩ := intK_sound h
      obtain ⟨hb, h⟩ := chk_iff.1 h
      refine ⟨_, h, fun S m w v u hv hu => ?_⟩
      simp only [CV] at hv
      obtain ⟨rfl, _⟩ := hv
      obtain ⟨q, rfl⟩ := hj S m u hu
      have hlt : j.toNat < s.size := by omega
      refine ⟨.int .u8 (byteI s j.toNat), ?_, by simp only [CV]; exact ⟨trivial, byteI_rng _ _⟩⟩
      simp only [Instr.index, asIntOf, Sem.run_bind, Sem.run_pure, Result.andThen_ok, run_underlying hd, hb.1, if_true, byteI]
      rw [getElem?_pos s j.toNat hlt]
      rfl
    · exact h.elim
  · exact h.elim
def aia (P : Program) (t : TypeId) (x i : AV) (K : AV → Prop) : Prop :=
  match P.underlying t with
  | some (.array n e) => (match P.info? e with
    | some inf => intK i fun j => chk (0 ≤ j ∧ j < n) (match x with
      | .ptr k off => K (.ptr k (off + j.toNat * inf.size))
      | .ro cs => K (.ro (cs.drop (j.toNat * inf.size)))
      | _ => False)
    | _ => False)
  | some (.slice e) => (match P.info? e with
    | some inf => intK i fun j => (match x with
      | .ms k off n _ s => cond (Nat.beq inf.size s) (chk (0 ≤ j ∧ j < n) (K (.ptr k (off + j.toNat * s)))) False
      | .rw k s n => cond (Nat.beq inf.size s) (chk (0 ≤ j ∧ j < n) (K (.prw k s n j.toNat 0))) False
      | .mw k s q eo n _ => cond (Nat.beq inf.size s) (chk (0 ≤ j ∧ j < n) (K (.prw k s q (eo + j.toNat) 0))) False
      | x => viewS x fun s _ xs => cond (Nat.beq inf.size s) (chk (0 ≤ j ∧ j < xs.length) (K (.ro (xs.getD j.toNat [])))) False)
    | none => False)
  | _ => False
theorem aia_sound {P : Program} {t : TypeId} {x i : AV} {K : AV → Prop} (h : aia P t x i K) :
    ∃ r, K r ∧ ∀ (S : Pin) (m : Nm) (w : World) (v u : Value), CV S x m v → CV S i m u → ∃ z, (Instr.indexAt t v u).run P w = .ok z w ∧ CV S r m z := by
  unfold aia at h
  split at h
  · rename_i n e hd
    split at h
    · rename_i inf hi
      obtain ⟨j, h1, hj⟩ := intK_sound h
      clear h
      obtain ⟨hb, h⟩ := chk_iff.1 h1
      clear h1
      split at h
      · rename_i k off
        refine ⟨_, h, fun S m w v u hv hu => ?_⟩
        simp only [CV] at hv
        obtain ⟨g, hm, rfl⟩ := hv
        obtain ⟨q, rfl⟩ := hj S m u hu
        exact ⟨.pointer (some ⟨g, off + j.toNat * inf.size, none⟩), by simp [Instr.indexAt, asIntOf, run_underlying hd, Instr.sureAddr, sizeOf, typeInfo, hi, hb, add_none], by simp only [CV]; exact ⟨g, hm, rfl⟩⟩
      · rename_i cs
        refine ⟨_, h, fun S m w v u hv hu => ?_⟩
        simp only [CV] at hv
        obtain ⟨b, o, rfl, hc⟩ := hv
        obtain ⟨q, rfl⟩ := hj S m u hu
        exact ⟨.pointer (some ⟨b, o + j.toNat * inf.size, none⟩), by simp [Instr.indexAt, asIntOf, run_underlying hd, Instr.sureAddr, sizeOf, typeInfo, hi, hb, add_none], by simp only [CV]; exact ⟨b, _, rfl, hc.drop _⟩⟩
      · exact h.elim
    · exact h.elim
  · rename_i e hd
    split at h
    · rename_i inf hi
      obtain ⟨j, h1, hj⟩ := intK_sound h
      clear h
      have h := h1
      clear h1
      split at h
      · rename_i k off n c s
        obtain ⟨hs, h⟩ := cond_F h
        have hs := Nat.eq_of_beq_eq_true hs
        obtain ⟨hb, h⟩ := chk_iff.1 h
        refine ⟨_, h, fun S m w v u hv hu => ?_⟩
        simp only [CV] at hv
        obtain ⟨g, o, hm, rfl, ho, hn, _⟩ := hv
        obtain ⟨q, rfl⟩ := hj S m u hu
        have ho := ho (by omega)
        subst ho
        exact ⟨.pointer (some ⟨g, o + j.toNat * inf.size, none⟩), by simp [Instr.indexAt, asIntOf, run_underlying hd, sizeOf, typeInfo, hi, hb, add_none], by simp only [CV]; exact ⟨g, hm, by rw [hs]⟩⟩
      · rename_i k s n
        obtain ⟨hs, h0⟩ := cond_F h
        have hs := Nat.eq_of_beq_eq_true hs
        obtain ⟨hb, h1⟩ := chk_iff.1 h0
        refine ⟨_, h1, fun S m w v u hv hu => ?_⟩
        simp only [CV] at hv
        obtain ⟨⟨A, c, rfl, hn, hc, hA, hsp⟩, A1, q1, c1, p1, p2, p3⟩ := hv
        obtain ⟨q, rfl⟩ := hj S m u hu
        cases A with
        | none => have := hA rfl; omega
        | some a =>
          obtain ⟨g, e⟩ := hsp a rfl
          subst e
          refine ⟨.pointer (some ⟨g, 0 + j.toNat * inf.size, none⟩), by simp [Instr.indexAt, asIntOf, run_underlying hd, sizeOf, typeInfo, hi, hb, add_none], ?_⟩
          simp only [CV]
          refine ⟨_, rfl, rfl, A1, q1, c1, p1, p2, fun hq => ?_⟩
          have := p3 hq
          injection this with e1 _ _
          exact ⟨g, e1.symm, by rw [hs]; simp⟩
      · rename_i k s Q eo n f
        obtain ⟨hs, h0⟩ := cond_F h
        have hs := Nat.eq_of_beq_eq_true hs
        obtain ⟨hb, h1⟩ := chk_iff.1 h0
        refine ⟨_, h1, fun S m w v u hv hu => ?_⟩
        simp only [CV] at hv
        obtain ⟨A, c, rfl, hn, hc, hA, hsp, hf, A1, q1, c1, p1, p2, p3⟩ := hv
        obtain ⟨q, rfl⟩ := hj S m u hu
        cases A with
        | none => have := hA rfl; omega
        | some a =>
          obtain ⟨g, o, sp⟩ := a
          have hsp := hsp _ rfl
          simp only at hsp
          subst hsp
          refine ⟨.pointer (some ⟨g, o + j.toNat * inf.size, none⟩), by simp [Instr.indexAt, asIntOf, run_underlying hd, sizeOf, typeInfo, hi, hb, add_none], ?_⟩
          simp only [CV]
          refine ⟨_, rfl, rfl, A1, q1, c1, p1, p2, fun hq => ?_⟩
          obtain ⟨g', e1, e2⟩ := p3 hq (by omega)
          injection e2 with e2
          injection e2 with e2 e3
          subst e2; subst e3
          exact ⟨_, e1, by rw [hs, Nat.add_mul]; simp⟩
      · obtain ⟨s, f, xs, h, hx⟩ := viewS_sound h
        obtain ⟨hs, h⟩ := cond_F h
        have hs := Nat.eq_of_beq_eq_true hs
        obtain ⟨hb, h⟩ := chk_iff.1 h
        refine ⟨_, h, fun S m w v u hv hu => ?_⟩
        obtain ⟨A, c, rfl, hc1, _, _, hA, hE⟩ := hx S m v hv
        obtain ⟨q, rfl⟩ := hj S m u hu
        cases A with
        | none => have := hA rfl; omega
        | some a =>
          obtain ⟨h1, h2⟩ := hE a rfl
          have h1 := h1 (by omega)
          obtain ⟨b, o, sp⟩ := a
          simp only at h1
          subst h1
          have hlt : j.toNat < xs.length := by omega
          have hg := h2.get (List.getElem?_eq_getElem hlt)
          refine ⟨.pointer (some ⟨b, o + j.toNat * inf.size, none⟩), by simp [Instr.indexAt, asIntOf, run_underlying hd, sizeOf, typeInfo, hi, hb, add_none], ?_⟩
          simp only [CV]
          exact ⟨b, _, rfl, by rw [hs]; simpa [List.getD, List.getElem?_eq_getElem hlt] using hg.2⟩
    · exact h.elim
  · exact h.elim
/-- The greatest (or least) of some numbers of one kind. -/
def foldI (op : Int → Int → Int) (k : IntKind) : List AV → Int → (Int → Prop) → Prop
  | [], n, K => K n
  | .int k' m :: l, n, K => cond (decide (k = k')) (foldI op k l (op n m) K) False
  | _, _, _ => False
theorem foldI_sound {op : Int → Int → Int} {k : IntKind} {F : Value → Value → Sem Value} (hF : ∀ a b P w, (F (.int k a) (.int k b)).run P w = .ok (.int k (op a b)) w) (hr : ∀ a b, rng k a → rng k b → rng k (op a b)) :
    ∀ (l : List AV) (n : Int) (K : Int → Prop), foldI op k l n K → ∃ z, K z ∧ ∀ (S : Pin) (m : Nm) (vs : List Value) (P : Program) (w : World), rng k n → CVl S l m vs → (vs.foldlM F (.int k n)).run P w = .ok (.int k z) w ∧ rng k z
  | [], n, K, h => ⟨n, h, fun S m vs P w hn hv => by
      simp only [CVl] at hv
      subst hv
      exact ⟨rfl, hn⟩⟩
  | .int k' m0 :: l, n, K, h => by
    simp only [foldI] at h
    obtain ⟨hk, h'⟩ := cond_F h
    have hk := of_decide_eq_true hk
    subst hk
    obtain ⟨z, hz, hs⟩ := foldI_sound hF hr l (op n m0) K h'
    refine ⟨z, hz, fun S m vs P w hn hv => ?_⟩
    simp only [CVl] at hv
    obtain ⟨u, us, rfl, hu, hus⟩ := hv
    simp only [CV] at hu
    obtain ⟨rfl, hm⟩ := hu
    obtain ⟨h1, h2⟩ := hs S m us P w (hr _ _ hn hm) hus
    refine ⟨?_, h2⟩
    simp only [List.foldlM_cons, Sem.run_bind, hF, Result.andThen_ok]
    exact h1
def abu (P : Program) (b : Builtin) (ts : List TypeId) (xs : List AV) (K : AV → Prop) : Prop :=
  match b, ts, xs with
  | .len, t :: _, [x] => (match P.underlying t with
    | some .string => (match x with | .str s => K (.int .i64 s.size) | _ => False)
    | some (.array n _) => cond (Nat.ble n 9223372036854775807) (K (.int .i64 n)) False
    | some (.slice _) => (match x with
      | .nils => K (.int .i64 0)
      | .ms _ _ n _ _ => K (.int .i64 n)
      | .rw _ _ n => K (.int .i64 n)
      | .mw _ _ _ _ n _ => K (.int .i64 n)
      | x => viewS x fun _ _ l => K (.int .i64 l.length))
    | _ => False)
  | .min, _, [x, y] => (match x, y with | .int k a, .int k' c => cond (decide (k = k')) (K (.int k (min a c))) False | _, _ => False)
  | .max, _, [x, y] => (match x, y with | .int k a, .int k' c => cond (decide (k = k')) (K (.int k (max a c))) False | _, _ => False)
  | .max, _, .int k a :: l => foldI max k l a fun n => K (.int k n)
  | .min, _, .int k a :: l => foldI min k l a fun n => K (.int k n)
  | _, _, _ => False

theorem abu_sound {P : Program} {b : Builtin} {ts : List TypeId} {xs : List AV} {K : AV → Prop} (h : abu P b ts xs K) :
    ∃ r, K r ∧ ∀ (S : Pin) (m : Nm) (w : World) (ty : TypeId) (cs : Array Bool) (vs : Array Value), CVl S xs m vs.toList → ∃ z, (builtin b ts.toArray ty cs vs).run P w = .ok (.value z) w ∧ CV S r m z := by
  have one : ∀ (S : Pin) (m : Nm) (x : AV) (vs : Array Value), CVl S [x] m vs.toList → ∃ v, vs = #[v] ∧ CV S x m v := by
    intro S m x vs hv
    simp only [CVl] at hv
    obtain ⟨u, us, e, hu, rfl⟩ := hv
    exact ⟨u, by rw [← Array.toArray_toList (xs := vs), e], hu⟩
  have two : ∀ (S : Pin) (m : Nm) (x y : AV) (vs : Array Value), CVl S [x, y] m vs.toList → ∃ v u, vs = #[v, u] ∧ CV S x m v ∧ CV S y m u := by
    intro S m x y vs hv
    simp only [CVl] at hv
    obtain ⟨u, us, e, hu, u', us', rfl, hu', rfl⟩ := hv
    exact ⟨u, u', by rw [← Array.toArray_toList (xs := vs), e], hu, hu'⟩
  unfold abu at h
  split at h
  · rename_i t ts x
    split at h
    · rename_i hd
      split at h
      · rename_i s
        refine ⟨_, h, fun S m w ty cs vs hw => ?_⟩
        obtain ⟨v, rfl, hv⟩ := one _ _ _ _ hw
        simp only [CV] at hv
        obtain ⟨rfl, hs⟩ := hv
        refine ⟨.int .i64 s.size, by simp [builtin, Builtin.len_, run_underlying hd, goInt], ?_⟩
        simp only [CV, rng]
        unfold maxLen at hs
        exact ⟨trivial, by omega, by omega⟩
      · exact h.elim
    · rename_i n e hd
      obtain ⟨hn, h'⟩ := cond_F h
      have hn := Nat.le_of_ble_eq_true hn
      refine ⟨_, h', fun S m w ty cs vs hw => ?_⟩
      obtain ⟨v, rfl, hv⟩ := one _ _ _ _ hw
      refine ⟨.int .i64 n, by simp [builtin, Builtin.len_, run_underlying hd, goInt], ?_⟩
      simp only [CV, rng]
      exact ⟨trivial, by omega, by omega⟩
    · rename_i e hd
      split at h
      · refine ⟨_, h, fun S m w ty cs vs hw => ?_⟩
        obtain ⟨v, rfl, hv⟩ := one _ _ _ _ hw
        simp only [CV] at hv
        subst hv
        exact ⟨.int .i64 0, by simp [builtin, Builtin.len_, run_underlying hd, goInt], by simp only [CV, rng]; exact ⟨trivial, by omega, by omega⟩⟩
      · rename_i k off n c s
        refine ⟨_, h, fun S m w ty cs vs hw => ?_⟩
        obtain ⟨v, rfl, hv⟩ := one _ _ _ _ hw
        simp only [CV] at hv
        obtain ⟨g, o, _, rfl, _, h1, h2⟩ := hv
        refine ⟨.int .i64 n, by simp [builtin, Builtin.len_, run_underlying hd, goInt], ?_⟩
        simp only [CV, rng]
        unfold maxLen at h2
        exact ⟨trivial, by omega, by omega⟩
      · rename_i k s n
        refine ⟨_, h, fun S m w ty cs vs hw => ?_⟩
        obtain ⟨v, rfl, hv⟩ := one _ _ _ _ hw
        simp only [CV] at hv
        obtain ⟨⟨A, c, rfl, h1, h2, _⟩, _⟩ := hv
        refine ⟨.int .i64 n, by simp [builtin, Builtin.len_, run_underlying hd, goInt], ?_⟩
        simp only [CV, rng]
        unfold maxLen at h2
        exact ⟨trivial, by omega, by omega⟩
      · rename_i k s q eo n f
        refine ⟨_, h, fun S m w ty cs vs hw => ?_⟩
        obtain ⟨v, rfl, hv⟩ := one _ _ _ _ hw
        simp only [CV] at hv
        obtain ⟨A, c, rfl, h1, h2, _⟩ := hv
        refine ⟨.int .i64 n, by simp [builtin, Builtin.len_, run_underlying hd, goInt], ?_⟩
        simp only [CV, rng]
        unfold maxLen at h2
        exact ⟨trivial, by omega, by omega⟩
      · obtain ⟨s, f, l, h', hx⟩ := viewS_sound h
        refine ⟨_, h', fun S m w ty cs vs hw => ?_⟩
        obtain ⟨v, rfl, hv⟩ := one _ _ _ _ hw
        obtain ⟨A, c, rfl, h1, h2, _⟩ := hx S m v hv
        refine ⟨.int .i64 l.length, by simp [builtin, Builtin.len_, run_underlying hd, goInt], ?_⟩
        simp only [CV, rng]
        unfold maxLen at h2
        exact ⟨trivial, by omega, by omega⟩
    · exact h.elim
  · split at h
    · rename_i k a k' c
      obtain ⟨hk, h'⟩ := cond_F h
      have hk := of_decide_eq_true hk
      subst hk
      refine ⟨_, h', fun S m w ty cs vs hw => ?_⟩
      obtain ⟨v, u, rfl, hv, hu⟩ := two _ _ _ _ _ hw
      simp only [CV] at hv hu
      obtain ⟨rfl, r1⟩ := hv
      obtain ⟨rfl, r2⟩ := hu
      refine ⟨.int k (min a c), ?_, ?_⟩
      · have e : (if c < a then c else a) = min a c := by rw [Int.min_def]; split <;> split <;> omega
        simp [builtin, Builtin.min_, Builtin.min2, e]
      · simp only [CV]
        refine ⟨trivial, ?_⟩
        rw [Int.min_def]; split <;> assumption
    · exact h.elim
  · split at h
    · rename_i k a k' c
      obtain ⟨hk, h'⟩ := cond_F h
      have hk := of_decide_eq_true hk
      subst hk
      refine ⟨_, h', fun S m w ty cs vs hw => ?_⟩
      obtain ⟨v, u, rfl, hv, hu⟩ := two _ _ _ _ _ hw
      simp only [CV] at hv hu
      obtain ⟨rfl, r1⟩ := hv
      obtain ⟨rfl, r2⟩ := hu
      refine ⟨.int k (max a c), ?_, ?_⟩
      · have e : (if a < c then c else a) = max a c := by rw [Int.max_def]; split <;> split <;> omega
        simp [builtin, Builtin.max_, Builtin.max2, e]
      · simp only [CV]
        refine ⟨trivial, ?_⟩
        rw [Int.max_def]; split <;> assumption
    · exact h.elim
  · rename_i k a l _
    obtain ⟨z, hz, hs⟩ := foldI_sound (F := Builtin.max2) (fun a b P w => by have e : (if a < b then b else a) = max a b := by { rw [Int.max_def]; split <;> split <;> omega }; simp [Builtin.max2, e]) (fun a b ha hb => by rw [Int.max_def]; split <;> assumption) _ _ _ h
    refine ⟨_, hz, fun S m w ty cs vs hw => ?_⟩
    simp only [CVl] at hw
    obtain ⟨u, us, e, hu, hus⟩ := hw
    simp only [CV] at hu
    obtain ⟨rfl, hr⟩ := hu
    obtain ⟨h1, h2⟩ := hs S m us P w hr hus
    refine ⟨.int k z, ?_, by simp only [CV]; exact ⟨trivial, h2⟩⟩
    simp [builtin, Builtin.max_, e, h1]
  · rename_i k a l _
    obtain ⟨z, hz, hs⟩ := foldI_sound (F := Builtin.min2) (fun a b P w => by have e : (if b < a then b else a) = min a b := by { rw [Int.min_def]; split <;> split <;> omega }; simp [Builtin.min2, e]) (fun a b ha hb => by rw [Int.min_def]; split <;> assumption) _ _ _ h
    refine ⟨_, hz, fun S m w ty cs vs hw => ?_⟩
    simp only [CVl] at hw
    obtain ⟨u, us, e, hu, hus⟩ := hw
    simp only [CV] at hu
    obtain ⟨rfl, hr⟩ := hu
    obtain ⟨h1, h2⟩ := hs S m us P w hr hus
    refine ⟨.int k z, ?_, by simp only [CV]; exact ⟨trivial, h2⟩⟩
    simp [builtin, Builtin.min_, e, h1]
  · exact h.elim

/-- A nil slice in a struct that is built, read as an empty row: type, cell, cells of an element. -/
def isNl : AV → Bool
  | .nils => true
  | _ => false
def nlsF : List (Nat × Nat × Nat) → Nat → Nat → AV → AV
  | (t', j', s) :: l, t, j, x => cond (Nat.beq t t' && Nat.beq j j' && isNl x) (.sl s false []) (nlsF l t j x)
  | [], _, _, x => x
def nlsC (l : List (Nat × Nat × Nat)) (t : Nat) : List AV → Nat → List AV
  | x :: xs, j => nlsF l t j x :: nlsC l t xs (j + 1)
  | [], _ => []
def nlsA : List (Nat × Nat × Nat) → Nat → AV → AV
  | p :: l, t, .agg cs => .agg (nlsC (p :: l) t cs 0)
  | _, _, x => x
theorem nlsF_cv {S : Pin} {m : Nm} {v : Value} : ∀ (l : List (Nat × Nat × Nat)) (t j : Nat) (x : AV), CV S x m v → CV S (nlsF l t j x) m v
  | [], _, _, _, h => h
  | (t', j', s) :: l, t, j, x, h => by
    simp only [nlsF]
    cases hb : (Nat.beq t t' && Nat.beq j j' && isNl x) with
    | false => exact nlsF_cv l t j x h
    | true =>
      simp only [Bool.and_eq_true] at hb
      have hx : x = .nils := by cases x <;> first | rfl | cases hb.2
      subst hx
      simp only [CV] at h
      subst h
      simp only [cond_true, CV]
      exact ⟨none, 0, rfl, Nat.le_refl _, by simp [maxLen], by simp, fun _ => rfl, fun a e => by cases e⟩
theorem nlsC_cv {S : Pin} {m : Nm} (l : List (Nat × Nat × Nat)) (t : Nat) : ∀ (xs : List AV) (j : Nat) (vs : List Value), CVl S xs m vs → CVl S (nlsC l t xs j) m vs
  | [], _, _, h => h
  | x :: xs, j, vs, h => by
    simp only [CVl] at h
    obtain ⟨u, us, rfl, h1, h2⟩ := h
    simp only [nlsC, CVl]
    exact ⟨u, us, rfl, nlsF_cv l t j x h1, nlsC_cv l t xs (j + 1) us h2⟩
theorem nlsA_cv {S : Pin} {m : Nm} {v : Value} {l : List (Nat × Nat × Nat)} {t : Nat} {x : AV} (h : CV S x m v) : CV S (nlsA l t x) m v := by
  unfold nlsA
  split
  · simp only [CV] at h ⊢
    obtain ⟨us, e, h⟩ := h
    exact ⟨us, e, nlsC_cv _ _ _ _ _ h⟩
  · exact h
def apure (P : Program) (E : Env) (tys : List TypeId) (o : Op) (ev : Operand → AV) (K : AV → Prop) : Prop :=
  match o with
  | .move x => K (ev x)
  | .assign x => K (ev x)
  | .pick c a b => (match ev c with | .bool q => cond q (K (ev a)) (K (ev b)) | _ => False)
  | .binOp op t x y _ => abin P E tys op t (ev x) (ev y) K
  | .unOp op _ x => aun E op (ev x) K
  | .convert s d x => acv P s d (ev x) K
  | .extract x i => (match ev x with | .tup vs => headK (vs.drop i) K | _ => False)
  | .makeFunc (.func f) first caps => cond first.isEmpty (K (.fn f (caps.toList.map ev))) False
  | .nilCheck x => (match ev x with | .ptr k i => K (.ptr k i) | .ro cs => K (.ro cs) | .fn f cs => K (.fn f cs) | .prw k s q j fo => K (.prw k s q j fo) | _ => False)
  | .field t x f => afl P t (ev x) f K
  | .fieldAddr t x f => afa P t (ev x) f K
  | .index t x i => aix P t (ev x) (ev i) K
  | .indexAddr t x i => aia P t (ev x) (ev i) K
  | .slice t x lo hi mx => asli P t (ev x) (lo.map ev) (hi.map ev) (mx.map ev) K
  | .build t parts => bldK P t (parts.toList.map fun p => (p.1, ev p.2)) fun r => K (nlsA E.nls t r)
  | .call c => (match c.callee with | .builtin b => abu P b c.argTypes.toList (c.args.toList.map ev) K | _ => False)
  | _ => False
theorem CVl.map {S : Pin} {m : Nm} {ev : Operand → AV} {va : Operand → Value} : ∀ (l : List Operand), (∀ x ∈ l, CV S (ev x) m (va x)) → CVl S (l.map ev) m (l.map va)
  | [], _ => by simp only [List.map_nil, CVl]
  | x :: l, h => by
    simp only [List.map_cons, CVl]
    exact ⟨_, _, rfl, h x (by simp), CVl.map l (fun y hy => h y (by simp [hy]))⟩
theorem opt_map {S : Pin} {m : Nm} {ev : Operand → AV} {va : Operand → Value} (o : Option Operand) (h : ∀ x ∈ o.toArray, CV S (ev x) m (va x)) : Opt S m (o.map ev) (o.map va) := by
  cases o with
  | none => exact ⟨fun y e => (by cases e), fun _ => rfl⟩
  | some x => exact ⟨fun y e => by simp only [Option.map_some, Option.some.injEq] at e; subst e; exact ⟨_, rfl, h x (by simp)⟩, fun e => by cases e⟩
theorem apure_sound {P : Program} {E : Env} {tys : List TypeId} (hT : TyOK P tys) {o : Oper} {ev : Operand → AV} {K : AV → Prop} (h : apure P E tys o.op ev K) : ∃ r, K r ∧ PG P o ev r := by
  unfold apure at h
  split at h
  · rename_i x ho
    refine ⟨_, h, fun a w S m hv => ?_⟩
    rw [ho] at hv
    exact ⟨_, by simp [execOp, ho], hv x (by simp [Op.operands])⟩
  · rename_i x ho
    refine ⟨_, h, fun a w S m hv => ?_⟩
    rw [ho] at hv
    exact ⟨_, by simp [execOp, ho], hv x (by simp [Op.operands])⟩
  · rename_i c x y ho
    split at h
    · rename_i q hq
      cases q with
      | true =>
        refine ⟨_, h, fun a w S m hv => ?_⟩
        rw [ho] at hv
        have hc := hv c (by simp [Op.operands])
        rw [hq] at hc
        simp only [CV] at hc
        exact ⟨_, by simp [execOp, ho, hc, asBool], hv x (by simp [Op.operands])⟩
      | false =>
        refine ⟨_, h, fun a w S m hv => ?_⟩
        rw [ho] at hv
        have hc := hv c (by simp [Op.operands])
        rw [hq] at hc
        simp only [CV] at hc
        exact ⟨_, by simp [execOp, ho, hc, asBool], hv y (by simp [Op.operands])⟩
    · exact h.elim
  · rename_i op t x y yt ho
    obtain ⟨r, h1, h2⟩ := abin_sound hT h
    refine ⟨r, h1, fun a w S m hv => ?_⟩
    rw [ho] at hv
    obtain ⟨z, e1, e2, e3⟩ := h2 (a.eval x) (a.eval y) w S m x y (hv x (by simp [Op.operands])) (hv y (by simp [Op.operands]))
    exact ⟨z, by simp [execOp, ho, e1, e2], e3⟩
  · rename_i op t x ho
    obtain ⟨r, h1, h2⟩ := aun_sound (P := P) h
    refine ⟨r, h1, fun a w S m hv => ?_⟩
    rw [ho] at hv
    obtain ⟨z, e1, e2⟩ := h2 S m w _ (hv x (by simp [Op.operands]))
    exact ⟨z, by simp [execOp, ho, e1], e2⟩
  · rename_i s d x ho
    obtain ⟨r, h1, h2⟩ := acv_sound (P := P) h
    refine ⟨r, h1, fun a w S m hv => ?_⟩
    rw [ho] at hv
    obtain ⟨z, e1, e2⟩ := h2 S m w _ (hv x (by simp [Op.operands]))
    exact ⟨z, by simp [execOp, ho, e1], e2⟩
  · rename_i x i ho
    split at h
    · rename_i vs hq
      obtain ⟨y, h1, h2⟩ := headK_sound h
      refine ⟨y, h2, fun a w S m hv => ?_⟩
      rw [ho] at hv
      have hc := hv x (by simp [Op.operands])
      rw [hq] at hc
      simp only [CV] at hc
      obtain ⟨us, e, hu⟩ := hc
      rw [List.getElem?_drop] at h1
      obtain ⟨v, hv1, hv2⟩ := hu.get h1
      have hv1' : us[i]? = some v := by simpa using hv1
      exact ⟨v, by simp [execOp, ho, e, Instr.extract, hv1'], hv2⟩
    · exact h.elim
  · rename_i f first caps ho
    obtain ⟨he, h'⟩ := cond_F h
    refine ⟨_, h', fun a w S m hv => ?_⟩
    rw [ho] at hv
    have hf : first = #[] := by simpa using he
    subst hf
    refine ⟨.func (.func f) #[] (caps.map a.eval), by simp [execOp, ho, Instr.makeFunc], ?_⟩
    simp only [CV]
    refine ⟨_, rfl, ?_⟩
    rw [Array.toList_map]
    exact CVl.map _ (fun x hx => hv x (by simp [Op.operands]; exact Array.mem_toList_iff.1 hx))
  · rename_i x ho
    split at h
    all_goals first
      | exact h.elim
      | (rename_i hq
         refine ⟨_, h, fun a w S m hv => ?_⟩
         rw [ho] at hv
         have hc := hv x (by simp [Op.operands])
         rw [hq] at hc
         have hc' := hc
         simp only [CV] at hc
         first
           | (obtain ⟨g, e1, e2⟩ := hc; exact ⟨_, by simp [execOp, ho, e2]; rfl, by rw [← e2]; exact hc'⟩)
           | (obtain ⟨g, o', e1, e2⟩ := hc; exact ⟨_, by simp [execOp, ho, e1]; rfl, by rw [← e1]; exact hc'⟩)
           | (obtain ⟨us, e1, e2⟩ := hc; exact ⟨_, by simp [execOp, ho, e1]; rfl, by rw [← e1]; exact hc'⟩)
           | (obtain ⟨a1, e1, e2⟩ := hc; exact ⟨_, by simp [execOp, ho, e1]; rfl, by rw [← e1]; exact hc'⟩))
  · rename_i t x f ho
    obtain ⟨r, h1, h2⟩ := afl_sound h
    refine ⟨r, h1, fun a w S m hv => ?_⟩
    rw [ho] at hv
    obtain ⟨z, e1, e2⟩ := h2 S m w _ (hv x (by simp [Op.operands]))
    exact ⟨z, by simp [execOp, ho, e1], e2⟩
  · rename_i t x f ho
    obtain ⟨r, h1, h2⟩ := afa_sound h
    refine ⟨r, h1, fun a w S m hv => ?_⟩
    rw [ho] at hv
    obtain ⟨z, e1, e2⟩ := h2 S m w _ (hv x (by simp [Op.operands]))
    exact ⟨z, by simp [execOp, ho, e1], e2⟩
  · rename_i t x i ho
    obtain ⟨r, h1, h2⟩ := aix_sound h
    refine ⟨r, h1, fun a w S m hv => ?_⟩
    rw [ho] at hv
    obtain ⟨z, e1, e2⟩ := h2 S m w _ _ (hv x (by simp [Op.operands])) (hv i (by simp [Op.operands]))
    exact ⟨z, by simp [execOp, ho, e1], e2⟩
  · rename_i t x i ho
    obtain ⟨r, h1, h2⟩ := aia_sound h
    refine ⟨r, h1, fun a w S m hv => ?_⟩
    rw [ho] at hv
    obtain ⟨z, e1, e2⟩ := h2 S m w _ _ (hv x (by simp [Op.operands])) (hv i (by simp [Op.operands]))
    exact ⟨z, by simp [execOp, ho, e1], e2⟩
  · rename_i t x lo hi mx ho
    obtain ⟨r, h1, h2⟩ := asli_sound h
    refine ⟨r, h1, fun a w S m hv => ?_⟩
    rw [ho] at hv
    obtain ⟨z, e1, e2⟩ := h2 S m w _ _ _ _ (hv x (by simp [Op.operands])) (opt_map lo (fun y hy => hv y (by simp [Op.operands] at hy ⊢; simp [hy]))) (opt_map hi (fun y hy => hv y (by simp [Op.operands] at hy ⊢; simp [hy]))) (opt_map mx (fun y hy => hv y (by simp [Op.operands] at hy ⊢; simp [hy])))
    exact ⟨z, by simp [execOp, ho, e1], e2⟩
  · rename_i t parts ho
    obtain ⟨r, h1, h2⟩ := bldK_sound h
    refine ⟨_, h1, fun a w S m hv => ?_⟩
    rw [ho] at hv
    obtain ⟨z, e1, e2⟩ := h2 S m w (parts.map fun p => (p.1, a.eval p.2)) (by simp) (fun j p q hp hq => by
      simp only [List.getElem?_map, Array.toList_map] at hp hq
      cases hj : parts.toList[j]? with
      | none => simp [hj] at hp
      | some u =>
        simp only [hj, Option.map_some, Option.some.injEq] at hp hq
        subst hp hq
        exact ⟨rfl, hv u.2 (by simp only [Op.operands, List.mem_toArray, List.mem_map]; exact ⟨u, List.mem_of_getElem? hj, rfl⟩)⟩)
    exact ⟨z, by simp only [execOp, ho]; simp [e1], nlsA_cv e2⟩
  · rename_i c ho
    split at h
    · rename_i b hb
      obtain ⟨r, h1, h2⟩ := abu_sound h
      refine ⟨r, h1, fun a w S m hv => ?_⟩
      rw [ho] at hv
      have e : ∃ cs, execOp a.eval o = builtin b c.argTypes o.type cs (c.args.map a.eval) := ⟨_, by simp only [execOp, ho, resolve, hb, invoke]; rfl⟩
      obtain ⟨cs, e⟩ := e
      obtain ⟨z, e1, e2⟩ := h2 S m w o.type cs (c.args.map a.eval) (by
        rw [Array.toList_map]
        exact CVl.map _ (fun x hx => hv x (by simp [Op.operands, Call.operands, hb]; exact Array.mem_toList_iff.1 hx)))
      exact ⟨z, by simp only [Array.toArray_toList] at e1; rw [e, e1], e2⟩
    · exact h.elim
  · exact h.elim
end Go.Proofs.YthdfkiopppkfcaaDoor
