/- Abstract values, and when a value of the machine is one. -/
import Derived.WalkKit
import Derived.WalkSpells
import Derived.Lib.Hide
import Derived.OwnWalk
import Derived.Orders
namespace Go.Proofs.YthdfkiopppkfcaaDoor
open Go

/-- Cells whose contents are known once and for all: block and offset. -/
abbrev Pin := Nat → Nat → Option Value
def Agree (S : Pin) (w : World) : Prop := ∀ b o v, S b o = some v → w.cell? ⟨b, o, none⟩ = some v ∧ v.oneCell' = true
def Ext (S S' : Pin) : Prop := ∀ b o v, S b o = some v → S' b o = some v
theorem Ext.refl (S : Pin) : Ext S S := fun _ _ _ h => h
theorem Ext.trans {a b c : Pin} (h : Ext a b) (k : Ext b c) : Ext a c := fun x y v e => k x y v (h x y v e)

inductive AV where
  | int (k : IntKind) (n : Int)
  | bool (b : Bool)
  | str (s : ByteArray)
  | agg (cs : List AV)
  | tup (vs : List AV)
  | sl (s : Nat) (full : Bool) (xs : List (List AV))
  | nils
  | ro (cs : List AV)
  | nilp
  | fn (f : FuncId) (caps : List AV)
  | ptr (k off : Nat)
  | acc (k s : Nat) (xs : List (List AV))
  | ms (k off n c s : Nat)
  | rw (k s n : Nat)
  | mw (k s q eo n : Nat) (full : Bool)
  | prw (k s q j fo : Nat)
  | frz (k s n : Nat) (xs : List (List AV))
  | mpv (k : Nat)
  | undef
  | dead
  deriving Inhabited

/-- The value in full, then k. -/
def forceA : AV → (AV → Prop) → Prop
  | .int k n, c => c (.int k n)
  | .bool b, c => c (.bool b)
  | .str s, c => c (.str s)
  | .agg cs, c => c (.agg cs)
  | .tup vs, c => c (.tup vs)
  | .sl s f xs, c => c (.sl s f xs)
  | .nils, c => c .nils
  | .ro cs, c => c (.ro cs)
  | .nilp, c => c .nilp
  | .fn f cs, c => c (.fn f cs)
  | .ptr k o, c => c (.ptr k o)
  | .acc k s xs, c => c (.acc k s xs)
  | .ms k o n d s, c => c (.ms k o n d s)
  | .rw k s n, c => c (.rw k s n)
  | .mw k s q o n d, c => c (.mw k s q o n d)
  | .prw k s q j o, c => c (.prw k s q j o)
  | .frz k s n xs, c => c (.frz k s n xs)
  | .mpv k, c => c (.mpv k)
  | .undef, c => c .undef
  | .dead, c => c .dead
theorem forceA_eq (x : AV) (c : AV → Prop) : forceA x c = c x := by cases x <;> rfl

/-- Where the call's own blocks lie: a pointer for a block of cells; a slice for a row that grows and is known for good; a slice in brackets for a row whose elements may change. -/
abbrev Nm := Nat → Option Value
def noNm : Nm := fun _ => none

/-- A number is one of its kind. -/
def rng : IntKind → Int → Prop
  | .i64, n => -9223372036854775808 ≤ n ∧ n ≤ 9223372036854775807
  | .u64, n => 0 ≤ n ∧ n ≤ 18446744073709551615
  | .i32, n => -2147483648 ≤ n ∧ n ≤ 2147483647
  | .u32, n => 0 ≤ n ∧ n ≤ 4294967295
  | .i16, n => -32768 ≤ n ∧ n ≤ 32767
  | .u16, n => 0 ≤ n ∧ n ≤ 65535
  | .i8, n => -128 ≤ n ∧ n ≤ 127
  | .u8, n => 0 ≤ n ∧ n ≤ 255
theorem rng_iff (k : IntKind) (n : Int) : rng k n ↔ k.min ≤ n ∧ n ≤ k.max := by
  cases k <;> simp [rng, IntKind.min, IntKind.max, IntKind.signed, IntKind.bits]
def hiN : IntKind → Nat
  | .i64 => 9223372036854775807 | .u64 => 18446744073709551615 | .i32 => 2147483647 | .u32 => 4294967295
  | .i16 => 32767 | .u16 => 65535 | .i8 => 127 | .u8 => 255
def loN : IntKind → Nat
  | .i64 => 9223372036854775808 | .i32 => 2147483648 | .i16 => 32768 | .i8 => 128 | _ => 0
/-- The test in a form that stands still at once at a number like 'length + 1' (a subtraction of great numerals would be taken apart). -/
def rngB (k : IntKind) (n : Int) : Bool := match n with
  | .ofNat m => Nat.ble m (hiN k)
  | .negSucc m => Nat.blt m (loN k)
theorem rngB_iff (k : IntKind) (n : Int) : rngB k n = true ↔ rng k n := by
  cases n with
  | ofNat m =>
    show Nat.ble m (hiN k) = true ↔ rng k ((m : Nat) : Int)
    rw [Nat.ble_eq]
    cases k <;> simp only [hiN, rng] <;> omega
  | negSucc m =>
    show Nat.ble (m + 1) (loN k) = true ↔ _
    rw [Nat.ble_eq]
    cases k <;> simp only [loN, rng] <;> omega
instance (k : IntKind) (n : Int) : Decidable (rng k n) := decidable_of_iff _ (rngB_iff k n)
theorem wrap_rng (k : IntKind) (n : Int) : rng k (k.wrap n) := by
  cases k <;> simp only [IntKind.wrap, rng, IntKind.signed, IntKind.bits] <;> simp <;> (try split) <;> omega
theorem wrap_eq {k : IntKind} {n : Int} (h : rng k n) : k.wrap n = n := by
  cases k <;> simp only [IntKind.wrap, rng, IntKind.signed, IntKind.bits] at h ⊢ <;> simp at h ⊢ <;> (try split) <;> omega

mutual
def CV (S : Pin) : AV → Nm → Value → Prop
  | .int k n, _, v => v = .int k n ∧ rng k n
  | .bool b, _, v => v = .bool b
  | .str s, _, v => v = .string s ∧ s.size ≤ maxLen
  | .agg cs, m, v => ∃ us : Array Value, v = .agg us ∧ CVl S cs m us.toList
  | .tup cs, m, v => ∃ us : Array Value, v = .tuple us ∧ CVl S cs m us.toList
  | .sl s full xs, _, v => ∃ A c, v = .slice A xs.length c ∧ xs.length ≤ c ∧ c ≤ maxLen ∧ (full = true → c = xs.length) ∧ (A = none → c = 0) ∧ (∀ a, A = some a → (c ≠ 0 → a.spot = none) ∧ CE S xs s a.block a.off)
  | .nils, _, v => v = .slice none 0 0
  | .ro cs, _, v => ∃ b o, v = .pointer (some ⟨b, o, none⟩) ∧ CC S cs b o
  | .nilp, _, v => v = .pointer none
  | .fn f caps, m, v => ∃ us : Array Value, v = .func (.func f) #[] us ∧ CVl S caps m us.toList
  | .ptr k off, m, v => ∃ g, m k = some (.pointer (some ⟨g, 0, none⟩)) ∧ v = .pointer (some ⟨g, off, none⟩)
  | .acc k s xs, m, v => (∃ A c, v = .slice A xs.length c ∧ xs.length ≤ c ∧ c ≤ maxLen ∧ (A = none → c = 0) ∧ (∀ a, A = some a → (c ≠ 0 → a.spot = none) ∧ CE S xs s a.block a.off)) ∧
      ∃ A n c, m k = some (.slice A n c) ∧ xs.length ≤ n ∧ (xs.length = n → v = .slice A n c)
  | .ms k off n c _, m, v => ∃ g o, m k = some (.pointer (some ⟨g, 0, none⟩)) ∧ v = .slice (some ⟨g, o, none⟩) n c ∧ (c ≠ 0 → o = off) ∧ n ≤ c ∧ c ≤ maxLen
  | .rw k _ n, m, v => (∃ A c, v = .slice A n c ∧ n ≤ c ∧ c ≤ maxLen ∧ (A = none → c = 0) ∧ (∀ a, A = some a → ∃ g, a = ⟨g, 0, none⟩)) ∧
      ∃ A q c, m k = some (.iface 0 (.slice A q c)) ∧ n ≤ q ∧ (n = q → v = .slice A q c)
  | .mw k s q eo n full, m, v => (∃ A c, v = .slice A n c ∧ n ≤ c ∧ c ≤ maxLen ∧ (A = none → c = 0) ∧ (∀ a, A = some a → a.spot = none) ∧ (full = true → c = n) ∧
      ∃ A1 q1 c1, m k = some (.iface 0 (.slice A1 q1 c1)) ∧ q ≤ q1 ∧ (q = q1 → c ≠ 0 → ∃ g, A1 = some ⟨g, 0, none⟩ ∧ A = some ⟨g, eo * s, none⟩))
  | .prw k s q j fo, m, v => (∃ a, v = .pointer (some a) ∧ a.spot = none ∧ ∃ A1 q1 c1, m k = some (.iface 0 (.slice A1 q1 c1)) ∧ q ≤ q1 ∧ (q = q1 → ∃ g, A1 = some ⟨g, 0, none⟩ ∧ a = ⟨g, j * s + fo, none⟩))
  | .frz k s n xs, m, v => (∃ A c, v = .slice A n c) ∧ (n = xs.length → (∃ A c, v = .slice A xs.length c ∧ xs.length ≤ c ∧ c ≤ maxLen ∧ (A = none → c = 0) ∧ (∀ a, A = some a → (c ≠ 0 → a.spot = none) ∧ CE S xs s a.block a.off)) ∧
      ∃ A n c, m k = some (.slice A n c) ∧ xs.length ≤ n ∧ (xs.length = n → v = .slice A n c))
  | .mpv k, m, v => ∃ g, m k = some (.map (some g)) ∧ v = .map (some g)
  | .undef, _, v => v = Go.undef
  | .dead, _, _ => True
def CVl (S : Pin) : List AV → Nm → List Value → Prop
  | [], _, vs => vs = []
  | x :: xs, m, vs => ∃ u us, vs = u :: us ∧ CV S x m u ∧ CVl S xs m us
def CE (S : Pin) : List (List AV) → Nat → Nat → Nat → Prop
  | [], _, _, _ => True
  | x :: xs, s, b, o => x.length = s ∧ CC S x b o ∧ CE S xs s b (o + s)
def CC (S : Pin) : List AV → Nat → Nat → Prop
  | [], _, _ => True
  | x :: xs, b, o => (∃ u, S b o = some u ∧ CV S x noNm u) ∧ CC S xs b (o + 1)
end

/-- A name may go on: a block is where it was, a row that grows is longer or as it was. -/
def Goes (u u' : Value) : Prop := u' = u ∨ ∃ A n c A' n' c', n < n' ∧ ((u = .slice A n c ∧ u' = .slice A' n' c') ∨ (u = .iface 0 (.slice A n c) ∧ u' = .iface 0 (.slice A' n' c')))
theorem Goes.refl (u : Value) : Goes u u := .inl rfl
theorem Goes.trans {a b c : Value} (h : Goes a b) (k : Goes b c) : Goes a c := by
  rcases h with rfl | ⟨A, n, d, A', n', d', hl, h⟩
  · exact k
  · rcases k with rfl | ⟨B, p, e, B', p', e', hk, k⟩
    · exact .inr ⟨_, _, _, _, _, _, hl, h⟩
    · rcases h with ⟨rfl, rfl⟩ | ⟨rfl, rfl⟩
      · rcases k with ⟨h1, rfl⟩ | ⟨h1, _⟩
        · injection h1 with _ h2 _
          subst h2
          exact .inr ⟨_, _, _, _, _, _, by omega, .inl ⟨rfl, rfl⟩⟩
        · cases h1
      · rcases k with ⟨h1, _⟩ | ⟨h1, rfl⟩
        · cases h1
        · injection h1 with _ h1
          injection h1 with _ h2 _
          subst h2
          exact .inr ⟨_, _, _, _, _, _, by omega, .inr ⟨rfl, rfl⟩⟩
theorem Goes.ptr {a : Addr} {u : Value} (h : Goes (.pointer (some a)) u) : u = .pointer (some a) := by
  rcases h with h | ⟨_, _, _, _, _, _, _, ⟨h, _⟩ | ⟨h, _⟩⟩
  · exact h
  · cases h
  · cases h
theorem Goes.slice {A : Option Addr} {n c : Nat} {u : Value} (h : Goes (.slice A n c) u) : u = .slice A n c ∨ ∃ A' n' c', u = .slice A' n' c' ∧ n < n' := by
  rcases h with h | ⟨_, _, _, _, _, _, hl, ⟨h, h'⟩ | ⟨h, _⟩⟩
  · exact .inl h
  · injection h with _ h _
    subst h
    exact .inr ⟨_, _, _, h', hl⟩
  · cases h
theorem Goes.row {A : Option Addr} {n c : Nat} {u : Value} (h : Goes (.iface 0 (.slice A n c)) u) : u = .iface 0 (.slice A n c) ∨ ∃ A' n' c', u = .iface 0 (.slice A' n' c') ∧ n < n' := by
  rcases h with h | ⟨_, _, _, _, _, _, hl, ⟨h, _⟩ | ⟨h, h'⟩⟩
  · exact .inl h
  · cases h
  · injection h with _ h
    injection h with _ h _
    subst h
    exact .inr ⟨_, _, _, h', hl⟩
theorem Goes.map {x : Option Nat} {u : Value} (h : Goes (.map x) u) : u = .map x := by
  rcases h with h | ⟨_, _, _, _, _, _, _, ⟨h, _⟩ | ⟨h, _⟩⟩
  · exact h
  · cases h
  · cases h
def MLe (m m' : Nm) : Prop := ∀ k u, m k = some u → ∃ u', m' k = some u' ∧ Goes u u'
theorem MLe.refl (m : Nm) : MLe m m := fun _ u h => ⟨u, h, .refl u⟩
theorem MLe.trans {a b c : Nm} (h : MLe a b) (k : MLe b c) : MLe a c := fun i u e => by
  obtain ⟨v, hv, h1⟩ := h i u e
  obtain ⟨x, hx, h2⟩ := k i v hv
  exact ⟨x, hx, h1.trans h2⟩
theorem MLe.no (m : Nm) : MLe noNm m := fun _ _ h => by cases h

mutual
/-- The name k does not occur. -/
def nn (k : Nat) : AV → Bool
  | .agg cs => nnl k cs
  | .tup cs => nnl k cs
  | .fn _ cs => nnl k cs
  | .ptr j _ => !(Nat.beq j k)
  | .acc j _ _ => !(Nat.beq j k)
  | .ms j _ _ _ _ => !(Nat.beq j k)
  | .rw j _ _ => !(Nat.beq j k)
  | .mw j _ _ _ _ _ => !(Nat.beq j k)
  | .prw j _ _ _ _ => !(Nat.beq j k)
  | .frz j _ _ _ => !(Nat.beq j k)
  | .mpv j => !(Nat.beq j k)
  | _ => true
def nnl (k : Nat) : List AV → Bool
  | [] => true
  | x :: xs => nn k x && nnl k xs
end

mutual
theorem CV.mono {S S' : Pin} (hS : Ext S S') : ∀ (x : AV) (m m' : Nm) (v : Value), (∀ k u, nn k x = false → m k = some u → ∃ u', m' k = some u' ∧ Goes u u') → CV S x m v → CV S' x m' v
  | .int _ _, _, _, _, _, h => by simp only [CV] at h ⊢; exact h
  | .bool _, _, _, _, _, h => by simp only [CV] at h ⊢; exact h
  | .str _, _, _, _, _, h => by simp only [CV] at h ⊢; exact h
  | .nils, _, _, _, _, h => by simp only [CV] at h ⊢; exact h
  | .nilp, _, _, _, _, h => by simp only [CV] at h ⊢; exact h
  | .undef, _, _, _, _, h => by simp only [CV] at h ⊢; exact h
  | .dead, _, _, _, _, _ => by simp only [CV]
  | .agg cs, m, m', v, hm, h => by
    simp only [CV] at h ⊢
    obtain ⟨us, e, h⟩ := h
    exact ⟨us, e, CVl.mono hS cs m m' _ (fun k u hk => hm k u (by simpa only [nn] using hk)) h⟩
  | .tup cs, m, m', v, hm, h => by
    simp only [CV] at h ⊢
    obtain ⟨us, e, h⟩ := h
    exact ⟨us, e, CVl.mono hS cs m m' _ (fun k u hk => hm k u (by simpa only [nn] using hk)) h⟩
  | .fn f cs, m, m', v, hm, h => by
    simp only [CV] at h ⊢
    obtain ⟨us, e, h⟩ := h
    exact ⟨us, e, CVl.mono hS cs m m' _ (fun k u hk => hm k u (by simpa only [nn] using hk)) h⟩
  | .sl s full xs, _, _, _, _, h => by
    simp only [CV] at h ⊢
    obtain ⟨A, c, e, h1, h2, h3, h4, h5⟩ := h
    exact ⟨A, c, e, h1, h2, h3, h4, fun a ha => ⟨(h5 a ha).1, CE.mono hS xs s _ _ (h5 a ha).2⟩⟩
  | .ro cs, _, _, _, _, h => by
    simp only [CV] at h ⊢
    obtain ⟨b, o, e, h⟩ := h
    exact ⟨b, o, e, CC.mono hS cs b o h⟩
  | .ptr k off, m, m', v, hm, h => by
    simp only [CV] at h ⊢
    obtain ⟨g, h1, h2⟩ := h
    obtain ⟨u, hu, hg⟩ := hm k _ (by simp [nn]) h1
    exact ⟨g, by rw [hu, hg.ptr], h2⟩
  | .mpv k, m, m', v, hm, h => by
    simp only [CV] at h ⊢
    obtain ⟨g, h1, h2⟩ := h
    obtain ⟨u, hu, hg⟩ := hm k _ (by simp [nn]) h1
    exact ⟨g, by rw [hu, hg.map], h2⟩
  | .ms k off n c s, m, m', v, hm, h => by
    simp only [CV] at h ⊢
    obtain ⟨g, o, h1, h2⟩ := h
    obtain ⟨u, hu, hg⟩ := hm k _ (by simp [nn]) h1
    exact ⟨g, o, by rw [hu, hg.ptr], h2⟩
  | .rw k s n, m, m', v, hm, h => by
    simp only [CV] at h ⊢
    obtain ⟨h0, A, q, c, h1, h2, h3⟩ := h
    refine ⟨h0, ?_⟩
    obtain ⟨u, hu, hg⟩ := hm k _ (by simp [nn]) h1
    rcases hg.row with rfl | ⟨A2, q2, c2, rfl, hlt⟩
    · exact ⟨A, q, c, hu, h2, h3⟩
    · exact ⟨A2, q2, c2, hu, by omega, fun e => by omega⟩
  | .mw k s q eo n full, m, m', v, hm, h => by
    simp only [CV] at h ⊢
    obtain ⟨A, c, e, h1, h2, h3, h4, h5, A1, q1, c1, h6, h7, h8⟩ := h
    refine ⟨A, c, e, h1, h2, h3, h4, h5, ?_⟩
    obtain ⟨u, hu, hg⟩ := hm k _ (by simp [nn]) h6
    rcases hg.row with rfl | ⟨A2, q2, c2, rfl, hlt⟩
    · exact ⟨A1, q1, c1, hu, h7, h8⟩
    · exact ⟨A2, q2, c2, hu, by omega, fun e => by omega⟩
  | .prw k s q j fo, m, m', v, hm, h => by
    simp only [CV] at h ⊢
    obtain ⟨a, e, hsp, A1, q1, c1, h6, h7, h8⟩ := h
    refine ⟨a, e, hsp, ?_⟩
    obtain ⟨u, hu, hg⟩ := hm k _ (by simp [nn]) h6
    rcases hg.row with rfl | ⟨A2, q2, c2, rfl, hlt⟩
    · exact ⟨A1, q1, c1, hu, h7, h8⟩
    · exact ⟨A2, q2, c2, hu, by omega, fun e => by omega⟩
  | .frz k s n xs, m, m', v, hm, h => by
    simp only [CV] at h ⊢
    obtain ⟨h0, h⟩ := h
    refine ⟨h0, fun hn => ?_⟩
    obtain ⟨⟨A, c, e, h1, h2, h3, h4⟩, B, p, d, h5, h6, h7⟩ := h hn
    refine ⟨⟨A, c, e, h1, h2, h3, fun a ha => ⟨(h4 a ha).1, CE.mono hS xs s _ _ (h4 a ha).2⟩⟩, ?_⟩
    obtain ⟨u, hu, hg⟩ := hm k _ (by simp [nn]) h5
    rcases hg.slice with rfl | ⟨A2, n2, c2, rfl, hlt⟩
    · exact ⟨B, p, d, hu, h6, h7⟩
    · exact ⟨A2, n2, c2, hu, by omega, fun hh => by omega⟩
  | .acc k s xs, m, m', v, hm, h => by
    simp only [CV] at h ⊢
    obtain ⟨⟨A, c, e, h1, h2, h3, h4⟩, B, n, d, h5, h6, h7⟩ := h
    refine ⟨⟨A, c, e, h1, h2, h3, fun a ha => ⟨(h4 a ha).1, CE.mono hS xs s _ _ (h4 a ha).2⟩⟩, ?_⟩
    obtain ⟨u, hu, hg⟩ := hm k _ (by simp [nn]) h5
    rcases hg.slice with rfl | ⟨A2, n2, c2, rfl, hlt⟩
    · exact ⟨B, n, d, hu, h6, h7⟩
    · exact ⟨A2, n2, c2, hu, by omega, fun hh => by omega⟩
theorem CVl.mono {S S' : Pin} (hS : Ext S S') : ∀ (xs : List AV) (m m' : Nm) (vs : List Value), (∀ k u, nnl k xs = false → m k = some u → ∃ u', m' k = some u' ∧ Goes u u') → CVl S xs m vs → CVl S' xs m' vs
  | [], _, _, _, _, h => by simp only [CVl] at h ⊢; exact h
  | x :: xs, m, m', vs, hm, h => by
    simp only [CVl] at h ⊢
    obtain ⟨u, us, e, h1, h2⟩ := h
    exact ⟨u, us, e, CV.mono hS x m m' u (fun k v hk => hm k v (by simp only [nnl, hk, Bool.false_and])) h1, CVl.mono hS xs m m' us (fun k v hk => hm k v (by simp only [nnl, hk, Bool.and_false])) h2⟩
theorem CE.mono {S S' : Pin} (hS : Ext S S') : ∀ (xs : List (List AV)) (s b o : Nat), CE S xs s b o → CE S' xs s b o
  | [], _, _, _, _ => by simp only [CE]
  | x :: xs, s, b, o, h => by
    simp only [CE] at h ⊢
    exact ⟨h.1, CC.mono hS x b o h.2.1, CE.mono hS xs s b (o + s) h.2.2⟩
theorem CC.mono {S S' : Pin} (hS : Ext S S') : ∀ (xs : List AV) (b o : Nat), CC S xs b o → CC S' xs b o
  | [], _, _, _ => by simp only [CC]
  | x :: xs, b, o, h => by
    simp only [CC] at h ⊢
    obtain ⟨⟨u, hu, hx⟩, h2⟩ := h
    exact ⟨⟨u, hS _ _ _ hu, CV.mono hS x noNm noNm u (fun k v _ hk => ⟨v, hk, .refl v⟩) hx⟩, CC.mono hS xs b (o + 1) h2⟩
end
theorem CV.ext {S S' : Pin} {x : AV} {m m' : Nm} {v : Value} (h : CV S x m v) (hS : Ext S S') (hm : MLe m m') : CV S' x m' v := CV.mono hS x m m' v (fun k u _ e => hm k u e) h
/-- The name k set anew. -/
def Nm.set (m : Nm) (k : Nat) (u : Value) : Nm := fun j => if j = k then some u else m j
theorem CV.set {S : Pin} {x : AV} {m : Nm} {v u : Value} {k : Nat} (h : CV S x m v) (hk : nn k x = true) : CV S x (m.set k u) v :=
  CV.mono (Ext.refl S) x m _ v (fun j w hj e => ⟨w, by
    have : j ≠ k := by rintro rfl; rw [hk] at hj; cases hj
    simp [Nm.set, this, e], .refl w⟩) h
theorem CVl.ext {S S' : Pin} {x : List AV} {m m' : Nm} {v : List Value} (h : CVl S x m v) (hS : Ext S S') (hm : MLe m m') : CVl S' x m' v := CVl.mono hS x m m' v (fun k u _ e => hm k u e) h
theorem CVl.len {S : Pin} : ∀ {xs : List AV} {m : Nm} {vs : List Value}, CVl S xs m vs → vs.length = xs.length
  | [], _, _, h => by simp only [CVl] at h; simp [h]
  | x :: xs, m, vs, h => by
    simp only [CVl] at h
    obtain ⟨u, us, rfl, _, h2⟩ := h
    simp [CVl.len h2]
theorem CVl.get {S : Pin} : ∀ {xs : List AV} {m : Nm} {vs : List Value}, CVl S xs m vs → ∀ {j : Nat} {x : AV}, xs[j]? = some x → ∃ v, vs[j]? = some v ∧ CV S x m v
  | [], _, _, _, j, x, e => by simp at e
  | y :: ys, m, vs, h, j, x, e => by
    simp only [CVl] at h
    obtain ⟨u, us, rfl, h1, h2⟩ := h
    cases j with
    | zero => simp at e; subst e; exact ⟨u, rfl, h1⟩
    | succ j => simp at e; obtain ⟨v, hv, hx⟩ := CVl.get h2 e; exact ⟨v, by simpa using hv, hx⟩
theorem CVl.mk {S : Pin} : ∀ {xs : List AV} {m : Nm} {vs : List Value}, vs.length = xs.length → (∀ (j : Nat) (x : AV) (v : Value), xs[j]? = some x → vs[j]? = some v → CV S x m v) → CVl S xs m vs
  | [], _, vs, hl, _ => by simp only [CVl]; exact List.eq_nil_of_length_eq_zero hl
  | x :: xs, m, [], hl, _ => by simp at hl
  | x :: xs, m, v :: vs, hl, h => by
    simp only [CVl]
    exact ⟨v, vs, rfl, h 0 x v rfl rfl, CVl.mk (by simpa using hl) (fun j y w e1 e2 => h (j + 1) y w (by simpa using e1) (by simpa using e2))⟩
theorem CC.get {S : Pin} : ∀ {xs : List AV} {b o : Nat}, CC S xs b o → ∀ {j : Nat} {x : AV}, xs[j]? = some x → ∃ u, S b (o + j) = some u ∧ CV S x noNm u
  | [], _, _, _, j, x, e => by simp at e
  | y :: ys, b, o, h, j, x, e => by
    simp only [CC] at h
    cases j with
    | zero => simp at e; subst e; exact h.1
    | succ j =>
      simp at e
      obtain ⟨u, hu, hx⟩ := CC.get h.2 e
      exact ⟨u, by rw [← hu, show o + 1 + j = o + (j + 1) by omega], hx⟩
theorem CC.mk {S : Pin} : ∀ {xs : List AV} {b o : Nat}, (∀ (j : Nat) (x : AV), xs[j]? = some x → ∃ u, S b (o + j) = some u ∧ CV S x noNm u) → CC S xs b o
  | [], _, _, _ => by simp only [CC]
  | y :: ys, b, o, h => by
    simp only [CC]
    exact ⟨by simpa using h 0 y rfl, CC.mk (fun j x e => by
      obtain ⟨u, hu, hx⟩ := h (j + 1) x (by simpa using e)
      exact ⟨u, by rw [← hu, show o + (j + 1) = o + 1 + j by omega], hx⟩)⟩
theorem CC.drop {S : Pin} {xs : List AV} {b o : Nat} (h : CC S xs b o) (d : Nat) : CC S (xs.drop d) b (o + d) :=
  CC.mk fun j x e => by
    rw [List.getElem?_drop] at e
    obtain ⟨u, hu, hx⟩ := h.get e
    exact ⟨u, by rw [← hu]; congr 1; omega, hx⟩
theorem CC.take {S : Pin} {xs : List AV} {b o : Nat} (h : CC S xs b o) (d : Nat) : CC S (xs.take d) b o :=
  CC.mk fun j x e => h.get (by rw [List.getElem?_take] at e; split at e <;> simp_all)
theorem CE.get {S : Pin} : ∀ {xs : List (List AV)} {s b o : Nat}, CE S xs s b o → ∀ {j : Nat} {x : List AV}, xs[j]? = some x → x.length = s ∧ CC S x b (o + j * s)
  | [], _, _, _, _, j, x, e => by simp at e
  | y :: ys, s, b, o, h, j, x, e => by
    simp only [CE] at h
    cases j with
    | zero => simp at e; subst e; exact ⟨h.1, by simpa using h.2.1⟩
    | succ j =>
      simp at e
      have := CE.get h.2.2 e
      exact ⟨this.1, by rw [show o + (j + 1) * s = o + s + j * s by rw [Nat.add_mul]; omega]; exact this.2⟩
theorem CE.mk {S : Pin} : ∀ {xs : List (List AV)} {s b o : Nat}, (∀ (j : Nat) (x : List AV), xs[j]? = some x → x.length = s ∧ CC S x b (o + j * s)) → CE S xs s b o
  | [], _, _, _, _ => by simp only [CE]
  | y :: ys, s, b, o, h => by
    simp only [CE]
    have h0 := h 0 y rfl
    exact ⟨h0.1, by simpa using h0.2, CE.mk (fun j x e => by
      have := h (j + 1) x (by simpa using e)
      exact ⟨this.1, by rw [show o + s + j * s = o + (j + 1) * s by rw [Nat.add_mul]; omega]; exact this.2⟩)⟩
theorem CE.drop {S : Pin} {xs : List (List AV)} {s b o : Nat} (h : CE S xs s b o) (d : Nat) : CE S (xs.drop d) s b (o + d * s) :=
  CE.mk fun j x e => by
    rw [List.getElem?_drop] at e
    have := h.get e
    exact ⟨this.1, by rw [show o + d * s + j * s = o + (d + j) * s by rw [Nat.add_mul]; omega]; exact this.2⟩
theorem CE.take {S : Pin} {xs : List (List AV)} {s b o : Nat} (h : CE S xs s b o) (d : Nat) : CE S (xs.take d) s b o :=
  CE.mk fun j x e => h.get (by rw [List.getElem?_take] at e; split at e <;> simp_all)
mutual
/-- The numbers of a value are of their kinds. -/
def wfA : AV → Prop
  | .int k n => rng k n
  | .str s => s.size ≤ 9223372036854775807
  | .agg cs => wfL cs
  | .tup cs => wfL cs
  | _ => True
def wfL : List AV → Prop
  | [] => True
  | x :: xs => wfA x ∧ wfL xs
end
mutual
theorem wfA_cv {S : Pin} : ∀ (x : AV) (m : Nm) (v : Value), CV S x m v → wfA x
  | .int k n, m, v, h => by simp only [CV] at h; simp only [wfA]; exact h.2
  | .str s, m, v, h => by simp only [CV] at h; simp only [wfA]; exact h.2
  | .agg cs, m, v, h => by
    simp only [CV] at h
    obtain ⟨us, _, hu⟩ := h
    simp only [wfA]
    exact wfL_cv cs m _ hu
  | .tup cs, m, v, h => by
    simp only [CV] at h
    obtain ⟨us, _, hu⟩ := h
    simp only [wfA]
    exact wfL_cv cs m _ hu
  | .bool _, _, _, _ => by simp only [wfA]
  | .sl _ _ _, _, _, _ => by simp only [wfA]
  | .nils, _, _, _ => by simp only [wfA]
  | .ro _, _, _, _ => by simp only [wfA]
  | .nilp, _, _, _ => by simp only [wfA]
  | .fn _ _, _, _, _ => by simp only [wfA]
  | .ptr _ _, _, _, _ => by simp only [wfA]
  | .acc _ _ _, _, _, _ => by simp only [wfA]
  | .ms _ _ _ _ _, _, _, _ => by simp only [wfA]
  | .rw _ _ _, _, _, _ => by simp only [wfA]
  | .mw _ _ _ _ _ _, _, _, _ => by simp only [wfA]
  | .prw _ _ _ _ _, _, _, _ => by simp only [wfA]
  | .frz _ _ _ _, _, _, _ => by simp only [wfA]
  | .mpv _, _, _, _ => by simp only [wfA]
  | .undef, _, _, _ => by simp only [wfA]
  | .dead, _, _, _ => by simp only [wfA]
theorem wfL_cv {S : Pin} : ∀ (xs : List AV) (m : Nm) (vs : List Value), CVl S xs m vs → wfL xs
  | [], _, _, _ => by simp only [wfL]
  | x :: xs, m, vs, h => by
    simp only [CVl] at h
    obtain ⟨u, us, _, h1, h2⟩ := h
    simp only [wfL]
    exact ⟨wfA_cv x m u h1, wfL_cv xs m us h2⟩
end
end Go.Proofs.YthdfkiopppkfcaaDoor
