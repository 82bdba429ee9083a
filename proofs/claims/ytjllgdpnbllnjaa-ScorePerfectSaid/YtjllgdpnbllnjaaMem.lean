/- Words for memory used by this seat's proofs: a block known whole, a slice that reads as a list of cells, and how both are kept. -/
import Derived.WalkKit
import Derived.WalkSpells
import Derived.WalkLawsBesides
import Derived.Lib.Hide
import Derived.Deep.QuietTactic
import Derived.BigQuiet
import Derived.OwnWalk
import Derived.Deep.Draws
namespace Go.Proofs.Ytjllgdpnbllnjaa
open Go.RowKit

/-- Block g is the row cs of element type t, nothing of it frozen. -/
def Blk (w : World) (g : Nat) (t : TypeId) (cs : Array Value) : Prop := w.heap[g]? = some (.cells cs t (0, 0))

/-- The address A leads to the cells xs, in a block below B. -/
def Rd (w : World) (B : Nat) (A : Option Addr) (xs : List Value) : Prop :=
  ∃ b o, (xs ≠ [] → A = some ⟨b, o, none⟩ ∧ b < B) ∧ ∀ j u, xs[j]? = some u → w.cell? ⟨b, o + j, none⟩ = some u

section
variable {w w' : World} {g B B' : Nat} {t : TypeId} {cs : Array Value} {A : Option Addr} {xs : List Value}
theorem Blk.lt (h : Blk w g t cs) : g < w.heap.size := by
  unfold Blk at h
  exact (Array.getElem?_eq_some_iff.1 h).1
theorem Blk.cell (h : Blk w g t cs) (i : Nat) : w.cell? ⟨g, i, none⟩ = cs[i]? := by
  unfold Blk at h
  simp [World.cell?, h]
theorem Blk.frozen (h : Blk w g t cs) (i : Nat) : w.frozen? ⟨g, i, none⟩ = false := by
  unfold Blk at h
  simp [World.frozen?, h]
theorem Blk.new (w : World) (t : TypeId) (cs : Array Value) : Blk (w.alloc (.cells cs t)) w.heap.size t cs := by
  show (w.heap.push _)[w.heap.size]? = _
  simp
theorem Blk.drew (h : Blk w g t cs) : Blk w.drew g t cs := h
theorem Blk.drewN (h : Blk w g t cs) (n : Nat) : Blk (w.drewN n) g t cs := h
theorem Blk.alloc (h : Blk w g t cs) (o : Obj) : Blk (w.alloc o) g t cs := (Below.heap_alloc w o g h.lt).trans h
theorem Blk.put (h : Blk w g t cs) (i : Nat) (u : Value) : Blk (w.setCell ⟨g, i, none⟩ u) g t (cs.setIfInBounds i u) := by
  unfold Blk at h ⊢
  simp [World.setCell, Array.getElem?_modify, h]
theorem Blk.puts {cs' : Array Value} (h : Blk w g t cs) (i : Nat) (u : Value) (hcs : cs.setIfInBounds i u = cs') : Blk (w.setCell ⟨g, i, none⟩ u) g t cs' := hcs ▸ h.put i u
theorem Blk.far (h : Blk w g t cs) {p : Addr} (hp : g ≠ p.block) (u : Value) : Blk (w.setCell p u) g t cs := (Below.heap_setCell w p u g hp).trans h
theorem Blk.below (h : Blk w g t cs) (hb : Below B w w') (hg : g < B) : Blk w' g t cs := (hb.block g hg).trans h
theorem Blk.grown {row : Option Nat} (h : Blk w g t cs) (hb : w.grownBy w' row) (hg : some g ≠ row) : Blk w' g t cs := (hb.block g h.lt hg).trans h
theorem Blk.differ {g' : Nat} {t' : TypeId} {cs' : Array Value} (h : Blk w g t cs) (h' : Blk w g' t' cs') (hne : t ≠ t') : g ≠ g' := by
  rintro rfl
  unfold Blk at h h'
  rw [h] at h'
  injection h' with h'
  injection h' with _ ht
  exact hne ht
theorem own_blk_ne {base : Nat} {e : TypeId} {size n : Nat} {v : Value} {ys : List Value} (h : w.ownsRow base e size v n ys) (hg : Blk w g t cs) (hne : e ≠ t) : v.ownBlock ≠ some g := by
  rcases h.2 with ⟨rfl, _⟩ | ⟨g', cap, cur, rfl, _, hh, _⟩
  · simp [Value.ownBlock]
  · intro he
    have : g' = g := by simpa [Value.ownBlock] using he
    subst this
    exact Blk.differ (t := e) hh hg hne rfl

theorem Rd.nil_ : Rd w B A [] := ⟨0, 0, by simp, by simp⟩
theorem Rd.at_ (h : Rd w B A xs) {k : Nat} (hk : k < xs.length) : ∃ b o, A = some ⟨b, o, none⟩ ∧ b < B ∧ ∀ j u, xs[j]? = some u → w.cell? ⟨b, o + j, none⟩ = some u := by
  obtain ⟨b, o, h1, h2⟩ := h
  have hne : xs ≠ [] := by rintro rfl; simp at hk
  exact ⟨b, o, (h1 hne).1, (h1 hne).2, h2⟩
theorem Rd.keep (h : Rd w B A xs) (hk : ∀ p : Addr, p.block < B → w'.cell? p = w.cell? p) : Rd w' B A xs := by
  obtain ⟨b, o, h1, h2⟩ := h
  refine ⟨b, o, h1, fun j u hu => ?_⟩
  have hne : xs ≠ [] := by rintro rfl; simp at hu
  exact (hk _ (h1 hne).2).trans (h2 j u hu)
theorem Rd.more (h : Rd w B A xs) (hB : B ≤ B') : Rd w B' A xs := by
  obtain ⟨b, o, h1, h2⟩ := h
  exact ⟨b, o, fun hne => ⟨(h1 hne).1, Nat.lt_of_lt_of_le (h1 hne).2 hB⟩, h2⟩
theorem Rd.below (h : Rd w B A xs) (hb : Below B w w') : Rd w' B A xs := h.keep fun _ hp => hb.cell hp
theorem Rd.drew (h : Rd w B A xs) : Rd w.drew B A xs := h
theorem Rd.drewN (h : Rd w B A xs) (n : Nat) : Rd (w.drewN n) B A xs := h
theorem Rd.alloc (h : Rd w B A xs) (hB : B ≤ w.heap.size) (o : Obj) : Rd (w.alloc o) B A xs := h.keep fun p hp => World.cell?_alloc_lt w o p (by omega)
theorem Rd.setCell (h : Rd w B A xs) {p : Addr} (hB : B ≤ p.block) (u : Value) : Rd (w.setCell p u) B A xs :=
  h.keep fun q hq => World.cell?_setCell_other w p q u (fun e => by subst e; omega)
theorem Rd.off (h : Rd w B A xs) {lo : Nat} (hlo : ∀ a, A = some a → lo ≤ a.block) {p : Addr} (hp : p.block < lo) (u : Value) : Rd (w.setCell p u) B A xs := by
  obtain ⟨b, o, h1, h2⟩ := h
  refine ⟨b, o, h1, fun j v hv => ?_⟩
  have hne : xs ≠ [] := by rintro rfl; simp at hv
  have := hlo _ (h1 hne).1
  rw [World.cell?_setCell_other w p ⟨b, o + j, none⟩ u (fun e => by subst e; simp at hp; simp at this; omega)]
  exact h2 j v hv
theorem Rd.grown (h : Rd w B A xs) {row : Option Nat} (hg : w.grownBy w' row) (hB : B ≤ w.heap.size) (hr : ∀ k, row = some k → B ≤ k) : Rd w' B A xs :=
  h.keep fun p hp => World.cell?_of_block (hg.block p.block (by omega) (fun e => by have := hr _ e.symm; omega))
theorem Rd.of_own {base : Nat} {e : TypeId} {c n size : Nat} (h : w.ownsRow base e size (.slice A n c) n xs) : Rd w w.heap.size A xs := by
  rcases h.2 with ⟨hv, hn⟩ | ⟨g, cap, cur, hv, _, hh, _⟩
  · have hx : xs = [] := by first | exact hn | exact List.eq_nil_of_length_eq_zero (by simpa [hn] using h.1)
    rw [hx]; exact Rd.nil_
  · have hA : A = some ⟨g, 0, none⟩ := by injection hv
    subst hA
    refine ⟨g, 0, fun _ => ⟨rfl, (Array.getElem?_eq_some_iff.1 hh).1⟩, fun j u hu => ?_⟩
    have := h.cells (g := g) rfl j u hu
    unfold Addr.add at this
    by_cases hj : j = 0
    · subst hj; simpa using this
    · simpa [hj] using this
theorem Rd.of_blk (h : Blk w g t cs) : Rd w w.heap.size (some ⟨g, 0, none⟩) cs.toList := by
  refine ⟨g, 0, fun _ => ⟨rfl, h.lt⟩, fun j u hu => ?_⟩
  rw [h.cell]
  simpa using hu

theorem grown_trans {a b c : World} {row : Option Nat} (h : a.grownBy b row) (k : b.grownBy c row) : a.grownBy c row :=
  ⟨k.os.trans h.os, k.tape.trans h.tape, k.output.trans h.output, Nat.le_trans h.size k.size, fun i hi hne => (k.block i (Nat.lt_of_lt_of_le hi h.size) hne).trans (h.block i hi hne)⟩
theorem grown_refl (a : World) (row : Option Nat) : a.grownBy a row := ⟨rfl, rfl, rfl, Nat.le_refl _, fun _ _ _ => rfl⟩
theorem grown_drewN {a b : World} {row : Option Nat} (h : a.grownBy b row) (n : Nat) : a.grownBy (b.drewN n) row := ⟨h.os, h.tape, h.output, h.size, h.block⟩
theorem grown_drew {a b : World} {row : Option Nat} (h : a.grownBy b row) : a.grownBy b.drew row := ⟨h.os, h.tape, h.output, h.size, h.block⟩
theorem grown_alloc {a b : World} {row : Option Nat} (h : a.grownBy b row) (o : Obj) : a.grownBy (b.alloc o) row :=
  grown_trans h (World.grownBy_alloc b o row)
theorem grown_put {a b : World} (h : a.grownBy b (some g)) {p : Addr} (hp : p.block = g ∨ a.heap.size ≤ p.block) (u : Value) : a.grownBy (b.setCell p u) (some g) :=
  ⟨h.os, h.tape, h.output, by simpa [World.setCell] using h.size, fun i hi hne => (Below.heap_setCell b p u i (by
    rintro rfl
    rcases hp with hp | hp
    · exact hne (by rw [hp])
    · omega)).trans (h.block i hi hne)⟩
theorem grown_below {a b : World} (h : Below a.heap.size a b) (row : Option Nat) : a.grownBy b row := ⟨h.os, h.tape, h.output, h.size, fun i hi _ => h.block i hi⟩
theorem below_grown {a b : World} {row : Option Nat} (h : a.grownBy b row) (hB : B ≤ a.heap.size) (hr : ∀ k, row = some k → B ≤ k) : Below B a b :=
  (Below.refl B a).grown h hB hr
end
theorem ret_int {k : IntKind} {a b : Int} (h : a = b) : Ending.returned (.int k a) = .returned (.int k b) := by rw [h]
theorem ret_bool {a b : Bool} (h : a = b) : Ending.returned (.bool a) = .returned (.bool b) := by rw [h]
theorem Rd.lit (W : World) (t : TypeId) (cs : Array Value) {g : Nat} (hg : g = W.heap.size) : Rd (W.alloc (.cells cs t)) (W.alloc (.cells cs t)).heap.size (some ⟨g, 0, none⟩) cs.toList := by
  subst hg
  exact Rd.of_blk (Blk.new _ _ _)
/-! Steps without arithmetic: what holds of the world W up to its own size goes on to a new block and behind a call. -/
theorem ext_next {a W w1 : World} (h : Below a.heap.size a W) (k : Below W.heap.size W w1) : Below a.heap.size a w1 := h.trans (k.mono h.size)
theorem ext_alloc {a W : World} (h : Below a.heap.size a W) (o : Obj) : Below a.heap.size a (W.alloc o) := h.alloc h.size o
theorem ext_drewN {a W : World} (h : Below a.heap.size a W) (n : Nat) : Below a.heap.size a (W.drewN n) := ⟨h.os, h.tape, h.output, h.size, h.block⟩
theorem ext_drew {a W : World} (h : Below a.heap.size a W) : Below a.heap.size a W.drew := ⟨h.os, h.tape, h.output, h.size, h.block⟩
theorem rd_alloc {W : World} {A : Option Addr} {xs : List Value} (h : Rd W W.heap.size A xs) (o : Obj) : Rd (W.alloc o) (W.alloc o).heap.size A xs := (h.alloc (Nat.le_refl _) o).more (by simp)
theorem rd_next {W w1 : World} {A : Option Addr} {xs : List Value} (h : Rd W W.heap.size A xs) (k : Below W.heap.size W w1) : Rd w1 w1.heap.size A xs := (h.below k).more k.size
theorem rd_ext {a W : World} {A : Option Addr} {xs : List Value} (h : Rd a a.heap.size A xs) (k : Below a.heap.size a W) : Rd W W.heap.size A xs := (h.below k).more k.size
theorem blk_next {W w1 : World} {g : Nat} {t : TypeId} {cs : Array Value} (h : Blk W g t cs) (k : Below W.heap.size W w1) : Blk w1 g t cs := h.below k h.lt
theorem blk_new {W : World} {g : Nat} (t : TypeId) (cs : Array Value) (hg : g = W.heap.size) : Blk (W.alloc (.cells cs t)) g t cs := by
  subst hg; exact Blk.new _ _ _
theorem bcell {W w1 : World} (hb : Below W.heap.size W w1) : (∀ b o, b < W.heap.size → w1.cell? ⟨b, o, none⟩ = W.cell? ⟨b, o, none⟩) ∧ (∀ b o, b < W.heap.size → w1.frozen? ⟨b, o, none⟩ = W.frozen? ⟨b, o, none⟩) :=
  ⟨fun b o h => hb.cell (p := ⟨b, o, none⟩) h, fun b o h => hb.frozen (p := ⟨b, o, none⟩) h⟩
theorem bcellB {B : Nat} {W w1 : World} (hb : Below B W w1) : (∀ b o, b < B → w1.cell? ⟨b, o, none⟩ = W.cell? ⟨b, o, none⟩) ∧ (∀ b o, b < B → w1.frozen? ⟨b, o, none⟩ = W.frozen? ⟨b, o, none⟩) :=
  ⟨fun b o h => hb.cell (p := ⟨b, o, none⟩) h, fun b o h => hb.frozen (p := ⟨b, o, none⟩) h⟩
theorem hidI {p : Prop} (h : p) : Hid p := h
end Go.Proofs.Ytjllgdpnbllnjaa
