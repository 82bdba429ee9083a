/- What a walk knows of memory, in one fact: old memory as it was, own blocks known whole, slices that read as lists, blocks of objects kept elsewhere, rows of the call's own that grow. -/
import Derived.Test.YtjllgdpnbllnjaaMem
import Derived.Maps.AppendAt
namespace Go.Proofs.Ytjllgdpnbllnjaa
open Go.RowKit

/-- A row of the call's own: the slice's value, the element's type and size, how many, the cells. -/
structure Ow where
  v : Value
  e : TypeId
  size : Nat
  n : Nat
  xs : List Value
/-- The blocks of such rows. -/
def obl (O : List Ow) : List Nat := O.filterMap fun r => r.v.ownBlock
/-- Since world a: what lay below is as it was; the blocks L are known whole; the slices R read as listed; the blocks G are left to others; the rows O are the call's own. -/
structure Mo (a w : World) (L : List (Nat × TypeId × Array Value)) (R : List (Option Addr × List Value)) (G : List Nat) (O : List Ow) : Prop where
  below : Below a.heap.size a w
  blk : ∀ x ∈ L, Blk w x.1 x.2.1 x.2.2
  rd : ∀ r ∈ R, Rd w w.heap.size r.1 r.2
  own : ∀ r ∈ O, w.ownsRow a.heap.size r.e r.size r.v r.n r.xs
  nod : (L.map (·.1) ++ G).Nodup
  onod : (obl O).Nodup
  dis : ∀ g ∈ obl O, g ∉ L.map (·.1) ++ G
  lo : ∀ g ∈ L.map (·.1) ++ G, a.heap.size ≤ g
  hi : ∀ g ∈ L.map (·.1) ++ G, g < w.heap.size
  sep : ∀ r ∈ R, ∀ ad, r.1 = some ad → r.2 ≠ [] → ad.block ∉ L.map (·.1) ++ G
  osep : ∀ r ∈ R, ∀ ad, r.1 = some ad → r.2 ≠ [] → ad.block ∉ obl O
abbrev Mm (a w : World) (L : List (Nat × TypeId × Array Value)) (R : List (Option Addr × List Value)) (G : List Nat) : Prop := Mo a w L R G []

theorem own_keep {w w' : World} {base e size n : Nat} {v : Value} {xs : List Value} (h : w.ownsRow base e size v n xs) (hk : ∀ g, v.ownBlock = some g → w'.heap[g]? = w.heap[g]?) : w'.ownsRow base e size v n xs := by
  refine ⟨h.1, ?_⟩
  rcases h.2 with hn | ⟨g, cap, cur, rfl, hb, hg, rest⟩
  · exact .inl hn
  · exact .inr ⟨g, cap, cur, rfl, hb, (hk g rfl).trans hg, rest⟩
theorem own_mem {w : World} {base e size n : Nat} {v : Value} {xs : List Value} (h : w.ownsRow base e size v n xs) {g : Nat} (hg : v.ownBlock = some g) : base ≤ g ∧ g < w.heap.size := by
  rcases h.2 with ⟨rfl, _⟩ | ⟨g', cap, cur, rfl, hb, hh, rest⟩
  · simp [Value.ownBlock] at hg
  · simp [Value.ownBlock] at hg
    subst hg
    exact ⟨hb, (Array.getElem?_eq_some_iff.1 hh).1⟩
theorem own_form {w : World} {base e size n : Nat} {v : Value} {xs : List Value} (h : w.ownsRow base e size v n xs) : ∃ A c, v = .slice A n c ∧ n ≤ c ∧ c ≤ maxLen ∧ (A = none → c = 0) ∧ ∀ ad, A = some ad → base ≤ ad.block := by
  rcases h.2 with ⟨rfl, rfl⟩ | ⟨g, cap, cur, rfl, hb, _, h1, h2, _⟩
  · exact ⟨none, 0, rfl, Nat.le_refl _, by unfold maxLen; omega, fun _ => rfl, fun _ h => by cases h⟩
  · exact ⟨some ⟨g, 0, none⟩, cap, rfl, h1, h2, (fun h => by cases h), fun ad h => by injection h with h; subst h; exact hb⟩
/-- A row of the call's own is no block below its base. -/
theorem own_ne {w : World} {base e size n : Nat} {v : Value} {xs : List Value} (h : w.ownsRow base e size v n xs) {g : Nat} (hg : g < base) : v.ownBlock = none ∨ v.ownBlock ≠ some g := by
  rcases h.2 with ⟨rfl, rfl⟩ | ⟨g', cap, cur, rfl, hb, _, h1, h2, _⟩
  · exact .inl rfl
  · right
    simp [Value.ownBlock]; omega
theorem own_lo {w : World} {base e size n : Nat} {v : Value} {xs : List Value} (h : w.ownsRow base e size v n xs) : ∀ k, v.ownBlock = some k → base ≤ k := fun _ hk => (own_mem h hk).1
theorem own_nil (w : World) (base e size : Nat) : w.ownsRow base e size (.slice none 0 0) 0 [] := ⟨by simp, .inl ⟨rfl, rfl⟩⟩
theorem grown_off {a b c : World} {row row' : Option Nat} (h : a.grownBy b row) (k : b.grownBy c row') (hr : ∀ j, row' = some j → a.heap.size ≤ j) : a.grownBy c row :=
  ⟨k.os.trans h.os, k.tape.trans h.tape, k.output.trans h.output, Nat.le_trans h.size k.size, fun i hi hne => (k.block i (Nat.lt_of_lt_of_le hi h.size) (fun e => by have := hr i e.symm; omega)).trans (h.block i hi hne)⟩
theorem mem_obl {O : List Ow} {g : Nat} : g ∈ obl O ↔ ∃ r ∈ O, r.v.ownBlock = some g := by
  unfold obl; rw [List.mem_filterMap]
theorem Rd.block_lt {w : World} {B : Nat} {A : Option Addr} {xs : List Value} (h : Rd w B A xs) {ad : Addr} (hA : A = some ad) (hne : xs ≠ []) : ad.block < B := by
  obtain ⟨b, o, h1, _⟩ := h
  obtain ⟨h2, h3⟩ := h1 hne
  rw [hA] at h2
  injection h2 with h2
  subst h2; exact h3

section
variable {a w w1 : World} {L : List (Nat × TypeId × Array Value)} {R : List (Option Addr × List Value)} {G : List Nat} {O : List Ow}
theorem Mo.ohi (h : Mo a w L R G O) : ∀ g ∈ obl O, a.heap.size ≤ g ∧ g < w.heap.size := fun g hg => by
  obtain ⟨r, hr, he⟩ := mem_obl.1 hg
  exact own_mem (h.own r hr) he
theorem Mm.start (a : World) : Mm a a [] [] [] := ⟨Below.refl _ _, by simp, by simp, by simp, by simp, by simp [obl], by simp [obl], by simp, by simp, by simp, by simp⟩
theorem Mo.addR (h : Mo a w L R G O) {A : Option Addr} {xs : List Value} (hr : Rd w w.heap.size A xs) (hs : ∀ ad, A = some ad → xs ≠ [] → ad.block ∉ L.map (·.1) ++ G ∧ ad.block ∉ obl O) : Mo a w L ((A, xs) :: R) G O := by
  refine ⟨h.below, h.blk, ?_, h.own, h.nod, h.onod, h.dis, h.lo, h.hi, ?_, ?_⟩
  · intro r hr'
    rcases List.mem_cons.1 hr' with rfl | hr'
    · exact hr
    · exact h.rd r hr'
  · intro r hr' ad hA hne
    rcases List.mem_cons.1 hr' with rfl | hr'
    · exact (hs ad hA hne).1
    · exact h.sep r hr' ad hA hne
  · intro r hr' ad hA hne
    rcases List.mem_cons.1 hr' with rfl | hr'
    · exact (hs ad hA hne).2
    · exact h.osep r hr' ad hA hne
theorem Mo.arg (h : Mo a w L R G O) {A : Option Addr} {xs : List Value} (hr : Rd a a.heap.size A xs) : Mo a w L ((A, xs) :: R) G O :=
  h.addR (rd_ext hr h.below) (fun ad hA hne => by
    have hb := hr.block_lt hA hne
    exact ⟨fun hm => by have := h.lo _ hm; omega, fun hm => by have := (h.ohi _ hm).1; omega⟩)
/-- Whatever leaves the blocks below the heap's end as they were. -/
theorem Mo.next (h : Mo a w L R G O) (hb : Below w.heap.size w w1) : Mo a w1 L R G O :=
  ⟨ext_next h.below hb, fun x hx => blk_next (h.blk x hx) hb, fun r hr => rd_next (h.rd r hr) hb, fun r hr => own_keep (h.own r hr) (fun g hg => hb.block g (own_mem (h.own r hr) hg).2), h.nod, h.onod, h.dis, h.lo, fun g hg => Nat.lt_of_lt_of_le (h.hi g hg) hb.size, h.sep, h.osep⟩
theorem Mo.skip (h : Mo a w L R G O) (o : Obj) : Mo a (w.alloc o) L R G O := h.next (ext_alloc (Below.refl _ _) o)
theorem Mo.drew (h : Mo a w L R G O) : Mo a w.drew L R G O := h.next (ext_drew (Below.refl _ _))
theorem Mo.drewN (h : Mo a w L R G O) (n : Nat) : Mo a (w.drewN n) L R G O := h.next (ext_drewN (Below.refl _ _) n)
theorem Mo.new (h : Mo a w L R G O) (t : TypeId) (cs : Array Value) : Mo a (w.alloc (.cells cs t)) ((w.heap.size, t, cs) :: L) R G O := by
  have hs := h.skip (.cells cs t)
  refine ⟨hs.below, ?_, hs.rd, hs.own, ?_, hs.onod, ?_, ?_, ?_, ?_, h.osep⟩
  · intro x hx
    rcases List.mem_cons.1 hx with rfl | hx
    · exact Blk.new _ _ _
    · exact hs.blk x hx
  · simp only [List.map_cons, List.cons_append, List.nodup_cons]
    exact ⟨fun hm => by have := h.hi _ hm; omega, h.nod⟩
  · intro g hg hm
    simp only [List.map_cons, List.cons_append, List.mem_cons] at hm
    rcases hm with rfl | hm
    · have := (h.ohi _ hg).2; omega
    · exact h.dis g hg hm
  · intro g hg
    simp only [List.map_cons, List.cons_append, List.mem_cons] at hg
    rcases hg with rfl | hg
    · exact h.below.size
    · exact h.lo g hg
  · intro g hg
    simp only [List.map_cons, List.cons_append, List.mem_cons] at hg
    rcases hg with rfl | hg
    · simp
    · exact hs.hi g hg
  · intro r hr ad hA hne hm
    simp only [List.map_cons, List.cons_append, List.mem_cons] at hm
    rcases hm with hm | hm
    · have := (h.rd r hr).block_lt hA hne
      omega
    · exact h.sep r hr ad hA hne hm
theorem Mo.new' (h : Mo a w L R G O) (t : TypeId) (cs : Array Value) {g : Nat} (hg : g = w.heap.size) : Mo a (w.alloc (.cells cs t)) ((g, t, cs) :: L) R G O := hg ▸ h.new t cs
/-- Behind a call that hands back a new slice. -/
theorem Mo.nextR (h : Mo a w L R G O) (hb : Below w.heap.size w w1) {A : Option Addr} {xs : List Value} (hr : Rd w1 w1.heap.size A xs) (hf : ∀ ad, A = some ad → w.heap.size ≤ ad.block) : Mo a w1 L ((A, xs) :: R) G O :=
  (h.next hb).addR hr (fun ad hA _ => ⟨fun hm => by have := h.hi _ hm; have := hf ad hA; omega, fun hm => by have := (h.ohi _ hm).2; have := hf ad hA; omega⟩)
/-- Behind a call that hands back an object in a new block. -/
theorem Mo.nextG (h : Mo a w L R G O) (hb : Below w.heap.size w w1) {g : Nat} (hg : w.heap.size ≤ g) (hl : g < w1.heap.size) : Mo a w1 L R (G ++ [g]) O := by
  have k := h.next hb
  refine ⟨k.below, k.blk, k.rd, k.own, ?_, k.onod, ?_, ?_, ?_, ?_, k.osep⟩
  · rw [← List.append_assoc, List.nodup_append]
    refine ⟨h.nod, by simp, fun x hx y hy => ?_⟩
    simp at hy
    have := h.hi x hx
    omega
  · intro x hx hm
    rw [← List.append_assoc, List.mem_append] at hm
    rcases hm with hm | hm
    · exact h.dis x hx hm
    · simp at hm; have := (h.ohi x hx).2; omega
  · intro x hx
    rw [← List.append_assoc, List.mem_append] at hx
    rcases hx with hx | hx
    · exact h.lo x hx
    · simp at hx; have := h.below.size; omega
  · intro x hx
    rw [← List.append_assoc, List.mem_append] at hx
    rcases hx with hx | hx
    · exact k.hi x hx
    · simp at hx; omega
  · intro r hr ad hA hne hm
    rw [← List.append_assoc, List.mem_append] at hm
    rcases hm with hm | hm
    · exact h.sep r hr ad hA hne hm
    · simp at hm; have := (h.rd r hr).block_lt hA hne; omega
/-- A new row, nil so far. -/
theorem Mo.nil_ (h : Mo a w L R G O) (e size : Nat) : Mo a w L R G (O ++ [⟨.slice none 0 0, e, size, 0, []⟩]) := by
  have ho : obl (O ++ [⟨.slice none 0 0, e, size, 0, []⟩]) = obl O := by simp [obl, Value.ownBlock]
  refine ⟨h.below, h.blk, h.rd, ?_, h.nod, by rw [ho]; exact h.onod, by rw [ho]; exact h.dis, h.lo, h.hi, h.sep, by rw [ho]; exact h.osep⟩
  intro r hr
  rcases List.mem_append.1 hr with hr | hr
  · exact h.own r hr
  · simp at hr; subst hr; exact own_nil _ _ _ _
/-- Behind a call that hands back a row of its own. -/
theorem Mo.nextO (h : Mo a w L R G O) (hb : Below w.heap.size w w1) {v : Value} {e size n : Nat} {xs : List Value} (ho : w1.ownsRow w.heap.size e size v n xs) : Mo a w1 L R G (O ++ [⟨v, e, size, n, xs⟩]) := by
  have k := h.next hb
  have hob : ∀ g, v.ownBlock = some g → w.heap.size ≤ g ∧ g < w1.heap.size := fun g hg => own_mem ho hg
  have hmem : ∀ g, g ∈ obl (O ++ [⟨v, e, size, n, xs⟩]) → g ∈ obl O ∨ v.ownBlock = some g := by
    intro g hg
    obtain ⟨r, hr, he⟩ := mem_obl.1 hg
    rcases List.mem_append.1 hr with hr | hr
    · exact .inl (mem_obl.2 ⟨r, hr, he⟩)
    · simp at hr; subst hr; exact .inr he
  refine ⟨k.below, k.blk, k.rd, ?_, k.nod, ?_, ?_, k.lo, k.hi, k.sep, ?_⟩
  · intro r hr
    rcases List.mem_append.1 hr with hr | hr
    · exact k.own r hr
    · simp at hr; subst hr
      refine ⟨ho.1, ?_⟩
      rcases ho.2 with hn | ⟨g, cap, cur, h1, h2, h3⟩
      · exact .inl hn
      · exact .inr ⟨g, cap, cur, h1, Nat.le_trans h.below.size h2, h3⟩
  · unfold obl
    rw [List.filterMap_append, List.nodup_append]
    refine ⟨h.onod, ?_, ?_⟩
    · cases hv : v.ownBlock <;> simp [hv]
    · intro x hx y hy
      have := (h.ohi x hx).2
      cases hv : v.ownBlock with
      | none => simp [hv] at hy
      | some g => simp [hv] at hy; have := (hob g hv).1; omega
  · intro g hg hm
    rcases hmem g hg with h1 | h1
    · exact h.dis g h1 hm
    · have := (hob g h1).1; have := h.hi g hm; omega
  · intro r hr ad hA hne hm
    rcases hmem _ hm with h1 | h1
    · exact h.osep r hr ad hA hne h1
    · have := (hob _ h1).1; have := (h.rd r hr).block_lt hA hne; omega
theorem Mo.grown (h : Mo a w L R G O) {g : Nat} (hg : w.grownBy w1 (some g)) (hm : g ∈ G) : Mo a w1 L R G O := by
  have hlt : ∀ x ∈ L.map (·.1) ++ G, x < w1.heap.size := fun x hx => Nat.lt_of_lt_of_le (h.hi x hx) hg.size
  refine ⟨h.below.grown hg h.below.size (fun k hk => by cases hk; exact h.lo g (List.mem_append_right _ hm)), ?_, ?_, ?_, h.nod, h.onod, h.dis, h.lo, hlt, h.sep, h.osep⟩
  · intro x hx
    refine (h.blk x hx).grown hg (fun e => ?_)
    injection e with e
    have hn := (List.nodup_append.1 h.nod).2.2
    exact hn x.1 (List.mem_map.2 ⟨x, hx, rfl⟩) g hm e
  · intro r hr
    obtain ⟨b, o, h1, h2⟩ := h.rd r hr
    refine ⟨b, o, fun hne => ⟨(h1 hne).1, Nat.lt_of_lt_of_le (h1 hne).2 hg.size⟩, fun j u hu => ?_⟩
    have hne : r.2 ≠ [] := fun e => by rw [e] at hu; simp at hu
    have hb : b ≠ g := fun e => h.sep r hr _ (h1 hne).1 hne (by rw [e]; exact List.mem_append_right _ hm)
    rw [← h2 j u hu]
    exact World.cell?_of_block (hg.block b (h1 hne).2 (fun e => hb (by injection e)))
  · intro r hr
    refine own_keep (h.own r hr) (fun k hk => hg.block k (own_mem (h.own r hr) hk).2 (fun e => ?_))
    injection e with e
    exact h.dis k (mem_obl.2 ⟨r, hr, hk⟩) (by rw [e]; exact List.mem_append_right _ hm)
/-- Behind a call that changes an object and hands back a new slice. -/
theorem Mo.grownR (h : Mo a w L R G O) {g : Nat} (hg : w.grownBy w1 (some g)) (hm : g ∈ G) {A : Option Addr} {xs : List Value} (hr : Rd w1 w1.heap.size A xs) (hf : ∀ ad, A = some ad → w.heap.size ≤ ad.block) : Mo a w1 L ((A, xs) :: R) G O :=
  (h.grown hg hm).addR hr (fun ad hA _ => ⟨fun hm => by have := h.hi _ hm; have := hf ad hA; omega, fun hm => by have := (h.ohi _ hm).2; have := hf ad hA; omega⟩)
theorem Mo.put (h : Mo a w L R G O) (i j : Nat) (u : Value) {g : Nat} {t : TypeId} {cs : Array Value} (hi : L[i]? = some (g, t, cs)) : Mo a (w.setCell ⟨g, j, none⟩ u) (L.set i (g, t, cs.setIfInBounds j u)) R G O := by
  have hmem : (g, t, cs) ∈ L := List.mem_of_getElem? hi
  have hil : i < L.length := (List.getElem?_eq_some_iff.1 hi).1
  have hgm : g ∈ L.map (·.1) ++ G := List.mem_append_left _ (List.mem_map.2 ⟨_, hmem, rfl⟩)
  have hmap : (L.set i (g, t, cs.setIfInBounds j u)).map (·.1) = L.map (·.1) := by
    rw [List.map_set]
    refine List.ext_getElem? fun k => ?_
    rw [List.getElem?_set]
    split
    · next e =>
      subst e
      rw [if_pos (by simpa using hil), List.getElem?_map, hi]; rfl
    · rfl
  refine ⟨h.below.setCell (h.lo g hgm) u, ?_, ?_, ?_, by rw [hmap]; exact h.nod, h.onod, by rw [hmap]; exact h.dis, by rw [hmap]; exact h.lo, by rw [hmap]; intro x hx; have := h.hi x hx; simpa [World.setCell] using this, by rw [hmap]; exact h.sep, h.osep⟩
  · intro x hx
    obtain ⟨k, hk, rfl⟩ := List.getElem_of_mem hx
    rw [List.getElem_set]
    split
    · next e => exact (h.blk _ hmem).put j u
    · next e =>
      have hk' : k < L.length := by simpa using hk
      refine (h.blk _ (List.getElem_mem hk')).far (fun hg => e ?_) u
      have hn := (List.nodup_append.1 h.nod).1
      have h1 : (L.map (·.1))[i]'(by simpa using hil) = (L.map (·.1))[k]'(by simpa using hk') := by
        simp only [List.getElem_map]
        have : L[i] = (g, t, cs) := by
          have := List.getElem?_eq_getElem hil
          rw [hi] at this; injection this with this; exact this.symm
        rw [this]; exact hg.symm
      exact (List.getElem_inj hn).1 h1
  · intro r hr
    obtain ⟨b, o, h1, h2⟩ := h.rd r hr
    refine ⟨b, o, fun hne => ⟨(h1 hne).1, by simpa [World.setCell] using (h1 hne).2⟩, fun k v hv => ?_⟩
    have hne : r.2 ≠ [] := fun e => by rw [e] at hv; simp at hv
    have hb : b ≠ g := fun e => h.sep r hr _ (h1 hne).1 hne (by rw [e]; exact hgm)
    rw [← h2 k v hv]
    exact World.cell?_setCell_other w _ _ u (fun e => hb (by injection e with e1; exact e1.symm))
  · intro r hr
    refine own_keep (h.own r hr) (fun k hk => Below.heap_setCell w _ u k (fun e => ?_))
    exact h.dis k (mem_obl.2 ⟨r, hr, hk⟩) (by rw [e]; exact hgm)
theorem obl_cons (x : Ow) (O : List Ow) : obl (x :: O) = (match x.v.ownBlock with | none => obl O | some b => b :: obl O) := by
  unfold obl; rw [List.filterMap_cons]; cases x.v.ownBlock <;> rfl
theorem obl_ne {O : List Ow} (hn : (obl O).Nodup) {i k : Nat} {r s : Ow} (hi : O[i]? = some r) (hk : O[k]? = some s) (hik : i ≠ k) {g : Nat} (hr : r.v.ownBlock = some g) : s.v.ownBlock ≠ some g := by
  intro hs
  induction O generalizing i k with
  | nil => simp at hi
  | cons x O ih =>
    have hcons := obl_cons x O
    cases i with
    | zero =>
      cases k with
      | zero => exact hik rfl
      | succ k =>
        simp at hi hk
        subst hi
        rw [hcons, hr] at hn
        exact (List.nodup_cons.1 hn).1 (mem_obl.2 ⟨s, List.mem_of_getElem? hk, hs⟩)
    | succ i =>
      cases k with
      | zero =>
        simp at hi hk
        subst hk
        rw [hcons, hs] at hn
        exact (List.nodup_cons.1 hn).1 (mem_obl.2 ⟨r, List.mem_of_getElem? hi, hr⟩)
      | succ k =>
        simp at hi hk
        refine ih ?_ hi hk (by omega)
        rw [hcons] at hn
        split at hn
        · exact hn
        · exact (List.nodup_cons.1 hn).2
theorem obl_set {O : List Ow} {i : Nat} {r s : Ow} (hn : (obl O).Nodup) (hi : O[i]? = some r) (hs : ∀ g, s.v.ownBlock = some g → r.v.ownBlock = some g ∨ g ∉ obl O) : (obl (O.set i s)).Nodup ∧ ∀ g ∈ obl (O.set i s), g ∈ obl O ∨ s.v.ownBlock = some g := by
  refine ⟨?_, ?_⟩
  · induction O generalizing i with
    | nil => simp at hi
    | cons x O ih =>
      have hcons := obl_cons
      cases i with
      | zero =>
        simp at hi
        subst hi
        rw [List.set_cons_zero, hcons]
        have hn' : (obl O).Nodup := by
          rw [hcons] at hn
          split at hn
          · exact hn
          · exact (List.nodup_cons.1 hn).2
        split
        · exact hn'
        · next b hb =>
          refine List.nodup_cons.2 ⟨fun hm => ?_, hn'⟩
          rcases hs b hb with h1 | h1
          · rw [hcons, h1] at hn
            exact (List.nodup_cons.1 hn).1 hm
          · refine h1 ?_
            rw [hcons]
            split
            · exact hm
            · exact List.mem_cons_of_mem _ hm
      | succ i =>
        simp at hi
        have hn' : (obl O).Nodup := by
          rw [hcons] at hn
          split at hn
          · exact hn
          · exact (List.nodup_cons.1 hn).2
        have hsub : ∀ g, s.v.ownBlock = some g → r.v.ownBlock = some g ∨ g ∉ obl O := fun g hg => (hs g hg).imp_right (fun hh hm => hh (by
          rw [hcons]
          split
          · exact hm
          · exact List.mem_cons_of_mem _ hm))
        have ih' := ih hn' hi hsub
        rw [List.set_cons_succ, hcons]
        split
        · exact ih'
        · next b hb =>
          refine List.nodup_cons.2 ⟨fun hm => ?_, ih'⟩
          obtain ⟨q, hq, hqb⟩ := mem_obl.1 hm
          obtain ⟨k, hk, hqk⟩ := List.getElem_of_mem hq
          rw [List.getElem_set] at hqk
          rw [hcons, hb] at hn
          have hno := (List.nodup_cons.1 hn).1
          split at hqk
          · subst hqk
            rcases hs b hqb with h1 | h1
            · exact hno (mem_obl.2 ⟨r, List.mem_of_getElem? hi, h1⟩)
            · refine h1 ?_
              rw [hcons, hb]; exact List.mem_cons_self
          · exact hno (mem_obl.2 ⟨q, by rw [← hqk]; exact List.getElem_mem _, hqb⟩)
  · intro g hg
    obtain ⟨q, hq, hqb⟩ := mem_obl.1 hg
    rcases List.mem_or_eq_of_mem_set hq with h1 | h1
    · exact .inl (mem_obl.2 ⟨q, h1, hqb⟩)
    · subst h1; exact .inr hqb
/-- Behind an append to row i. -/
theorem Mo.push (h : Mo a w L R G O) (i : Nat) {v v' : Value} {e size n n' : Nat} {xs xs' : List Value} (hi : O[i]? = some ⟨v, e, size, n, xs⟩) (ho : w1.ownsRow a.heap.size e size v' n' xs') (hg : w.grownBy w1 v.ownBlock)
    (hat : v'.ownBlock = v.ownBlock ∨ v'.ownBlock = some w.heap.size) : Mo a w1 L R G (O.set i ⟨v', e, size, n', xs'⟩) := by
  have hmem := List.mem_of_getElem? hi
  have hvm : ∀ g, v.ownBlock = some g → g ∈ obl O := fun g hg => mem_obl.2 ⟨_, hmem, hg⟩
  have hs : ∀ g, (Ow.mk v' e size n' xs').v.ownBlock = some g → (Ow.mk v e size n xs).v.ownBlock = some g ∨ g ∉ obl O := by
    intro g hg'
    rcases hat with h1 | h1
    · left; rw [← h1]; exact hg'
    · right
      intro hm
      have hg2 : v'.ownBlock = some g := hg'
      rw [h1] at hg2
      injection hg2 with hg2
      have := (h.ohi g hm).2
      omega
  obtain ⟨hn, hsub⟩ := obl_set h.onod hi hs
  have hnew : ∀ g ∈ obl (O.set i ⟨v', e, size, n', xs'⟩), g ∈ obl O ∨ g = w.heap.size := by
    intro g hg'
    rcases hsub g hg' with h1 | h1
    · exact .inl h1
    · rcases hat with h2 | h2
      · left; exact hvm g (by rw [← h2]; exact h1)
      · right
        have hg2 : v'.ownBlock = some g := h1
        rw [h2] at hg2; injection hg2 with hg2; exact hg2.symm
  refine ⟨h.below.grown hg h.below.size (fun k hk => (h.ohi k (hvm k hk)).1), ?_, ?_, ?_, h.nod, hn, ?_, h.lo, fun x hx => Nat.lt_of_lt_of_le (h.hi x hx) hg.size, h.sep, ?_⟩
  · intro x hx
    refine (h.blk x hx).grown hg (fun e' => ?_)
    exact h.dis x.1 (hvm _ e'.symm) (List.mem_append_left _ (List.mem_map.2 ⟨x, hx, rfl⟩))
  · intro r hr
    obtain ⟨b, o, h1, h2⟩ := h.rd r hr
    refine ⟨b, o, fun hne => ⟨(h1 hne).1, Nat.lt_of_lt_of_le (h1 hne).2 hg.size⟩, fun j u hu => ?_⟩
    have hne : r.2 ≠ [] := fun e => by rw [e] at hu; simp at hu
    rw [← h2 j u hu]
    exact World.cell?_of_block (hg.block b (h1 hne).2 (fun e' => h.osep r hr _ (h1 hne).1 hne (hvm b e'.symm)))
  · intro r hr
    obtain ⟨k, hk, rfl⟩ := List.getElem_of_mem hr
    rw [List.getElem_set]
    split
    · exact ho
    · next hne =>
      have hk' : k < O.length := by simpa using hk
      have hkk : O[k]? = some O[k] := List.getElem?_eq_getElem hk'
      refine own_keep (h.own _ (List.getElem_mem hk')) (fun g hg' => hg.block g (own_mem (h.own _ (List.getElem_mem hk')) hg').2 (fun e' => ?_))
      exact obl_ne h.onod hkk hi (fun e => hne e.symm) hg' e'.symm
  · intro g hg' hm
    rcases hnew g hg' with h1 | h1
    · exact h.dis g h1 hm
    · have := h.hi g hm; omega
  · intro r hr ad hA hne hm
    rcases hnew _ hm with h1 | h1
    · exact h.osep r hr ad hA hne h1
    · have := (h.rd r hr).block_lt hA hne; omega
theorem Mo.c (h : Mo a w L R G O) (i j : Nat) {g : Nat} {t : TypeId} {cs : Array Value} {u : Value} (hi : L[i]? = some (g, t, cs)) (hj : cs[j]? = some u) : w.cell? ⟨g, j, none⟩ = some u := by
  rw [(h.blk _ (List.mem_of_getElem? hi)).cell j]; exact hj
theorem Mo.f (h : Mo a w L R G O) (i j : Nat) {g : Nat} {t : TypeId} {cs : Array Value} (hi : L[i]? = some (g, t, cs)) : w.frozen? ⟨g, j, none⟩ = false :=
  (h.blk _ (List.mem_of_getElem? hi)).frozen j
theorem Mo.b (h : Mo a w L R G O) (i : Nat) {g : Nat} {t : TypeId} {cs : Array Value} (hi : L[i]? = some (g, t, cs)) : Blk w g t cs := h.blk _ (List.mem_of_getElem? hi)
theorem Mo.l (h : Mo a w L R G O) (i : Nat) {g : Nat} {t : TypeId} {cs : Array Value} (hi : L[i]? = some (g, t, cs)) : g < w.heap.size := (h.b i hi).lt
theorem Mo.r (h : Mo a w L R G O) (i : Nat) {A : Option Addr} {xs : List Value} (hi : R[i]? = some (A, xs)) : Rd w w.heap.size A xs := h.rd _ (List.mem_of_getElem? hi)
theorem Mo.o (h : Mo a w L R G O) (i : Nat) {v : Value} {e size n : Nat} {xs : List Value} (hi : O[i]? = some ⟨v, e, size, n, xs⟩) : w.ownsRow a.heap.size e size v n xs := h.own _ (List.mem_of_getElem? hi)
theorem Mo.ne (h : Mo a w L R G O) (i k : Nat) {g g' : Nat} {t t' : TypeId} {cs cs' : Array Value} (hi : L[i]? = some (g, t, cs)) (hk : L[k]? = some (g', t', cs')) (hik : i ≠ k) : ¬ g = g' := by
  intro e
  have hil : i < L.length := (List.getElem?_eq_some_iff.1 hi).1
  have hkl : k < L.length := (List.getElem?_eq_some_iff.1 hk).1
  have hn := (List.nodup_append.1 h.nod).1
  refine hik ((List.getElem_inj (xs := L.map (·.1)) (h₀ := by simpa using hil) (h₁ := by simpa using hkl) hn).1 ?_)
  have h1 := List.getElem?_eq_getElem hil
  have h2 := List.getElem?_eq_getElem hkl
  rw [hi] at h1; rw [hk] at h2
  injection h1 with h1; injection h2 with h2
  simp only [List.getElem_map, ← h1, ← h2]; exact e
/-- A slice that is read lies apart from the own blocks. -/
theorem Mo.rne (h : Mo a w L R G O) (i k : Nat) {b o : Nat} {xs : List Value} {g : Nat} {t : TypeId} {cs : Array Value} (hi : R[i]? = some (some ⟨b, o, none⟩, xs)) (hne : xs ≠ []) (hk : L[k]? = some (g, t, cs)) : ¬ b = g := by
  intro e
  refine h.sep _ (List.mem_of_getElem? hi) _ rfl hne ?_
  exact List.mem_append_left _ (List.mem_map.2 ⟨_, List.mem_of_getElem? hk, e.symm⟩)
theorem Mo.tail {x : Nat × TypeId × Array Value} (h : Mo a w (x :: L) R G O) : Mo a w L R G O := by
  refine ⟨h.below, fun y hy => h.blk y (List.mem_cons_of_mem _ hy), h.rd, h.own, ?_, h.onod, fun g hg hm => h.dis g hg ?_, fun g hg => h.lo g ?_, fun g hg => h.hi g ?_, fun r hr ad hA hne hm => h.sep r hr ad hA hne ?_, h.osep⟩
  · have := h.nod
    simp only [List.map_cons, List.cons_append, List.nodup_cons] at this
    exact this.2
  all_goals
    simp only [List.map_cons, List.cons_append, List.mem_cons]
    right; assumption
theorem Mo.tailR {r : Option Addr × List Value} (h : Mo a w L (r :: R) G O) : Mo a w L R G O :=
  ⟨h.below, h.blk, fun y hy => h.rd y (List.mem_cons_of_mem _ hy), h.own, h.nod, h.onod, h.dis, h.lo, h.hi, fun y hy => h.sep y (List.mem_cons_of_mem _ hy), fun y hy => h.osep y (List.mem_cons_of_mem _ hy)⟩
/-- The rows of the call's own are forgotten. -/
theorem Mo.noO (h : Mo a w L R G O) : Mm a w L R G := ⟨h.below, h.blk, h.rd, by simp, h.nod, by simp [obl], by simp [obl], h.lo, h.hi, h.sep, by simp [obl]⟩
/-- A row of the call's own that grows no more is a slice that is read. -/
theorem Mo.toR (h : Mo a w L R G O) (i : Nat) {A : Option Addr} {n c e size : Nat} {xs : List Value} (hi : O[i]? = some ⟨.slice A n c, e, size, n, xs⟩) : Mm a w L ((A, xs) :: R) G :=
  h.noO.addR (Rd.of_own (h.o i hi)) (fun ad hA hne => ⟨h.dis _ (mem_obl.2 ⟨_, List.mem_of_getElem? hi, by subst hA; rfl⟩), by simp [obl]⟩)
theorem Mo.toR2 (h : Mo a w L R G O) (i k : Nat) {A A' : Option Addr} {n n' c c' e e' size size' : Nat} {xs xs' : List Value} (hi : O[i]? = some ⟨.slice A n c, e, size, n, xs⟩) (hk : O[k]? = some ⟨.slice A' n' c', e', size', n', xs'⟩) : Mm a w L ((A, xs) :: (A', xs') :: R) G :=
  (h.toR k hk).addR (Rd.of_own (h.o i hi)) (fun ad hA hne => ⟨h.dis _ (mem_obl.2 ⟨_, List.mem_of_getElem? hi, by subst hA; rfl⟩), by simp [obl]⟩)
end
end Go.Proofs.Ytjllgdpnbllnjaa
