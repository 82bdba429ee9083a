/- Code, settled: the abstract values alone tell in which state it ends; contracts that tell properties of what comes back. -/
import Derived.Test.YthdfkiopppkfcaaDoorVp
import Derived.LoopN
namespace Go.Proofs.YthdfkiopppkfcaaDoor
open Go
open Go.RowKit (Below)
set_option linter.unusedVariables false
set_option linter.unusedSimpArgs false

theorem setK_pt : ∀ {cs : List AV} {n : Nat} {x : AV} {k : List AV → Prop}, setK cs n x k → ∃ l, k l ∧ ∀ k' : List AV → Prop, k' l → setK cs n x k'
  | c :: cs, 0, x, k, h => by simp only [setK] at h; exact ⟨_, h, fun k' h' => by simp only [setK]; exact h'⟩
  | c :: cs, n + 1, x, k, h => by
    simp only [setK] at h
    obtain ⟨l, h1, h2⟩ := setK_pt h
    exact ⟨_, h1, fun k' h' => by simp only [setK]; exact h2 _ h'⟩
  | [], _, _, _, h => by simp [setK] at h
theorem empN_pt {kp : List Nat} : ∀ (l : List (Nat × Nat × Nat × Nat)) (st : St) (K : St → Prop), empN kp l st K → ∃ st', K st' ∧ empN kp l st (fun s => s = st')
  | [], st, K, h => ⟨st, h, rfl⟩
  | (t, k, e, s) :: l, ⟨tm, hp⟩, K, h => by
    simp only [empN] at h ⊢
    cases hb1 : Nat.ble 1000000 t with
    | true =>
      rw [hb1] at h
      simp only [cond_true] at h ⊢
      split at h
      · rename_i cs hcs
        cases hb : (nilAt cs (Nat.mod t 100) && fresh kp ⟨tm, hp⟩ k && !(Nat.beq k (Nat.div (Nat.sub t 1000000) 100))) with
        | false =>
          rw [hb] at h
          simp only [cond_false] at h ⊢
          exact empN_pt l _ K h
        | true =>
        rw [hb] at h
        simp only [cond_true] at h ⊢
        obtain ⟨l2, h1, h2⟩ := setK_pt h
        simp only [insK_ins] at h1
        obtain ⟨st', h3, h4⟩ := empN_pt l _ K h1
        refine ⟨st', h3, ?_⟩
        refine h2 _ ?_
        simp only [insK_ins]
        exact h4
      · exact h.elim
    | false =>
      rw [hb1] at h
      simp only [cond_false] at h ⊢
      obtain ⟨hb, h⟩ := cond_F h
      simp only [insK_ins] at h
      obtain ⟨st', h1, h2⟩ := empN_pt l _ K h
      exact ⟨st', h1, by rw [hb]; simp only [cond_true, insK_ins]; exact h2⟩
mutual
theorem strip_pt : ∀ (x : AV) (k : AV → Prop), strip x k → ∃ y, k y ∧ ∀ k' : AV → Prop, k' y → strip x k'
  | .acc a s xs, k, h => by simp only [strip] at h; exact ⟨_, h, fun k' h' => by simp only [strip]; exact h'⟩
  | .int a b, k, h => by simp only [strip] at h; exact ⟨_, h, fun k' h' => by simp only [strip]; exact h'⟩
  | .bool a, k, h => by simp only [strip] at h; exact ⟨_, h, fun k' h' => by simp only [strip]; exact h'⟩
  | .str a, k, h => by simp only [strip] at h; exact ⟨_, h, fun k' h' => by simp only [strip]; exact h'⟩
  | .sl a b c, k, h => by simp only [strip] at h; exact ⟨_, h, fun k' h' => by simp only [strip]; exact h'⟩
  | .nils, k, h => by simp only [strip] at h; exact ⟨_, h, fun k' h' => by simp only [strip]; exact h'⟩
  | .ro a, k, h => by simp only [strip] at h; exact ⟨_, h, fun k' h' => by simp only [strip]; exact h'⟩
  | .nilp, k, h => by simp only [strip] at h; exact ⟨_, h, fun k' h' => by simp only [strip]; exact h'⟩
  | .undef, k, h => by simp only [strip] at h; exact ⟨_, h, fun k' h' => by simp only [strip]; exact h'⟩
  | .dead, k, h => by simp only [strip] at h; exact ⟨_, h, fun k' h' => by simp only [strip]; exact h'⟩
  | .agg cs, k, h => by
    simp only [strip] at h
    obtain ⟨l, h1, h2⟩ := stripL_pt cs _ h
    exact ⟨_, h1, fun k' h' => by simp only [strip]; exact h2 _ h'⟩
  | .tup cs, k, h => by
    simp only [strip] at h
    obtain ⟨l, h1, h2⟩ := stripL_pt cs _ h
    exact ⟨_, h1, fun k' h' => by simp only [strip]; exact h2 _ h'⟩
  | .fn f cs, k, h => by
    simp only [strip] at h
    obtain ⟨l, h1, h2⟩ := stripL_pt cs _ h
    exact ⟨_, h1, fun k' h' => by simp only [strip]; exact h2 _ h'⟩
  | .frz a s n xs, k, h => by
    simp only [strip] at h
    obtain ⟨hn, h⟩ := chk_iff.1 h
    exact ⟨_, h, fun k' h' => by simp only [strip]; exact chk_iff.2 ⟨hn, h'⟩⟩
  | .ptr _ _, _, h => by simp [strip] at h
  | .ms _ _ _ _ _, _, h => by simp [strip] at h
  | .rw _ _ _, _, h => by simp [strip] at h
  | .mw _ _ _ _ _ _, _, h => by simp [strip] at h
  | .prw _ _ _ _ _, _, h => by simp [strip] at h
  | .mpv _, _, h => by simp [strip] at h
theorem stripL_pt : ∀ (xs : List AV) (k : List AV → Prop), stripL xs k → ∃ ys, k ys ∧ ∀ k' : List AV → Prop, k' ys → stripL xs k'
  | [], k, h => by simp only [stripL] at h; exact ⟨_, h, fun k' h' => by simp only [stripL]; exact h'⟩
  | x :: xs, k, h => by
    simp only [stripL] at h
    obtain ⟨y, h1, h2⟩ := strip_pt x _ h
    obtain ⟨l, h3, h4⟩ := stripL_pt xs _ h1
    exact ⟨_, h3, fun k' h' => by simp only [stripL]; exact h2 _ (h4 _ h')⟩
end
theorem stripLL_pt : ∀ (xs : List (List AV)) (k : List (List AV) → Prop), stripLL xs k → ∃ ys, k ys ∧ ∀ k' : List (List AV) → Prop, k' ys → stripLL xs k'
  | [], k, h => by simp only [stripLL] at h; exact ⟨_, h, fun k' h' => by simp only [stripLL]; exact h'⟩
  | x :: xs, k, h => by
    simp only [stripLL] at h
    obtain ⟨y, h1, h2⟩ := stripL_pt x _ h
    obtain ⟨l, h3, h4⟩ := stripLL_pt xs _ h1
    exact ⟨_, h3, fun k' h' => by simp only [stripLL]; exact h2 _ (h4 _ h')⟩
theorem closeK_pt {st : St} {k : Nat} {K : St → Prop} (h : closeK st k K) : ∃ st', K st' ∧ ∀ K' : St → Prop, K' st' → closeK st k K' := by
  unfold closeK at h
  split at h
  · rename_i e s xs hk
    cases hb : Nat.blt e 2000000 with
    | true =>
      rw [hb] at h
      exact ⟨st, h, fun K' h' => by unfold closeK; rw [hk]; simp only [hb, cond_true]; exact h'⟩
    | false =>
      rw [hb] at h
      obtain ⟨h3, h⟩ := cond_F h
      obtain ⟨ys, h1, h2⟩ := stripLL_pt _ _ h
      exact ⟨_, h1, fun K' h' => by unfold closeK; rw [hk]; simp only [hb, h3, cond_true, cond_false]; exact h2 _ h'⟩
  · rename_i hk
    refine ⟨st, h, fun K' h' => ?_⟩
    unfold closeK
    split
    · rename_i e s xs hk'
      exact absurd hk' (hk e s xs)
    · exact h'
theorem frzK_pt {kp : List Nat} {st : St} {k : Nat} {K : St → Prop} (h : frzK kp st k K) : ∃ st', K st' ∧ ∀ K' : St → Prop, K' st' → frzK kp st k K' := by
  unfold frzK at h
  split at h
  · rename_i e s xs hk
    cases hi : (inL k kp || !(Nat.blt e 2000000)) with
    | true => rw [hi] at h; exact h.elim
    | false =>
      rw [hi] at h
      exact ⟨_, h, fun K' h' => by unfold frzK; rw [hk]; simp only [hi, cond_false]; exact h'⟩
  · exact h.elim
theorem frzN_pt {kp : List Nat} : ∀ (l : List Nat) (st : St) (K : St → Prop), frzN kp l st K → ∃ st', K st' ∧ frzN kp l st (fun s => s = st')
  | [], st, K, h => ⟨st, h, rfl⟩
  | k :: l, st, K, h => by
    simp only [frzN] at h ⊢
    cases hc : Nat.ble 2000000 k with
    | true =>
      rw [hc] at h
      simp only [cond_true] at h ⊢
      obtain ⟨s1, h1, e1⟩ := closeK_pt h
      obtain ⟨s3, h3, e3⟩ := frzN_pt l _ K h1
      exact ⟨s3, h3, e1 _ e3⟩
    | false =>
    rw [hc] at h
    simp only [cond_false] at h ⊢
    cases hb : isRowB (lk st.heap k) with
    | false =>
      rw [hb] at h
      exact frzN_pt l st K h
    | true =>
      rw [hb] at h
      simp only [cond_true] at h ⊢
      obtain ⟨s1, h1, e1⟩ := closeK_pt h
      obtain ⟨s2, h2, e2⟩ := frzK_pt h1
      rw [forceS_eq] at h2
      obtain ⟨s3, h3, e3⟩ := frzN_pt l _ K h2
      exact ⟨s3, h3, e1 _ (e2 _ (by rw [forceS_eq]; exact e3))⟩
theorem killN_pt {kp : List Nat} : ∀ (l : List Nat) (st : St) (K : St → Prop), killN kp l st K → ∃ st', K st' ∧ killN kp l st (fun s => s = st')
  | [], st, K, h => ⟨st, h, rfl⟩
  | k :: l, st, K, h => by
    simp only [killN] at h ⊢
    cases hb : fresh kp st k with
    | true => rw [hb] at h; exact killN_pt l st K h
    | false =>
      rw [hb] at h
      simp only [cond_false, forceS_eq] at h ⊢
      exact killN_pt l _ K h
theorem dropK_pt {d : Nat} {st : St} {K : St → Prop} (h : dropK d st K) : ∃ st', K st' ∧ dropK d st (fun s => s = st') := by
  obtain ⟨tm, hp⟩ := st
  simp only [dropK, dropT_eq] at h ⊢
  exact ⟨_, h, rfl⟩
/-- From the state st one comes to the state fin. -/
def Same (kp : List Nat) (st fin : St) : Prop := ∀ (G : Gh) (a : Act) (w : World) (S : Pin) (m : Nm), Rel G kp st a w S m → ∃ S' m', Rel G kp fin a w S' m'
theorem Same.trans {kp : List Nat} {a b c : St} (h : Same kp a b) (k : Same kp b c) : Same kp a c := fun G x w S m hR => by
  obtain ⟨S', m', hR'⟩ := h G x w S m hR
  exact k G x w S' m' hR'
theorem empN_det {kp : List Nat} {l : List (Nat × Nat × Nat × Nat)} {st : St} {K : St → Prop} (h : empN kp l st K) : ∃ st', K st' ∧ Same kp st st' := by
  obtain ⟨st', h1, h2⟩ := empN_pt l st K h
  refine ⟨st', h1, fun G a w S m hR => ?_⟩
  obtain ⟨s, S', m', rfl, h3⟩ := empN_sound _ _ S m _ h2 hR
  exact ⟨S', m', h3⟩
theorem frzN_det {kp : List Nat} {l : List Nat} {st : St} {K : St → Prop} (h : frzN kp l st K) : ∃ st', K st' ∧ Same kp st st' := by
  obtain ⟨st', h1, h2⟩ := frzN_pt l st K h
  refine ⟨st', h1, fun G a w S m hR => ?_⟩
  obtain ⟨s, S', m', rfl, h3⟩ := frzN_sound _ _ S m _ h2 hR
  exact ⟨S', m', h3⟩
theorem killN_det {kp : List Nat} {l : List Nat} {st : St} {K : St → Prop} (h : killN kp l st K) : ∃ st', K st' ∧ Same kp st st' := by
  obtain ⟨st', h1, h2⟩ := killN_pt l st K h
  refine ⟨st', h1, fun G a w S m hR => ?_⟩
  obtain ⟨s, rfl, h3⟩ := killN_sound _ _ _ h2 hR
  exact ⟨S, m, h3⟩
theorem dropK_det {kp : List Nat} {d : Nat} {st : St} {K : St → Prop} (h : dropK d st K) : ∃ st', K st' ∧ Same kp st st' := by
  obtain ⟨st', h1, h2⟩ := dropK_pt h
  refine ⟨st', h1, fun G a w S m hR => ?_⟩
  obtain ⟨s, rfl, h3⟩ := dropK_sound h2 hR
  exact ⟨S, m, h3⟩
theorem dropS_det {kp : List Nat} {C : Cx} {id : Nat} {st : St} {K : St → Prop} (h : dropS C id st K) : ∃ st', K st' ∧ Same kp st st' := by
  obtain ⟨s1, h1, r1⟩ := dropK_det (kp := kp) h
  obtain ⟨s2, h2, r2⟩ := spnK_same _ _ _ h1
  exact ⟨s2, h2, fun G a w S m hR => by
    obtain ⟨S', m', hR'⟩ := r1 G a w S m hR
    exact ⟨S', m', r2 _ _ _ _ _ _ hR'⟩⟩
theorem astep_nw {P : Program} {E : Env} {C : Cx} {o : Oper} {st : St} {K : AV → List (Nat × Blk) → List Nat → Prop} (hw : E.nowf = true) (h : astep P E C true o st K) : astep P E C false o st K := by
  unfold astep at h ⊢
  rw [hw] at h
  simp only [Bool.not_true, Bool.and_false, Bool.false_and] at h ⊢
  exact h
theorem arun_det {P : Program} {E : Env} {C : Cx} (hw : E.nowf = true) (hz0 : E.nq = false) (hT : TyOK P C.tys) (hS : SpecOK P E) {ops : Array Oper} :
    ∀ (l : List Oper) (st : St) (k : St → Prop), arun P E C ops l st k → ∃ fin, k fin ∧ ∀ (G : Gh) (Q : Exit → Act → World → Prop), GOK E G.S0 → ∀ (a : Act) (w : World) (S : Pin) (m : Nm), Rel G C.kp st a w S m → a.tmps.size = C.nt →
      (∀ a' w' S' m', Rel G C.kp fin a' w' S' m' → a'.tmps.size = C.nt → Q .normal a' w') → wpList P ops Q l a w
  | [], st, k, h => ⟨st, h, fun G Q hG a w S m hR hn hQ => hQ a w S m hR hn⟩
  | o :: rest, st, k, h => by
    have ex : ∀ (st : St), astep P E C true o st (fun r u _ => forceE E.eager o.op r fun r => updK st o.dst r u fun st' => arun P E C ops rest st' k) → ∃ fin, k fin ∧ ∀ (G : Gh) (Q : Exit → Act → World → Prop), GOK E G.S0 → ∀ (a : Act) (w : World) (S : Pin) (m : Nm), Rel G C.kp st a w S m → a.tmps.size = C.nt →
        (∀ a' w' S' m', Rel G C.kp fin a' w' S' m' → a'.tmps.size = C.nt → Q .normal a' w') → o.wp P a w (wpList P ops Q rest) Q := by
      intro st h
      obtain ⟨r, u, rd, h1, h2, h3⟩ := astep_sound hT hS (astep_nw hw h)
      have h1 := h1 (fun e => by cases e)
      rw [forceE_eq, updK_eq] at h1
      obtain ⟨fin, hk, hf⟩ := arun_det hw hz0 hT hS rest _ k h1
      refine ⟨fin, hk, fun G Q hG a w S m hR hn hQ => ?_⟩
      exact h2 G C.kp st a w S m _ Q hG hR hn (fun _ _ => rfl) (fun _ _ => rfl) h3 (fun v w' S' m' _ hR' => hf G Q hG _ _ _ _ hR' (by rw [put_size]; exact hn) hQ)
    have sk : ∀ (st : St), cond (dstOk C.nt o.dst) (updK st o.dst .undef [] fun st' => arun P E C ops rest st' k) False → ∃ fin, k fin ∧ ∀ (G : Gh) (Q : Exit → Act → World → Prop), GOK E G.S0 → ∀ (a : Act) (w : World) (S : Pin) (m : Nm), Rel G C.kp st a w S m → a.tmps.size = C.nt →
        (∀ a' w' S' m', Rel G C.kp fin a' w' S' m' → a'.tmps.size = C.nt → Q .normal a' w') → wpList P ops Q rest (a.put o.dst undef) w := by
      intro st h
      obtain ⟨hd, h⟩ := cond_F h
      rw [updK_eq] at h
      obtain ⟨fin, hk, hf⟩ := arun_det hw hz0 hT hS rest _ k h
      exact ⟨fin, hk, fun G Q hG a w S m hR hn hQ => hf G Q hG _ _ _ _ (upd_undef hR (by rw [hn]; exact hd)) (by rw [put_size]; exact hn) hQ⟩
    simp only [arun] at h
    split at h
    · rename_i hg
      rw [nilq_off hz0] at h
      simp only at h
      obtain ⟨s0, h, e0⟩ := frzN_det (kp := C.kp) h
      obtain ⟨fin, hk, hf⟩ := ex s0 h
      refine ⟨fin, hk, fun G Q hG a w S m hR hn hQ => ?_⟩
      obtain ⟨S2, m2, hR⟩ := e0 G a w S m hR
      unfold wpList
      rw [if_pos (by simp [Region.wanted, hg])]
      exact .inl (hf G Q hG a w S2 m2 hR hn hQ)
    · rename_i j want hg
      split at h
      · rename_i t ht
        split at h
        · rename_i c hc
          have hy : ∀ {G : Gh} {a : Act} {w : World} {S : Pin} {m : Nm}, Rel G C.kp st a w S m → yielded ops a.tmps j = some c := fun hR => by
            have hs := guard_slot hR hc
            simp only [yielded, ht, Option.bind_some, hs]
          have doit : ∀ (h : astep P E C true o (st.put t (.bool c)) (fun r u _ => forceE E.eager o.op r fun r => updK (st.put t (.bool c)) o.dst r u fun st' => arun P E C ops rest st' k)) (e : c = want), ∃ fin, k fin ∧ ∀ (G : Gh) (Q : Exit → Act → World → Prop), GOK E G.S0 → ∀ (a : Act) (w : World) (S : Pin) (m : Nm), Rel G C.kp st a w S m → a.tmps.size = C.nt →
              (∀ a' w' S' m', Rel G C.kp fin a' w' S' m' → a'.tmps.size = C.nt → Q .normal a' w') → wpList P ops Q (o :: rest) a w := by
            intro h e
            obtain ⟨fin, hk, hf⟩ := ex _ h
            refine ⟨fin, hk, fun G Q hG a w S m hR hn hQ => ?_⟩
            have := hy hR
            unfold wpList
            rw [if_pos (by simp [Region.wanted, hg, this, e])]
            exact .inl (hf G Q hG a w S m (hR.known hc) hn hQ)
          have skip : ∀ (h : cond (dstOk C.nt o.dst) (updK (st.put t (.bool c)) o.dst .undef [] fun st' => arun P E C ops rest st' k) False) (e : c ≠ want), ∃ fin, k fin ∧ ∀ (G : Gh) (Q : Exit → Act → World → Prop), GOK E G.S0 → ∀ (a : Act) (w : World) (S : Pin) (m : Nm), Rel G C.kp st a w S m → a.tmps.size = C.nt →
              (∀ a' w' S' m', Rel G C.kp fin a' w' S' m' → a'.tmps.size = C.nt → Q .normal a' w') → wpList P ops Q (o :: rest) a w := by
            intro h e
            obtain ⟨fin, hk, hf⟩ := sk _ h
            refine ⟨fin, hk, fun G Q hG a w S m hR hn hQ => ?_⟩
            have := hy hR
            unfold wpList
            rw [if_neg (by simp [Region.wanted, hg, this, e])]
            exact hf G Q hG a w S m (hR.known hc) hn hQ
          cases c with
          | true =>
            simp only [cond_true] at h
            rw [known_eq] at h
            cases want with
            | true => exact doit h rfl
            | false => exact skip h (by simp)
          | false =>
            simp only [cond_false] at h
            rw [known_eq] at h
            cases want with
            | true => exact skip h (by simp)
            | false => exact doit h rfl
        · rename_i hc
          obtain ⟨fin, hk, hf⟩ := sk st h
          refine ⟨fin, hk, fun G Q hG a w S m hR hn hQ => ?_⟩
          have hs := guard_undef hR hc
          have hy : yielded ops a.tmps j = none := by
            unfold yielded
            rw [ht]
            simp only [Option.bind_some]
          unfold wpList
          rw [if_neg (by simp [Region.wanted, hg, hy])]
          exact hf G Q hG a w S m hR hn hQ
        · exact h.elim
      · exact h.elim

/-- How the code ends: the kind of exit, and the state. -/
def Out (kn : St → Prop) (ke : Nat → St → Prop) (kr : St → Prop) : Exit → St → Prop
  | .normal, st => kn st
  | .exit i, st => ke i st
  | .ret, st => kr st
  | _, _ => False
/-- The code c, begun in the state st, ends by o in the state fin. -/
def Leads (P : Program) (E : Env) (C : Cx) (c : Code) (st : St) (o : Exit) (fin : St) : Prop :=
  ∀ (G : Gh), GOK E G.S0 → ∀ (a : Act) (w : World) (S : Pin) (m : Nm), Rel G C.kp st a w S m → a.tmps.size = C.nt →
    c.wp P (fun e a' w' => e = o ∧ ∃ S' m', Rel G C.kp fin a' w' S' m' ∧ a'.tmps.size = C.nt) a w
theorem Leads.le {P : Program} {E : Env} {C : Cx} {c : Code} {st st' : St} {o : Exit} {fin : St} (h : Leads P E C c st' o fin) (hl : leS st st') : Leads P E C c st o fin :=
  fun G hG a w S m hR hn => h G hG a w S m (hR.le hl) hn
theorem Leads.same {P : Program} {E : Env} {C : Cx} {c : Code} {st st' : St} {o : Exit} {fin : St} (h : Leads P E C c st' o fin) (hl : Same C.kp st st') : Leads P E C c st o fin :=
  fun G hG a w S m hR hn => by obtain ⟨S', m', hR'⟩ := hl G a w S m hR; exact h G hG a w S' m' hR' hn
theorem Leads.fin {P : Program} {E : Env} {C : Cx} {c : Code} {st fin fin' : St} {o : Exit} (h : Leads P E C c st o fin) (hl : Same C.kp fin fin') : Leads P E C c st o fin' :=
  fun G hG a w S m hR hn => Go.wp_mono (h G hG a w S m hR hn) fun e a' w' ⟨he, S', m', hR', hn'⟩ => by
    obtain ⟨S2, m2, hR2⟩ := hl G a' w' S' m' hR'
    exact ⟨he, S2, m2, hR2, hn'⟩
theorem le_same {kp : List Nat} {st st' : St} (h : leS st st') : Same kp st st' := fun G a w S m hR => ⟨S, m, hR.le h⟩
theorem leads_seq {P : Program} {E : Env} {C : Cx} {x y : Code} {st mid fin : St} {o : Exit} (h : Leads P E C x st .normal mid) (k : Leads P E C y mid o fin) : Leads P E C (.seq x y) st o fin :=
  fun G hG a w S m hR hn => wp_seq (Go.wp_mono (h G hG a w S m hR hn) fun e a' w' ⟨he, S', m', hR', hn'⟩ => by
    subst he
    exact k G hG a' w' S' m' hR' hn')
theorem leads_seq' {P : Program} {E : Env} {C : Cx} {x y : Code} {st fin : St} {o : Exit} (h : Leads P E C x st o fin) (ho : o ≠ .normal) : Leads P E C (.seq x y) st o fin :=
  fun G hG a w S m hR hn => wp_seq (Go.wp_mono (h G hG a w S m hR hn) fun e a' w' ⟨he, hq⟩ => by
    subst he
    cases e with
    | normal => exact absurd rfl ho
    | _ => exact ⟨rfl, hq⟩)
/-- Rounds of a loop, the first ones ending without an exit. -/
def LeadsR (P : Program) (E : Env) (C : Cx) (b : Code) (st : St) (o : Exit) (fin : St) : Prop :=
  ∃ n : Nat, ∀ (G : Gh), GOK E G.S0 → ∀ (a : Act) (w : World) (S : Pin) (m : Nm), Rel G C.kp st a w S m → a.tmps.size = C.nt →
    Code.rounds P b (fun e a' w' => e = o ∧ ∃ S' m', Rel G C.kp fin a' w' S' m' ∧ a'.tmps.size = C.nt) n a w
theorem leadsR_one {P : Program} {E : Env} {C : Cx} {b : Code} {st fin : St} {o : Exit} (h : Leads P E C b st o fin) (ho : o ≠ .normal) : LeadsR P E C b st o fin :=
  ⟨1, fun G hG a w S m hR hn => by
    rw [rounds_succ]
    exact Go.wp_mono (h G hG a w S m hR hn) fun e a' w' ⟨he, hq⟩ => by
      subst he
      cases e with
      | normal => exact absurd rfl ho
      | _ => exact ⟨rfl, hq⟩⟩
theorem leadsR_more {P : Program} {E : Env} {C : Cx} {b : Code} {st mid fin : St} {o : Exit} (h : Leads P E C b st .normal mid) (k : LeadsR P E C b mid o fin) : LeadsR P E C b st o fin := by
  obtain ⟨n, hk⟩ := k
  refine ⟨n + 1, fun G hG a w S m hR hn => ?_⟩
  rw [rounds_succ]
  exact Go.wp_mono (h G hG a w S m hR hn) fun e a' w' ⟨he, S', m', hR', hn'⟩ => by
    subst he
    exact hk G hG a' w' S' m' hR' hn'
theorem leadsR_same {P : Program} {E : Env} {C : Cx} {b : Code} {st st' fin : St} {o : Exit} (h : LeadsR P E C b st' o fin) (hl : Same C.kp st st') : LeadsR P E C b st o fin := by
  obtain ⟨n, hk⟩ := h
  exact ⟨n, fun G hG a w S m hR hn => by obtain ⟨S', m', hR'⟩ := hl G a w S m hR; exact hk G hG a w S' m' hR' hn⟩
theorem leadsR_loop {P : Program} {E : Env} {C : Cx} {b : Code} {st fin : St} {o : Exit} (h : LeadsR P E C b st o fin) : Leads P E C (.loop b) st o fin := by
  obtain ⟨n, hk⟩ := h
  exact fun G hG a w S m hR hn => wp_loop_rounds n (hk G hG a w S m hR hn)
theorem tested_det {E : Env} {kp : List Nat} {st : St} {c : Operand} {b : Bool} {k : St → Prop} (h : tested st c b k) (e : evO E st c = .bool b) : ∃ st', k st' ∧ Same kp st st' := by
  unfold tested at h
  split at h
  · rw [known_eq] at h
    exact ⟨_, h, fun G a w S m hR => ⟨S, m, hR.known e⟩⟩
  · exact ⟨st, h, fun G a w S m hR => ⟨S, m, hR⟩⟩
theorem acode_det {P : Program} {E : Env} {C : Cx} {inv : Nat → St → Option LInv} {fuel : Nat} (hw : E.nowf = true) (hz0 : E.nq = false) (hT : TyOK P C.tys) (hS : SpecOK P E) (hM : P.follows .mixedOrders = true) :
    ∀ (c : Code) (st : St) (kn : St → Prop) (ke : Nat → St → Prop) (kr : St → Prop), acode P E C inv fuel c st kn ke kr → ∃ o fin, Out kn ke kr o fin ∧ Leads P E C c st o fin
  | .skip, st, kn, ke, kr, h => ⟨.normal, st, h, fun G hG a w S m hR hn => wp_skip ⟨rfl, S, m, hR, hn⟩⟩
  | .label _, st, kn, ke, kr, h => ⟨.normal, st, h, fun G hG a w S m hR hn => wp_label ⟨rfl, S, m, hR, hn⟩⟩
  | .region id ops draw, st, kn, ke, kr, h => by
    simp only [acode] at h
    obtain ⟨s1, h, e1⟩ := empN_det h
    obtain ⟨s2, h, e2⟩ := frzN_det h
    obtain ⟨s3, h, e3⟩ := killN_det h
    have e := (e1.trans e2).trans e3
    cases draw with
    | true =>
      simp only [cond_true] at h
      unfold adraw at h
      obtain ⟨gs, fin, htr, hk⟩ := arunD_tr hT hS _ _ _ _ h
      simp only [List.nil_append] at hk
      obtain ⟨hord, hk⟩ := cond_F hk
      obtain ⟨s4, h4, e4⟩ := dropS_det (kp := C.kp) hk
      refine ⟨.normal, s4, h4, (Leads.same ?_ e).fin e4⟩
      exact fun G hG a w S m hR hn => wp_region_any hM (adraw_core hG htr hord hR hn fun a' w' S' m' hR' hn' => ⟨rfl, S', m', hR', hn'⟩)
    | false =>
      simp only [cond_false] at h
      obtain ⟨fin, hk, hf⟩ := arun_det hw hz0 hT hS _ _ _ h
      obtain ⟨s4, h4, e4⟩ := dropS_det (kp := C.kp) hk
      refine ⟨.normal, s4, h4, (Leads.same ?_ e).fin e4⟩
      exact fun G hG a w S m hR hn => wp_region_list (hf G _ hG a w S m hR hn fun a' w' S' m' hR' hn' => ⟨rfl, S', m', hR', hn'⟩)
  | .seq x y, st, kn, ke, kr, h => by
    simp only [acode] at h
    split at h
    · rename_i L hL
      obtain ⟨h1, h2⟩ := h
      obtain ⟨o, mid, ho, hl⟩ := acode_det hw hz0 hT hS hM x st _ ke kr h1
      cases o with
      | normal =>
        obtain ⟨z, hp, hle⟩ := ho
        obtain ⟨o, fin, ho, hl2⟩ := acode_det hw hz0 hT hS hM y (L.S z) kn ke kr (LInv.all_get h2 z hp)
        exact ⟨o, fin, ho, leads_seq hl (hl2.le hle)⟩
      | exit i => exact ⟨.exit i, mid, ho, leads_seq' hl (by simp)⟩
      | ret => exact ⟨.ret, mid, ho, leads_seq' hl (by simp)⟩
      | _ => exact ho.elim
    · obtain ⟨o, mid, ho, hl⟩ := acode_det hw hz0 hT hS hM x st _ ke kr h
      cases o with
      | normal =>
        obtain ⟨o, fin, ho, hl2⟩ := acode_det hw hz0 hT hS hM y mid kn ke kr ho
        exact ⟨o, fin, ho, leads_seq hl hl2⟩
      | exit i => exact ⟨.exit i, mid, ho, leads_seq' hl (by simp)⟩
      | ret => exact ⟨.ret, mid, ho, leads_seq' hl (by simp)⟩
      | _ => exact ho.elim
  | .cond c x y, st, kn, ke, kr, h => by
    simp only [acode] at h
    split at h
    · rename_i q hq
      have hc : ∀ {G : Gh} {a : Act} {w : World} {S : Pin} {m : Nm}, GOK E G.S0 → Rel G C.kp st a w S m → a.eval c = .bool q := fun hG hR => by
        have := evO_cv hG hR c
        rw [hq] at this
        simpa only [CV] using this
      cases q with
      | true =>
        obtain ⟨st', hk, hs⟩ := tested_det (E := E) (kp := C.kp) h hq
        obtain ⟨o, fin, ho, hl⟩ := acode_det hw hz0 hT hS hM x st' kn ke kr hk
        refine ⟨o, fin, ho, fun G hG a w S m hR hn => wp_cond_true (hc hG hR) ?_⟩
        exact (hl.same hs) G hG a w S m hR hn
      | false =>
        obtain ⟨st', hk, hs⟩ := tested_det (E := E) (kp := C.kp) h hq
        obtain ⟨o, fin, ho, hl⟩ := acode_det hw hz0 hT hS hM y st' kn ke kr hk
        refine ⟨o, fin, ho, fun G hG a w S m hR hn => wp_cond_false (hc hG hR) ?_⟩
        exact (hl.same hs) G hG a w S m hR hn
    · exact h.elim
  | .block id b, st, kn, ke, kr, h => by
    have fin1 : ∀ {o : Exit} {fin : St}, Leads P E C b st o fin → (o = .normal ∨ o = .exit id) → Leads P E C (.block id b) st .normal fin := by
      intro o fin hl ho G hG a w S m hR hn
      refine wp_block (Go.wp_mono (hl G hG a w S m hR hn) fun e a' w' ⟨he, hq⟩ => ?_)
      subst he
      rcases ho with rfl | rfl
      · exact ⟨rfl, hq⟩
      · simp only [Exit.inBlock, if_true]; exact ⟨trivial, hq⟩
    have fin2 : ∀ {o : Exit} {fin : St}, Leads P E C b st o fin → (o = .ret ∨ ∃ i, o = .exit i ∧ i ≠ id) → Leads P E C (.block id b) st o fin := by
      intro o fin hl ho G hG a w S m hR hn
      refine wp_block (Go.wp_mono (hl G hG a w S m hR hn) fun e a' w' ⟨he, hq⟩ => ?_)
      subst he
      rcases ho with rfl | ⟨i, rfl, hi⟩
      · exact ⟨rfl, hq⟩
      · simp only [Exit.inBlock, if_neg hi]; exact ⟨trivial, hq⟩
    simp only [acode] at h
    split at h
    · rename_i L hL
      obtain ⟨h1, h2⟩ := h
      obtain ⟨o, fin, ho, hl⟩ := acode_det hw hz0 hT hS hM b st _ _ kr h1
      cases o with
      | normal =>
        obtain ⟨z, hp, hle⟩ := ho
        exact ⟨.normal, L.S z, LInv.all_get h2 z hp, (fin1 hl (.inl rfl)).fin (le_same hle)⟩
      | exit i =>
        simp only [Out] at ho
        by_cases hi : i = id
        · subst hi
          rw [nbeq_self] at ho
          obtain ⟨z, hp, hle⟩ := ho
          exact ⟨.normal, L.S z, LInv.all_get h2 z hp, (fin1 hl (.inr rfl)).fin (le_same hle)⟩
        · rw [nbeq_ne hi] at ho
          exact ⟨.exit i, fin, ho, fin2 hl (.inr ⟨i, rfl, hi⟩)⟩
      | ret => exact ⟨.ret, fin, ho, fin2 hl (.inl rfl)⟩
      | _ => exact ho.elim
    · obtain ⟨o, fin, ho, hl⟩ := acode_det hw hz0 hT hS hM b st _ _ kr h
      cases o with
      | normal => exact ⟨.normal, fin, ho, fin1 hl (.inl rfl)⟩
      | exit i =>
        simp only [Out] at ho
        by_cases hi : i = id
        · subst hi
          rw [nbeq_self] at ho
          exact ⟨.normal, fin, ho, fin1 hl (.inr rfl)⟩
        · rw [nbeq_ne hi] at ho
          exact ⟨.exit i, fin, ho, fin2 hl (.inr ⟨i, rfl, hi⟩)⟩
      | ret => exact ⟨.ret, fin, ho, fin2 hl (.inl rfl)⟩
      | _ => exact ho.elim
  | .loop b, st, kn, ke, kr, h => by
    simp only [acode] at h
    split at h
    · rename_i L hL
      obtain ⟨⟨x, hp, hle⟩, hround⟩ := h
      have key : ∀ (n : Nat) (x : L.X), L.m x = n → L.p x → ∃ o fin, Out kn ke kr o fin ∧ LeadsR P E C b (L.S x) o fin := by
        intro n
        induction n using Nat.strongRecOn with
        | _ n ih =>
          intro x hx hp
          obtain ⟨o, mid, ho, hl⟩ := acode_det hw hz0 hT hS hM b (L.S x) _ ke kr (hround x hp)
          cases o with
          | normal =>
            obtain ⟨y, hy, hm, hle⟩ := ho
            obtain ⟨o, fin, ho, hr⟩ := ih (L.m y) (by omega) y rfl hy
            exact ⟨o, fin, ho, leadsR_more hl (leadsR_same hr (le_same hle))⟩
          | exit i => exact ⟨.exit i, mid, ho, leadsR_one hl (by simp)⟩
          | ret => exact ⟨.ret, mid, ho, leadsR_one hl (by simp)⟩
          | _ => exact ho.elim
      obtain ⟨o, fin, ho, hr⟩ := key _ x rfl hp
      exact ⟨o, fin, ho, leadsR_loop (leadsR_same hr (le_same hle))⟩
    · have key : ∀ (n : Nat) (st : St), unr (fun st k => acode P E C inv fuel b st k ke kr) n st → ∃ o fin, Out kn ke kr o fin ∧ LeadsR P E C b st o fin := by
        intro n
        induction n with
        | zero => intro st hu; exact hu.elim
        | succ n ih =>
          intro st hu
          obtain ⟨o, mid, ho, hl⟩ := acode_det hw hz0 hT hS hM b st _ ke kr hu
          cases o with
          | normal =>
            obtain ⟨o, fin, ho, hr⟩ := ih mid ho
            exact ⟨o, fin, ho, leadsR_more hl hr⟩
          | exit i => exact ⟨.exit i, mid, ho, leadsR_one hl (by simp)⟩
          | ret => exact ⟨.ret, mid, ho, leadsR_one hl (by simp)⟩
          | _ => exact ho.elim
      obtain ⟨o, fin, ho, hr⟩ := key _ st h
      exact ⟨o, fin, ho, leadsR_loop hr⟩
  | .exit id, st, kn, ke, kr, h => ⟨.exit id, st, h, fun G hG a w S m hR hn => wp_exit ⟨rfl, S, m, hR, hn⟩⟩
  | .ret, st, kn, ke, kr, h => ⟨.ret, st, h, fun G hG a w S m hR hn => wp_ret ⟨rfl, S, m, hR, hn⟩⟩
  | .goto _, st, kn, ke, kr, h => by simp [acode] at h
  | .scope _, st, kn, ke, kr, h => by simp [acode] at h
  | .rangeFunc _ _ _ _, st, kn, ke, kr, h => by simp [acode] at h
  | .refuse _, st, kn, ke, kr, h => by simp [acode] at h
theorem resL_det {P : Program} {E : Env} {C : Cx} {st : St} :
    ∀ (l : List ResultVar) (k : List AV → Prop), resL P E st l k → ∃ rs, k rs ∧ ∀ (G : Gh) (a : Act) (w : World) (S : Pin) (m : Nm), Rel G C.kp st a w S m → ∃ vs, CVl S rs m vs ∧ vs.length = l.length ∧
      (l.mapM (resOne a.tmps)).run P w = .ok vs w
  | [], k, h => ⟨[], h, fun G a w S m hR => ⟨[], by simp only [CVl], rfl, by simp⟩⟩
  | .tmp t :: l, k, h => by
    simp only [resL] at h
    obtain ⟨rs, h1, hh⟩ := resL_det (C := C) l _ h
    refine ⟨_, h1, fun G a w S m hR => ?_⟩
    obtain ⟨vs, h2, h3, h4⟩ := hh G a w S m hR
    refine ⟨a.tmps.getD t undef :: vs, ?_, by simp [h3], ?_⟩
    · simp only [CVl]; exact ⟨_, _, rfl, hR.tmps t, h2⟩
    · simp only [List.mapM_cons, resOne, Sem.run_bind, Sem.run_pure, Result.andThen_ok]
      rw [h4]; rfl
  | .cell q t :: l, k, h => by
    simp only [resL] at h
    have get : ∀ (K : AV → Prop), aload P E none t (st.get q) (lk st.heap) (fun r _ _ => K r) → ∃ r, K r ∧ ∀ (G : Gh) (a : Act) (w : World) (S : Pin) (m : Nm), Rel G C.kp st a w S m → ∃ ad z, a.tmps.getD q undef = .pointer (some ad) ∧ (loadVar t ad).run P w = .ok z w ∧ CV S r m z := by
      intro K H
      unfold aload at H
      split at H
      · rename_i k off hx
        split at H
        · rename_i cs hk
          obtain ⟨r, h1, h2⟩ := loadK_sound H
          refine ⟨r, h1, fun G a w S m hR => ?_⟩
          have hv := hR.tmps q
          rw [hx] at hv
          simp only [CV] at hv
          obtain ⟨g, hm, hv⟩ := hv
          obtain ⟨g', arr, ty, e1, e2, e3, e4⟩ := hR.held k _ hk
          rw [hm] at e1
          injection e1 with e1
          injection e1 with e1
          injection e1 with e1
          injection e1 with e1
          subst e1
          obtain ⟨z, q1, q2⟩ := run_loads (w := w) (g := g) (o := off) h2 (e3.drop off) (fun j v e => by
            rw [List.getElem?_drop] at e
            rw [cell_of_row w g (off + j) arr ty (0, 0) e2]
            simpa using e)
          refine ⟨⟨g, off, none⟩, z, hv, ?_, q2⟩
          simpa [Instr.loadAt, Instr.sureAddr] using q1
        · exact H.elim
      · rename_i cs hx
        obtain ⟨r, h1, h2⟩ := loadK_sound H
        refine ⟨r, h1, fun G a w S m hR => ?_⟩
        have hv := hR.tmps q
        rw [hx] at hv
        simp only [CV] at hv
        obtain ⟨b, off, hv, hc⟩ := hv
        obtain ⟨vs, e1, e2⟩ := hc.vals
        obtain ⟨z, q1, q2⟩ := run_loads (w := w) (g := b) (o := off) h2 (e2.ext (Ext.refl S) (MLe.no m)) (fun j v e => (hR.agree _ _ _ (e1 j v e)).1)
        refine ⟨⟨b, off, none⟩, z, hv, ?_, q2⟩
        simpa [Instr.loadAt, Instr.sureAddr] using q1
      · rename_i k s Q j fo hx
        split at H
        · rename_i e s' xs hk
          obtain ⟨hs, H0⟩ := cond_F H
          have hs := Nat.eq_of_beq_eq_true hs
          subst hs
          obtain ⟨⟨hQ, hj⟩, H1⟩ := chk_iff.1 H0
          obtain ⟨r, h1, h2⟩ := loadK_sound H1
          refine ⟨r, h1, fun G a w S m hR => ?_⟩
          have hv := hR.tmps q
          rw [hx] at hv
          obtain ⟨g, cur, fr, hv, e2, vs, e6, e7⟩ := prw_at (hR.held k _ hk) hQ hj hv
          obtain ⟨z, q1, q2⟩ := run_loads (w := w) (g := g) (o := j * s + fo) h2 ((e6.drop fo).ext (Ext.refl S) (rowNm_le e m)) (fun i v e => by
            rw [List.getElem?_drop] at e
            rw [cell_of_row w g _ cur _ fr e2, Nat.add_assoc]
            exact e7 _ v e)
          refine ⟨⟨g, j * s + fo, none⟩, z, hv, ?_, q2⟩
          simpa [Instr.loadAt, Instr.sureAddr] using q1
        · exact H.elim
      · exact H.elim
    obtain ⟨r, h, he⟩ := get _ h
    obtain ⟨rs, h1, hh⟩ := resL_det (C := C) l _ h
    refine ⟨_, h1, fun G a w S m hR => ?_⟩
    obtain ⟨ad, z, e1, e2, e3⟩ := he G a w S m hR
    obtain ⟨vs, h2, h3, h4⟩ := hh G a w S m hR
    refine ⟨z :: vs, ?_, by simp [h3], ?_⟩
    · simp only [CVl]; exact ⟨_, _, rfl, e3, h2⟩
    · simp only [List.mapM_cons, resOne, Sem.run_bind, e1, asAddr, Sem.run_pure, Result.andThen_ok, e2]
      rw [h4]; rfl
theorem resK_det {P : Program} {E : Env} {C : Cx} {st : St} {fn : Func} {k : AV → Prop} (h : resK P E st fn.results.toList k) :
    ∃ r, k r ∧ ∀ (G : Gh) (a : Act) (w : World) (S : Pin) (m : Nm), Rel G C.kp st a w S m → ∃ v, CV S r m v ∧ (results fn a.tmps).run P w = .ok v w := by
  unfold resK at h
  obtain ⟨rs, h1, hh⟩ := resL_det (C := C) _ _ h
  have hrun : ∀ (a : Act) (w : World) (vs : List Value), (fn.results.toList.mapM (resOne a.tmps)).run P w = .ok vs w → (results fn a.tmps).run P w = .ok (if h : vs.toArray.size = 1 then vs.toArray[0] else .tuple vs.toArray) w := by
    intro a w vs h4
    rw [results_eq, Array.mapM_eq_mapM_toList]
    simp only [Sem.run_bind, Sem.run_map]
    rw [h4]
    rfl
  split at h1
  · rename_i x
    refine ⟨x, h1, fun G a w S m hR => ?_⟩
    obtain ⟨vs, h2, h3, h4⟩ := hh G a w S m hR
    simp only [CVl] at h2
    obtain ⟨u, us, rfl, hu, rfl⟩ := h2
    exact ⟨u, hu, by rw [hrun a w _ h4]; simp⟩
  · rename_i hne
    refine ⟨_, h1, fun G a w S m hR => ?_⟩
    obtain ⟨vs, h2, h3, h4⟩ := hh G a w S m hR
    have hl := h2.len
    refine ⟨.tuple vs.toArray, by simp only [CV]; exact ⟨_, rfl, by simpa using h2⟩, ?_⟩
    rw [hrun a w _ h4]
    have : ¬ vs.toArray.size = 1 := by
      intro e
      simp at e
      rw [e] at hl
      match rs, hl with
      | [x], _ => exact hne x rfl
    rw [dif_neg this]
/-- Nil slices in blocks, where there are any, are own rows of no elements from here on. -/
def nilB (st : St) (t : Nat) : Bool := match lk st.heap (Nat.div (Nat.sub t 1000000) 100) with
  | some (.cells cs) => nilAt cs (Nat.mod t 100)
  | _ => false
def empT (kp : List Nat) : List (Nat × Nat × Nat × Nat) → St → (St → Prop) → Prop
  | [], st, K => K st
  | p :: l, st, K => cond (nilB st p.1) (empN kp [p] st fun st => empT kp l st K) (empT kp l st K)
theorem empT_det {kp : List Nat} : ∀ {l : List (Nat × Nat × Nat × Nat)} {st : St} {K : St → Prop}, empT kp l st K → ∃ st', K st' ∧ Same kp st st'
  | [], st, K, h => ⟨st, h, fun G a w S m hR => ⟨S, m, hR⟩⟩
  | p :: l, st, K, h => by
    simp only [empT] at h
    cases hb : nilB st p.1 with
    | true =>
      rw [hb] at h
      simp only [cond_true] at h
      obtain ⟨s1, h1, e1⟩ := empN_det h
      obtain ⟨s2, h2, e2⟩ := empT_det h1
      exact ⟨s2, h2, e1.trans e2⟩
    | false =>
      rw [hb] at h
      exact empT_det h
def endQ (kp : List Nat) (F : AV → List Blk → Prop) (st : St) (x : AV) : Prop :=
  (fun ks => rnA (fun k => idx k ks 0) x fun y => blksOf (lk st.heap) ks fun bs => rnBs (fun k => idx k ks 0) bs fun cs => F y cs) (foot (lk st.heap) 3 (dedup (nmsA x) kp))
/-- A function whose arguments are what is xs and whose handed blocks are bs: what it answers and leaves is as F tells. -/
@[irreducible] def fnQ (P : Program) (E : Env) (C : Cx) (inv : Nat → St → Option LInv) (fuel : Nat) (fn : Func) (xs : List AV) (bs : List Blk) (F : AV → List Blk → Prop) : Prop :=
  match fn.body with
  | some c => cond (Nat.beq C.nt fn.ntmps && Nat.ble xs.length fn.ntmps && beqNs C.kp (names0 0 bs.length) && (E.nowf && !E.nq))
      (acode P E C inv fuel c ⟨slots xs 0, blkSlots bs 0⟩ (fun st => empT C.kp (C.emp 900000) st fun st => resF2 P E C st fn.results.toList (endQ C.kp F)) (fun _ _ => False) (fun st => empT C.kp (C.emp 900000) st fun st => resF2 P E C st fn.results.toList (endQ C.kp F))) False
  | none => False
theorem fnQ_sound {P : Program} {E : Env} {C : Cx} {inv : Nat → St → Option LInv} {fuel : Nat} (hT : TyOK P C.tys) (hS : SpecOK P E) (hM : P.follows .mixedOrders = true) {f : FuncId} {fn : Func} (hf : P.funcs[f]? = some fn) {xs : List AV} {bs : List Blk} {F : AV → List Blk → Prop}
    (h : fnQ P E C inv fuel fn xs bs F) : ∃ r bs', F r bs' ∧ HC P E.glob f xs bs r bs' := by
  unfold fnQ at h
  split at h
  · rename_i c hc
    obtain ⟨hb, h⟩ := cond_F h
    simp only [Bool.and_eq_true] at hb
    have hnt := Nat.eq_of_beq_eq_true hb.1.1.1
    have hle := Nat.le_of_ble_eq_true hb.1.1.2
    have hkp := beqNs_eq hb.1.2
    have hnw := hb.2.1
    have hnq : E.nq = false := by simpa using hb.2.2
    have key : ∃ o fin, (o = .normal ∨ o = .ret) ∧ empT C.kp (C.emp 900000) fin (fun st => resF2 P E C st fn.results.toList (endQ C.kp F)) ∧ Leads P E C c ⟨slots xs 0, blkSlots bs 0⟩ o fin := by
      obtain ⟨o, fin, ho, hl⟩ := acode_det hnw hnq hT hS hM c _ _ _ _ h
      cases o with
      | normal => exact ⟨.normal, fin, .inl rfl, ho, hl⟩
      | ret => exact ⟨.ret, fin, .inr rfl, ho, hl⟩
      | exit _ => exact ho.elim
      | _ => exact ho.elim
    obtain ⟨o, fin0, ho, hk0, hl⟩ := key
    obtain ⟨fin1, hk0, hsame0⟩ := empT_det hk0
    unfold resF2 at hk0
    obtain ⟨st, hk, hsame1⟩ := frzN_det hk0
    have hsame := hsame0.trans hsame1
    obtain ⟨x, h1, hres⟩ := resK_det (C := C) hk
    unfold endQ at h1
    generalize hks : foot (lk st.heap) 3 (dedup (nmsA x) C.kp) = ks at h1
    have hknd : ks.Nodup := by rw [← hks]; exact foot_nodup _ _ _ (dedup_nodup _ _ (by rw [hkp]; exact names0_nodup _ _))
    have hpre : ∀ q, q < bs.length → ks[q]? = some q := by
      intro q hq
      obtain ⟨t, ht⟩ := dedup_pre (nmsA x) C.kp
      obtain ⟨t', ht'⟩ := foot_pre (lk st.heap) 3 (dedup (nmsA x) C.kp)
      rw [← hks, ht', ht, hkp, List.append_assoc, List.getElem?_append_left (by rw [names0_len]; exact hq), names0_get _ _ _ hq, Nat.zero_add]
    obtain ⟨y, h4, hy⟩ := rnA_sound _ _ h1
    obtain ⟨cs, h5, hcl, hcs⟩ := blksOf_sound _ _ h4
    obtain ⟨ds, h6, hdl, hds⟩ := rnBs_sound _ _ h5
    refine ⟨y, ds, h6, ?_⟩
    intro w S m vs hG hA hnm hheld hinj hv
    have hlen := hv.len
    simp only [Array.length_toList] at hlen
    let G : Gh := ⟨w, S, m, Mof bs.length m⟩
    have hbl : ∀ k b, lk (blkSlots bs 0) k = some b → bs[k]? = some b := by
      intro k b e
      rw [blkSlots_lk] at e
      simpa using e
    have hbl2 : ∀ (k : Nat) (b : Blk), bs[k]? = some b → k < bs.length := fun k b e => (List.getElem?_eq_some_iff.1 e).1
    have hR0 : Rel G C.kp ⟨slots xs 0, blkSlots bs 0⟩ { tmps := vs ++ Array.replicate (fn.ntmps - vs.size) undef, defers := [] } w S m :=
      { defers := rfl
        pin0 := Ext.refl S
        pinNew := fun _ _ _ _ => rfl
        agree := hA
        tmps := fun t => by
          unfold St.get
          rw [slots_lk]
          simp only [Nat.zero_le, if_true, Nat.sub_zero]
          cases e : xs[t]? with
          | none => simp only [CV]
          | some x =>
            obtain ⟨v, hv1, hv2⟩ := hv.get e
            have hlt : t < vs.size := by have := (List.getElem?_eq_some_iff.1 hv1).1; simpa using this
            have : vs[t]? = some v := by simpa using hv1
            simp only [Array.getD_eq_getD_getElem?, Array.getElem?_append_left hlt, this, Option.getD_some]
            exact hv2
        held := fun k b hk => hheld k b (hbl k b hk)
        inj := fun k k' b b' u u' g hk hk' hne hu hu' hg => hinj k k' u u' g (hbl2 k b (hbl k b hk)) (hbl2 k' b' (hbl k' b' hk')) hne hu hu' hg
        own := fun k b u g hk hu hg => .inr ⟨k, u, hbl2 k b (hbl k b hk), hu, hg⟩
        os := rfl
        tape := rfl
        output := rfl
        size := Nat.le_refl _
        frame := fun _ _ _ => rfl
        m0 := MLe.refl _
        keep := fun k u e => by
          have hlt := hnm k u e
          rw [hkp]
          exact List.mem_of_getElem? (by rw [names0_get _ 0 k hlt, Nat.zero_add]) }
    refine calls_of_wp hf hc (Go.wp_mono (hl G hG _ w S m hR0 ?_) ?_)
    · simp; omega
    · have fin : ∀ a w' S0 m0, Rel G C.kp fin0 a w' S0 m0 → a.defers = [] ∧ ∃ v, (results fn a.tmps).run P w' = .ok v w' ∧
          ∃ u S' m', Ending.returned v = .returned u ∧ w'.os = w.os ∧ w'.tape = w.tape ∧ w'.output = w.output ∧ w.heap.size ≤ w'.heap.size ∧ Ext S S' ∧
      (∀ b, b < w.heap.size → ¬ Mof bs.length m b → w'.heap[b]? = w.heap[b]? ∧ ∀ o, S' b o = S b o) ∧ Agree S' w' ∧
      (∀ (q : Nat) (b : Blk), ds[q]? = some b → Held S' m' w' q b) ∧ InjB ds.length m' ∧ (∀ q u g, q < ds.length → m' q = some u → bk u = some g → w.heap.size ≤ g ∨ Mof bs.length m g) ∧ MLe m m' ∧ CV S' y m' u := by
        intro a w' S0 m0 hR0
        obtain ⟨S', m', hR⟩ := hsame G a w' S0 m0 hR0
        obtain ⟨v, h2, h3⟩ := hres G a w' S' m' hR
        let m2 : Nm := fun q => (ks[q]?).bind m'
        have hRn : Rn (fun k => idx k ks 0) m' m2 := by
          intro i j hij
          have := (idx_get hij).2
          simp only [Nat.sub_zero] at this
          simp only [m2, this, Option.bind_some]
        have hm2 : ∀ q k, ks[q]? = some k → m2 q = m' k := fun q k e => by simp only [m2, e, Option.bind_some]
        have hlen' : ds.length = ks.length := by rw [hdl, hcl]
        have hkb : ∀ (q k : Nat), ks[q]? = some k → ∃ b, lk st.heap k = some b := fun q k e => by obtain ⟨b, _, hb⟩ := hcs q k e; exact ⟨b, hb⟩
        refine ⟨hR.defers, v, h3, v, S', m2, rfl, hR.os, hR.tape, hR.output, hR.size, hR.pin0, fun b hb hn => ⟨hR.frame b hb hn, fun o => hR.pinNew b o hb hn⟩, hR.agree, ?_, ?_, ?_, ?_, hy S' m' m2 v hRn h2⟩
        · intro q b hb
          have hql : q < ks.length := by rw [← hlen']; exact (List.getElem?_eq_some_iff.1 hb).1
          obtain ⟨c0, hc0, hh⟩ := hcs q ks[q] (by simp [hql])
          have hidx : idx ks[q] ks 0 = some q := by
            have key : ∀ (l : List Nat) (q i : Nat) (h : q < l.length), l.Nodup → idx l[q] l i = some (i + q) := by
              intro l
              induction l with
              | nil => intro q i h; simp at h
              | cons j l ih =>
                intro q i h hn
                rw [List.nodup_cons] at hn
                cases q with
                | zero => simp [idx, nbeq_self]
                | succ q =>
                  simp at h
                  simp only [idx, List.getElem_cons_succ]
                  rw [nbeq_ne (fun e => hn.1 (by rw [e]; exact List.getElem_mem h))]
                  simp only [cond_false]
                  rw [ih q (i + 1) h hn.2]
                  congr 1; omega
            simpa using key ks q 0 hql hknd
          exact hds q c0 b hc0 hb S' m' m2 w' ks[q] q hRn hidx (hR.held _ _ hh)
        · intro q q' u u' g hq hq' hne hu hu' hg
          rw [hlen'] at hq hq'
          rw [hm2 q ks[q] (by simp [hq])] at hu
          rw [hm2 q' ks[q'] (by simp [hq'])] at hu'
          obtain ⟨b, hb⟩ := hkb q ks[q] (by simp [hq])
          obtain ⟨b', hb'⟩ := hkb q' ks[q'] (by simp [hq'])
          exact hR.inj _ _ b b' u u' g hb hb' (fun e => hne (nodup_inj (k := ks[q]) hknd (p := q) (q := q') (by simp [hq]) (by rw [e]; simp [hq']))) hu hu' hg
        · intro q u g hq hu hg
          rw [hlen'] at hq
          rw [hm2 q ks[q] (by simp [hq])] at hu
          obtain ⟨b, hb⟩ := hkb q ks[q] (by simp [hq])
          exact hR.own _ b u g hb hu hg
        · intro k u hu
          obtain ⟨u', h9, h10⟩ := hR.m0 k u hu
          exact ⟨u', by rw [hm2 k k (hpre k (hnm k u hu))]; exact h9, h10⟩
      intro e a w' he
      obtain ⟨rfl, S', m', hR, _⟩ := he
      rcases ho with rfl | rfl
      · exact fin a w' S' m' hR
      · exact fin a w' S' m' hR
  · exact h.elim
end Go.Proofs.YthdfkiopppkfcaaDoor
