/- Walks: mean, Mean, MeanSquare, Skill, added, Merge of score, and the reference's over, Mean, MeanSquare, Skill. -/
import Derived.Test.YtjllgdpnbllnjaaScQ
import Derived.Test.YtjllgdpnbllnjaaScG
namespace Go.Proofs.Ytjllgdpnbllnjaa
open Go.RowKit

/-- What mean gives. -/
def meanS (num den : Int) : Int × Int × Int := if den < 1 then (9, 0, 0) else redS num den
def bigS : Int := 288230376151711744
/-- What Skill gives: of the numbers and squares of both. -/
def skillS (n s rn rs : Int) : Int × Int × Int :=
  if n < 1 ∨ rn < 1 ∨ n ≠ rn ∨ rs = 0 then (9, 0, 0) else if inB s 0 bigS = false ∨ inB rs 0 bigS = false then (1, 0, 0) else redS (rs - s) rs


set_option maxHeartbeats 1000000 in
theorem mean_any (num den : Int) (w : World) (gn : I64 num) (gd : I64 den) :
    Calls Try.prog 45 #[.int .i64 num, .int .i64 den] w fun e w' => FRes w w' e (meanS num den) := by
  have M := Lib.hid ((Mm.start w).new 28 #[.int .i64 0, .int .i64 0])
  by_cases h1 : den < 1
  · have HS : Hid (meanS num den = (9, 0, 0)) := hidI (by unfold meanS; rw [if_pos h1])
    clear gn gd
    go_enter Try.func45, Try.ntmps45
    go_wp2
    refine bodyPost_ret (v := .tuple #[.agg #[.int .i64 0, .int .i64 0], .int .i64 9]) (by simp [results, Try.results45, go_sem]) rfl ?_
    rw [HS.out]
    exact ⟨rfl, M.out.below⟩
  · have HS : Hid (meanS num den = redS num den) := hidI (by unfold meanS; rw [if_neg h1])
    replace gn := Lib.hid gn
    replace gd := Lib.hid gd
    go_enter Try.func45, Try.ntmps45
    go_wp2_with fail
    refine (reduce_any num den _ gn.out gd.out).mono ?_
    rintro e w1 ⟨rfl, hb⟩
    replace M := Lib.hid (M.out.next hb)
    clear hb
    generalize redS num den = r at HS ⊢
    obtain ⟨rc, rn, rd⟩ := r
    have r0 := M.out.c 0 0 rfl rfl
    have r1 := M.out.c 0 1 rfl rfl
    have r2 := M.out.f 0 0 rfl
    have r3 := M.out.f 0 1 rfl
    go_wp2
    refine bodyPost_ret (v := .tuple #[.agg #[.int .i64 rn, .int .i64 rd], .int .i64 rc]) (by simp [results, Try.results45, go_sem, r0, r1]) rfl ?_
    rw [HS.out]
    exact ⟨rfl, ((M.out.put 0 0 _ rfl).put 0 1 _ rfl).below⟩


set_option maxHeartbeats 1000000 in
theorem rmean_any (num den : Int) (w : World) (gn : I64 num) (gd : I64 den) :
    Calls Try.prog 50 #[.int .i64 num, .int .i64 den] w fun e w' => FRes w w' e (meanS num den) := by
  have M := Lib.hid ((Mm.start w).new 28 #[.int .i64 0, .int .i64 0])
  by_cases h1 : den < 1
  · have HS : Hid (meanS num den = (9, 0, 0)) := hidI (by unfold meanS; rw [if_pos h1])
    clear gn gd
    go_enter Try.func50, Try.ntmps50
    go_wp2
    refine bodyPost_ret (v := .tuple #[.agg #[.int .i64 0, .int .i64 0], .int .i64 9]) (by simp [results, Try.results50, go_sem]) rfl ?_
    rw [HS.out]
    exact ⟨rfl, M.out.below⟩
  · have HS : Hid (meanS num den = redS num den) := hidI (by unfold meanS; rw [if_neg h1])
    replace gn := Lib.hid gn
    replace gd := Lib.hid gd
    go_enter Try.func50, Try.ntmps50
    go_wp2_with fail
    refine (rreduce_any num den _ gn.out gd.out).mono ?_
    rintro e w1 ⟨rfl, hb⟩
    replace M := Lib.hid (M.out.next hb)
    clear hb
    generalize redS num den = r at HS ⊢
    obtain ⟨rc, rn, rd⟩ := r
    have r0 := M.out.c 0 0 rfl rfl
    have r1 := M.out.c 0 1 rfl rfl
    have r2 := M.out.f 0 0 rfl
    have r3 := M.out.f 0 1 rfl
    go_wp2
    refine bodyPost_ret (v := .tuple #[.agg #[.int .i64 rn, .int .i64 rd], .int .i64 rc]) (by simp [results, Try.results50, go_sem, r0, r1]) rfl ?_
    rw [HS.out]
    exact ⟨rfl, ((M.out.put 0 0 _ rfl).put 0 1 _ rfl).below⟩


set_option maxHeartbeats 1000000 in
theorem meanE_any (n s a q : Int) (w : World) (g0 : I64 n) (g1 : I64 s) :
    Calls Try.prog 23 #[.agg #[.int .i64 n, .int .i64 s, .int .i64 a, .int .i64 q]] w fun e w' => FRes w w' e (meanS s n) := by
  have M := Lib.hid (((Mm.start w).new 42 #[.int .i64 n, .int .i64 s, .int .i64 a, .int .i64 q]).new' (g := w.heap.size + 1) 28 #[.int .i64 0, .int .i64 0] (by simp))
  replace g0 := Lib.hid g0
  replace g1 := Lib.hid g1
  go_enter Try.func23, Try.ntmps23
  go_wp2_with fail
  refine (mean_any _ _ _ g1.out g0.out).mono ?_
  rintro e w1 ⟨rfl, hb⟩
  replace M := Lib.hid (M.out.next hb)
  clear hb
  obtain ⟨r, hr⟩ : ∃ r, meanS s n = r := ⟨_, rfl⟩
  have HS := Lib.hid hr
  rw [hr]
  clear hr
  obtain ⟨rc, rn, rd⟩ := r
  have r0 := M.out.c 0 0 rfl rfl
  have r1 := M.out.c 0 1 rfl rfl
  have r2 := M.out.f 0 0 rfl
  have r3 := M.out.f 0 1 rfl
  go_wp2
  refine bodyPost_ret (v := .tuple #[.agg #[.int .i64 rn, .int .i64 rd], .int .i64 rc]) (by simp [results, Try.results23, go_sem, r0, r1]) rfl ?_
  rw [HS.out]
  exact ⟨rfl, ((M.out.put 0 0 _ rfl).put 0 1 _ rfl).below⟩


set_option maxHeartbeats 1000000 in
theorem meansq_any (n s a q : Int) (w : World) (g0 : I64 n) (g1 : I64 q) :
    Calls Try.prog 24 #[.agg #[.int .i64 n, .int .i64 s, .int .i64 a, .int .i64 q]] w fun e w' => FRes w w' e (meanS q n) := by
  have M := Lib.hid (((Mm.start w).new 42 #[.int .i64 n, .int .i64 s, .int .i64 a, .int .i64 q]).new' (g := w.heap.size + 1) 28 #[.int .i64 0, .int .i64 0] (by simp))
  replace g0 := Lib.hid g0
  replace g1 := Lib.hid g1
  go_enter Try.func24, Try.ntmps24
  go_wp2_with fail
  refine (mean_any _ _ _ g1.out g0.out).mono ?_
  rintro e w1 ⟨rfl, hb⟩
  replace M := Lib.hid (M.out.next hb)
  clear hb
  obtain ⟨r, hr⟩ : ∃ r, meanS q n = r := ⟨_, rfl⟩
  have HS := Lib.hid hr
  rw [hr]
  clear hr
  obtain ⟨rc, rn, rd⟩ := r
  have r0 := M.out.c 0 0 rfl rfl
  have r1 := M.out.c 0 1 rfl rfl
  have r2 := M.out.f 0 0 rfl
  have r3 := M.out.f 0 1 rfl
  go_wp2
  refine bodyPost_ret (v := .tuple #[.agg #[.int .i64 rn, .int .i64 rd], .int .i64 rc]) (by simp [results, Try.results24, go_sem, r0, r1]) rfl ?_
  rw [HS.out]
  exact ⟨rfl, ((M.out.put 0 0 _ rfl).put 0 1 _ rfl).below⟩


set_option maxHeartbeats 1000000 in
theorem rmeanE_any (n s a q : Int) (w : World) (g0 : I64 n) (g1 : I64 s) :
    Calls Try.prog 31 #[.agg #[.int .i64 n, .int .i64 s, .int .i64 a, .int .i64 q]] w fun e w' => FRes w w' e (meanS s n) := by
  have M := Lib.hid (((Mm.start w).new 42 #[.int .i64 n, .int .i64 s, .int .i64 a, .int .i64 q]).new' (g := w.heap.size + 1) 28 #[.int .i64 0, .int .i64 0] (by simp))
  replace g0 := Lib.hid g0
  replace g1 := Lib.hid g1
  go_enter Try.func31, Try.ntmps31
  go_wp2_with fail
  refine (rmean_any _ _ _ g1.out g0.out).mono ?_
  rintro e w1 ⟨rfl, hb⟩
  replace M := Lib.hid (M.out.next hb)
  clear hb
  obtain ⟨r, hr⟩ : ∃ r, meanS s n = r := ⟨_, rfl⟩
  have HS := Lib.hid hr
  rw [hr]
  clear hr
  obtain ⟨rc, rn, rd⟩ := r
  have r0 := M.out.c 0 0 rfl rfl
  have r1 := M.out.c 0 1 rfl rfl
  have r2 := M.out.f 0 0 rfl
  have r3 := M.out.f 0 1 rfl
  go_wp2
  refine bodyPost_ret (v := .tuple #[.agg #[.int .i64 rn, .int .i64 rd], .int .i64 rc]) (by simp [results, Try.results31, go_sem, r0, r1]) rfl ?_
  rw [HS.out]
  exact ⟨rfl, ((M.out.put 0 0 _ rfl).put 0 1 _ rfl).below⟩


set_option maxHeartbeats 1000000 in
theorem rmeansq_any (n s a q : Int) (w : World) (g0 : I64 n) (g1 : I64 q) :
    Calls Try.prog 32 #[.agg #[.int .i64 n, .int .i64 s, .int .i64 a, .int .i64 q]] w fun e w' => FRes w w' e (meanS q n) := by
  have M := Lib.hid (((Mm.start w).new 42 #[.int .i64 n, .int .i64 s, .int .i64 a, .int .i64 q]).new' (g := w.heap.size + 1) 28 #[.int .i64 0, .int .i64 0] (by simp))
  replace g0 := Lib.hid g0
  replace g1 := Lib.hid g1
  go_enter Try.func32, Try.ntmps32
  go_wp2_with fail
  refine (rmean_any _ _ _ g1.out g0.out).mono ?_
  rintro e w1 ⟨rfl, hb⟩
  replace M := Lib.hid (M.out.next hb)
  clear hb
  obtain ⟨r, hr⟩ : ∃ r, meanS q n = r := ⟨_, rfl⟩
  have HS := Lib.hid hr
  rw [hr]
  clear hr
  obtain ⟨rc, rn, rd⟩ := r
  have r0 := M.out.c 0 0 rfl rfl
  have r1 := M.out.c 0 1 rfl rfl
  have r2 := M.out.f 0 0 rfl
  have r3 := M.out.f 0 1 rfl
  go_wp2
  refine bodyPost_ret (v := .tuple #[.agg #[.int .i64 rn, .int .i64 rd], .int .i64 rc]) (by simp [results, Try.results32, go_sem, r0, r1]) rfl ?_
  rw [HS.out]
  exact ⟨rfl, ((M.out.put 0 0 _ rfl).put 0 1 _ rfl).below⟩


set_option maxHeartbeats 2000000 in
theorem skill_any (n s a q rn rs ra rq : Int) (w : World) :
    Calls Try.prog 25 #[.agg #[.int .i64 n, .int .i64 s, .int .i64 a, .int .i64 q], .agg #[.int .i64 rn, .int .i64 rs, .int .i64 ra, .int .i64 rq]] w fun e w' => FRes w w' e (skillS n q rn rq) := by
  have M := Lib.hid ((((Mm.start w).new 42 #[.int .i64 n, .int .i64 s, .int .i64 a, .int .i64 q]).new' (g := w.heap.size + 1) 42 #[.int .i64 rn, .int .i64 rs, .int .i64 ra, .int .i64 rq] (by simp)).new' (g := w.heap.size + 2) 28 #[.int .i64 0, .int .i64 0] (by simp))
  by_cases h1 : n < 1
  · have HS : Hid (skillS n q rn rq = (9, 0, 0)) := hidI (by unfold skillS; rw [if_pos (.inl h1)])
    go_enter Try.func25, Try.ntmps25
    go_wp2_with (go_at_call 46; refine (within_any _ _ _ _).mono ?_; rintro e w' ⟨rfl, rfl⟩)
    refine bodyPost_ret (v := .tuple #[.agg #[.int .i64 0, .int .i64 0], .int .i64 9]) (by simp [results, Try.results25, go_sem]) rfl ?_
    rw [HS.out]
    exact ⟨rfl, M.out.below⟩
  by_cases h2 : rn < 1
  · have HS : Hid (skillS n q rn rq = (9, 0, 0)) := hidI (by unfold skillS; rw [if_pos (.inr (.inl h2))])
    go_enter Try.func25, Try.ntmps25
    go_wp2_with (go_at_call 46; refine (within_any _ _ _ _).mono ?_; rintro e w' ⟨rfl, rfl⟩)
    refine bodyPost_ret (v := .tuple #[.agg #[.int .i64 0, .int .i64 0], .int .i64 9]) (by simp [results, Try.results25, go_sem]) rfl ?_
    rw [HS.out]
    exact ⟨rfl, M.out.below⟩
  by_cases h3 : n = rn
  case neg =>
    have HS : Hid (skillS n q rn rq = (9, 0, 0)) := hidI (by unfold skillS; rw [if_pos (.inr (.inr (.inl h3)))])
    have h3' : (n == rn) = false := by simpa using h3
    have h3'' : (n != rn) = true := by simpa using h3
    clear h3
    go_enter Try.func25, Try.ntmps25
    go_wp2_with (go_at_call 46; refine (within_any _ _ _ _).mono ?_; rintro e w' ⟨rfl, rfl⟩)
    refine bodyPost_ret (v := .tuple #[.agg #[.int .i64 0, .int .i64 0], .int .i64 9]) (by simp [results, Try.results25, go_sem]) rfl ?_
    rw [HS.out]
    exact ⟨rfl, M.out.below⟩
  case pos =>
  subst h3
  by_cases h4 : rq = 0
  · have HS : Hid (skillS n q n rq = (9, 0, 0)) := hidI (by unfold skillS; rw [if_pos (.inr (.inr (.inr h4)))])
    subst h4
    go_enter Try.func25, Try.ntmps25
    go_wp2_with (go_at_call 46; refine (within_any _ _ _ _).mono ?_; rintro e w' ⟨rfl, rfl⟩)
    refine bodyPost_ret (v := .tuple #[.agg #[.int .i64 0, .int .i64 0], .int .i64 9]) (by simp [results, Try.results25, go_sem]) rfl ?_
    rw [HS.out]
    exact ⟨rfl, M.out.below⟩
  have HS0 : Hid (skillS n q n rq = if inB q 0 bigS = false ∨ inB rq 0 bigS = false then (1, 0, 0) else redS (rq - q) rq) := hidI (by unfold skillS; rw [if_neg (by omega)])
  have h4' : (rq == 0) = false := by simpa using h4
  clear h4
  cases h5 : inB q 0 288230376151711744 with
  | false =>
    have HS : Hid (skillS n q n rq = (1, 0, 0)) := hidI (by rw [HS0.out, if_pos (.inl h5)])
    clear HS0
    go_enter Try.func25, Try.ntmps25
    go_wp2_with (go_at_call 46; refine (within_any _ _ _ _).mono ?_; rintro e w' ⟨rfl, rfl⟩)
    refine bodyPost_ret (v := .tuple #[.agg #[.int .i64 0, .int .i64 0], .int .i64 1]) (by simp [results, Try.results25, go_sem]) rfl ?_
    rw [HS.out]
    exact ⟨rfl, M.out.below⟩
  | true =>
  cases h6 : inB rq 0 288230376151711744 with
  | false =>
    have HS : Hid (skillS n q n rq = (1, 0, 0)) := hidI (by rw [HS0.out, if_pos (.inr h6)])
    clear HS0
    go_enter Try.func25, Try.ntmps25
    go_wp2_with (go_at_call 46; refine (within_any _ _ _ _).mono ?_; rintro e w' ⟨rfl, rfl⟩)
    refine bodyPost_ret (v := .tuple #[.agg #[.int .i64 0, .int .i64 0], .int .i64 1]) (by simp [results, Try.results25, go_sem]) rfl ?_
    rw [HS.out]
    exact ⟨rfl, M.out.below⟩
  | true =>
  have h5' := inB_iff.1 h5
  have h6' := inB_iff.1 h6
  have HS : Hid (skillS n q n rq = redS (rq - q) rq) := hidI (by rw [HS0.out, if_neg (by rw [show inB q 0 bigS = true from h5, show inB rq 0 bigS = true from h6]; simp)])
  obtain ⟨h51, h52⟩ := h5'
  obtain ⟨h61, h62⟩ := h6'
  have C := Lib.hid (fun W => reduce_any (rq - q) rq W (by unfold I64; omega) (by unfold I64; omega))
  generalize redS (rq - q) rq = r at HS C
  obtain ⟨rc, n', d'⟩ := r
  clear HS0
  go_enter Try.func25, Try.ntmps25
  go_wp2_with (go_at_call 46; refine (within_any _ _ _ _).mono ?_; rintro e w' ⟨rfl, rfl⟩)
  refine (C.out _).mono ?_
  rintro e w1 ⟨rfl, hb⟩
  replace M := Lib.hid (M.out.next hb)
  clear hb
  have r0 := M.out.c 0 0 rfl rfl
  have r1 := M.out.c 0 1 rfl rfl
  have r2 := M.out.f 0 0 rfl
  have r3 := M.out.f 0 1 rfl
  go_wp2
  refine bodyPost_ret (v := .tuple #[.agg #[.int .i64 n', .int .i64 d'], .int .i64 rc]) (by simp [results, Try.results25, go_sem, r0, r1]) rfl ?_
  rw [HS.out]
  exact ⟨rfl, ((M.out.put 0 0 _ rfl).put 0 1 _ rfl).below⟩


set_option maxHeartbeats 2000000 in
theorem rskill_any (n s a q rn rs ra rq : Int) (w : World) :
    Calls Try.prog 33 #[.agg #[.int .i64 n, .int .i64 s, .int .i64 a, .int .i64 q], .agg #[.int .i64 rn, .int .i64 rs, .int .i64 ra, .int .i64 rq]] w fun e w' => FRes w w' e (skillS n q rn rq) := by
  have M := Lib.hid ((((Mm.start w).new 42 #[.int .i64 n, .int .i64 s, .int .i64 a, .int .i64 q]).new' (g := w.heap.size + 1) 42 #[.int .i64 rn, .int .i64 rs, .int .i64 ra, .int .i64 rq] (by simp)).new' (g := w.heap.size + 2) 28 #[.int .i64 0, .int .i64 0] (by simp))
  by_cases h1 : n < 1
  · have HS : Hid (skillS n q rn rq = (9, 0, 0)) := hidI (by unfold skillS; rw [if_pos (.inl h1)])
    go_enter Try.func33, Try.ntmps33
    go_wp2_with fail
    refine bodyPost_ret (v := .tuple #[.agg #[.int .i64 0, .int .i64 0], .int .i64 9]) (by simp [results, Try.results33, go_sem]) rfl ?_
    rw [HS.out]
    exact ⟨rfl, M.out.below⟩
  by_cases h2 : rn < 1
  · have HS : Hid (skillS n q rn rq = (9, 0, 0)) := hidI (by unfold skillS; rw [if_pos (.inr (.inl h2))])
    go_enter Try.func33, Try.ntmps33
    go_wp2_with fail
    refine bodyPost_ret (v := .tuple #[.agg #[.int .i64 0, .int .i64 0], .int .i64 9]) (by simp [results, Try.results33, go_sem]) rfl ?_
    rw [HS.out]
    exact ⟨rfl, M.out.below⟩
  by_cases h3 : n = rn
  case neg =>
    have HS : Hid (skillS n q rn rq = (9, 0, 0)) := hidI (by unfold skillS; rw [if_pos (.inr (.inr (.inl h3)))])
    have h3' : (n == rn) = false := by simpa using h3
    have h3'' : (n != rn) = true := by simpa using h3
    clear h3
    go_enter Try.func33, Try.ntmps33
    go_wp2_with fail
    refine bodyPost_ret (v := .tuple #[.agg #[.int .i64 0, .int .i64 0], .int .i64 9]) (by simp [results, Try.results33, go_sem]) rfl ?_
    rw [HS.out]
    exact ⟨rfl, M.out.below⟩
  case pos =>
  subst h3
  by_cases h4 : rq = 0
  · have HS : Hid (skillS n q n rq = (9, 0, 0)) := hidI (by unfold skillS; rw [if_pos (.inr (.inr (.inr h4)))])
    subst h4
    go_enter Try.func33, Try.ntmps33
    go_wp2_with fail
    refine bodyPost_ret (v := .tuple #[.agg #[.int .i64 0, .int .i64 0], .int .i64 9]) (by simp [results, Try.results33, go_sem]) rfl ?_
    rw [HS.out]
    exact ⟨rfl, M.out.below⟩
  have HS0 : Hid (skillS n q n rq = if inB q 0 bigS = false ∨ inB rq 0 bigS = false then (1, 0, 0) else redS (rq - q) rq) := hidI (by unfold skillS; rw [if_neg (by omega)])
  have h4' : (rq == 0) = false := by simpa using h4
  clear h4
  by_cases h5lt : q < 0
  · have HS : Hid (skillS n q n rq = (1, 0, 0)) := hidI (by rw [HS0.out, if_pos (.inl (by unfold inB bigS; simp; omega))])
    clear HS0
    go_enter Try.func33, Try.ntmps33
    go_wp2_with fail
    refine bodyPost_ret (v := .tuple #[.agg #[.int .i64 0, .int .i64 0], .int .i64 1]) (by simp [results, Try.results33, go_sem]) rfl ?_
    rw [HS.out]
    exact ⟨rfl, M.out.below⟩
  by_cases h5gt : 288230376151711744 < q
  · have HS : Hid (skillS n q n rq = (1, 0, 0)) := hidI (by rw [HS0.out, if_pos (.inl (by unfold inB bigS; simp; omega))])
    clear HS0
    go_enter Try.func33, Try.ntmps33
    go_wp2_with fail
    refine bodyPost_ret (v := .tuple #[.agg #[.int .i64 0, .int .i64 0], .int .i64 1]) (by simp [results, Try.results33, go_sem]) rfl ?_
    rw [HS.out]
    exact ⟨rfl, M.out.below⟩
  by_cases h6lt : rq < 0
  · have HS : Hid (skillS n q n rq = (1, 0, 0)) := hidI (by rw [HS0.out, if_pos (.inr (by unfold inB bigS; simp; omega))])
    clear HS0
    go_enter Try.func33, Try.ntmps33
    go_wp2_with fail
    refine bodyPost_ret (v := .tuple #[.agg #[.int .i64 0, .int .i64 0], .int .i64 1]) (by simp [results, Try.results33, go_sem]) rfl ?_
    rw [HS.out]
    exact ⟨rfl, M.out.below⟩
  by_cases h6gt : 288230376151711744 < rq
  · have HS : Hid (skillS n q n rq = (1, 0, 0)) := hidI (by rw [HS0.out, if_pos (.inr (by unfold inB bigS; simp; omega))])
    clear HS0
    go_enter Try.func33, Try.ntmps33
    go_wp2_with fail
    refine bodyPost_ret (v := .tuple #[.agg #[.int .i64 0, .int .i64 0], .int .i64 1]) (by simp [results, Try.results33, go_sem]) rfl ?_
    rw [HS.out]
    exact ⟨rfl, M.out.below⟩
  have h5 : inB q 0 288230376151711744 = true := inB_iff.2 ⟨by omega, by omega⟩
  have h6 : inB rq 0 288230376151711744 = true := inB_iff.2 ⟨by omega, by omega⟩
  have h5' := inB_iff.1 h5
  have h6' := inB_iff.1 h6
  have HS : Hid (skillS n q n rq = redS (rq - q) rq) := hidI (by rw [HS0.out, if_neg (by rw [show inB q 0 bigS = true from h5, show inB rq 0 bigS = true from h6]; simp)])
  obtain ⟨h51, h52⟩ := h5'
  obtain ⟨h61, h62⟩ := h6'
  have C := Lib.hid (fun W => rreduce_any (rq - q) rq W (by unfold I64; omega) (by unfold I64; omega))
  generalize redS (rq - q) rq = r at HS C
  obtain ⟨rc, n', d'⟩ := r
  clear HS0
  go_enter Try.func33, Try.ntmps33
  go_wp2_with fail
  refine (C.out _).mono ?_
  rintro e w1 ⟨rfl, hb⟩
  replace M := Lib.hid (M.out.next hb)
  clear hb
  have r0 := M.out.c 0 0 rfl rfl
  have r1 := M.out.c 0 1 rfl rfl
  have r2 := M.out.f 0 0 rfl
  have r3 := M.out.f 0 1 rfl
  go_wp2
  refine bodyPost_ret (v := .tuple #[.agg #[.int .i64 n', .int .i64 d'], .int .i64 rc]) (by simp [results, Try.results33, go_sem, r0, r1]) rfl ?_
  rw [HS.out]
  exact ⟨rfl, ((M.out.put 0 0 _ rfl).put 0 1 _ rfl).below⟩

end Go.Proofs.Ytjllgdpnbllnjaa