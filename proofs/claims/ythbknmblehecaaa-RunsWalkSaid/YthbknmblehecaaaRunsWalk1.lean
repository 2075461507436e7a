/- What runs.Take, Put, Right and the document's answer: for RunsWalk. No statement is proved here. -/
import Derived.Test.YthbknmblehecaaaRunsLaw2
import Derived.Test.YthbknmblehecaaaPrx5
import Derived.Test.YthbknmblehecaaaPrx12
import Derived.Test.YthbknmblehecaaaPrx13
import Derived.Test.YthbknmblehecaaaPrx14
namespace Go.Proofs.Ythbknmblehecaaa.Pure
set_option linter.unusedVariables false
set_option linter.unusedSimpArgs false
open Go.RowKit Go.Proofs.Ythbknmblehecaaa.Pr Go.Proofs.YthbknmblehecaaaW.PrintWords Go.Proofs.YthbknmblehecaaaW.PrintLast Go.Proofs.YthbknmblehecaaaW.PrintMore

theorem awake5_ev : Ev (fun k => rickyardlaw5_awake.f k) true := by
  have h1 := take_some (p := 256) (e := -1) (l := [⟨0, 4⟩, ⟨8, 2⟩]) (n := 2) (by simp [rt]) (by omega) (by omega) (by simp) (by omega) rfl
  have h2 := put_ev (l := [⟨2, 2⟩, ⟨8, 2⟩]) (e := -1) (a := 4) (b := 4) (by simp [rt]) (by omega) (by omega) (by omega) (by omega)
  have h3 := same_ev [⟨2, 2⟩, ⟨8, 2⟩] [⟨2, 2⟩, ⟨8, 2⟩] (by simp)
  have h4 := same_ev [⟨2, 8⟩] [⟨2, 8⟩] (by simp)
  have h5 := total_ev (l := [⟨2, 8⟩]) (by simp [rt])
  have e2 : putR [⟨2, 2⟩, ⟨8, 2⟩] 4 4 = ([⟨2, 8⟩], 0) := by decide
  have e3 : tk 2 [⟨0, 4⟩, ⟨8, 2⟩] = [⟨2, 2⟩, ⟨8, 2⟩] := by decide
  have e4 : tat 2 [⟨0, 4⟩, ⟨8, 2⟩] = 0 := by decide
  rw [e2] at h2
  rw [e3, e4] at h1
  have e5 : tot [⟨2, 8⟩] = 8 := by decide
  rw [e5] at h5
  simp only [decide_true] at h3 h4
  obtain ⟨K2, h2⟩ := h2
  obtain ⟨K3, h3⟩ := h3
  obtain ⟨K4, h4⟩ := h4
  obtain ⟨K5, h5⟩ := h5
  obtain ⟨k, hk⟩ : ∃ k, k = K2 + K3 + K4 + K5 := ⟨_, rfl⟩
  have h2 := h2 k (by omega)
  have h3 := h3 k (by omega)
  have h4 := h4 k (by omega)
  have h5 := h5 k (by omega)
  refine Ev.of (fun k => rickyardlaw5_awake.mono k) (k := k) ?_
  simp only [rickyardlaw5_awake.f, h1, h2, h3, h4, h5, Option.bind_some, if_true]
  rfl
theorem rfit_low (n : Int) (hn : ¬ n ≥ 1) (suf : List Rn) : ∀ (pre : List Rn), (pre ++ suf).length < 9223372036854775807 →
    Ev (fun k => rickyardref1_Fit.l0 k (pre ++ suf) n (pre.length : Int)) (0, false) := by
  induction suf with
  | nil =>
    intro pre h3
    refine Ev.step1 (fun k => ?_)
    simp only [rickyardref1_Fit.l0]
    rw [if_neg (end_nlt pre)]
  | cons x suf ih =>
    intro pre h3
    have hl : pre.length < 9223372036854775807 := by simp at h3; omega
    have := ih (pre ++ [x]) (by simpa using h3)
    rw [← snoc] at this
    refine Ev.step (fun k => ?_) this
    simp only [rickyardref1_Fit.l0]
    rw [if_pos (mid_lt pre x suf), if_neg hn, nxt pre x hl]
theorem rfit_l0 (n : Int) (hn : n ≥ 1) (suf : List Rn) : ∀ (pre : List Rn), (pre ++ suf).length < 9223372036854775807 →
    Ev (fun k => rickyardref1_Fit.l0 k (pre ++ suf) n (pre.length : Int)) (if idxB (fun x : Rn => decide (n ≤ x.f1)) suf (pre.length : Int) < 0 then (0, false) else (idxB (fun x : Rn => decide (n ≤ x.f1)) suf (pre.length : Int), true)) := by
  induction suf with
  | nil =>
    intro pre h3
    refine Ev.step1 (fun k => ?_)
    simp only [rickyardref1_Fit.l0]
    rw [if_neg (end_nlt pre)]
    rfl
  | cons x suf ih =>
    intro pre h3
    have hl : pre.length < 9223372036854775807 := by simp at h3; omega
    by_cases c : x.f1 ≥ n
    · have e : idxB (fun x : Rn => decide (n ≤ x.f1)) (x :: suf) (pre.length : Int) = (pre.length : Int) := by
        unfold idxB
        rw [if_pos (decide_eq_true c)]
      rw [e, if_neg (by omega)]
      refine Ev.step1 (fun k => ?_)
      simp only [rickyardref1_Fit.l0]
      rw [if_pos (mid_lt pre x suf), if_pos hn, if_pos (nn _), rd_mid, if_pos c]
    · have e : idxB (fun x : Rn => decide (n ≤ x.f1)) (x :: suf) (pre.length : Int) = idxB (fun x : Rn => decide (n ≤ x.f1)) suf ((pre ++ [x]).length : Int) := by
        rw [idxB, if_neg (by simpa using c)]
        simp
      have := ih (pre ++ [x]) (by simpa using h3)
      rw [← snoc] at this
      rw [e]
      refine Ev.step (fun k => ?_) this
      simp only [rickyardref1_Fit.l0]
      rw [if_pos (mid_lt pre x suf), if_pos hn, if_pos (nn _), rd_mid, if_neg c, nxt pre x hl]
theorem rfit_ev (l : List Rn) (n : Int) (hl : l.length < 9223372036854775807) : Ev (fun k => rickyardref1_Fit.f k l n) (fitS l n) := by
  unfold fitS
  by_cases c : n < 1
  · rw [if_pos c]
    exact Ev.congr (fun k => by rfl) (rfit_low n (by omega) l [] (by simpa using hl))
  · rw [if_neg c]
    exact Ev.congr (fun k => by rfl) (rfit_l0 n (by omega) l [] (by simpa using hl))
theorem rtake_other (pre suf : List Rn) (x : Rn) (n j : Int) (acc : List Rn) (hj : ¬ (pre.length : Int) = j) (hx : x.f1 > 0) (ha : acc.length < 8796093022208) (hl : pre.length < 9223372036854775807) (k : Nat) :
    rickyardref1_TakeRun.l0 (k + 1) (pre ++ x :: suf) n j acc (pre.length : Int) = rickyardref1_TakeRun.l0 k (pre ++ x :: suf) n j (acc ++ [x]) ((pre ++ [x]).length : Int) := by
  simp only [rickyardref1_TakeRun.l0]
  rw [if_pos (mid_lt pre x suf), if_pos (nn _), if_neg hj, rd_mid, if_pos hx, if_pos ha, nxt pre x hl]
theorem rtake_after (n : Int) (j : Nat) (r : Int) (suf : List Rn) : ∀ (pre acc : List Rn), j < pre.length → (∀ x ∈ suf, 1 ≤ x.f1) → (pre ++ suf).length ≤ 1000 → acc.length ≤ pre.length → (rd_T32 (pre ++ suf) (j : Int)).f0 = r →
    Ev (fun k => rickyardref1_TakeRun.l0 k (pre ++ suf) n (j : Int) acc (pre.length : Int)) (acc ++ suf, r, 0) := by
  induction suf with
  | nil =>
    intro pre acc h1 h2 h3 h4 h5
    refine Ev.eq (Ev.step1 (r := (acc, r, 0)) (fun k => ?_)) (by simp)
    have c : (j : Int) < ((pre ++ []).length : Int) := by simp; omega
    simp only [rickyardref1_TakeRun.l0]
    rw [if_neg (end_nlt pre), if_pos (nn _), if_pos c, h5]
  | cons x suf ih =>
    intro pre acc h1 h2 h3 h4 h5
    have hl : pre.length < 9223372036854775807 := by simp at h3; omega
    have hp : pre.length ≤ 1000 := by simp at h3; omega
    have hx := h2 x List.mem_cons_self
    have := ih (pre ++ [x]) (acc ++ [x]) (by simp; omega) (fun y hy => h2 y (List.mem_cons_of_mem _ hy)) (by simpa using h3) (by simp; omega) (by rw [← snoc]; exact h5)
    rw [← snoc] at this
    exact Ev.eq (Ev.step (fun k => rtake_other pre suf x n j acc (by omega) (by omega) (by omega) hl k) this) (by simp)
theorem rtake_at (pre suf : List Rn) (x : Rn) (n : Int) (acc : List Rn) (hn : n ≤ x.f1) (h1 : 1 ≤ n) (hx : 0 ≤ x.f0 ∧ x.f0 + x.f1 ≤ 256) (ha : acc.length < 8796093022208) (hl : pre.length < 9223372036854775807) (k : Nat) :
    rickyardref1_TakeRun.l0 (k + 1) (pre ++ x :: suf) n (pre.length : Int) acc (pre.length : Int) = rickyardref1_TakeRun.l0 k (pre ++ x :: suf) n (pre.length : Int) (acc ++ (if x.f1 = n then [] else [⟨x.f0 + n, x.f1 - n⟩])) ((pre ++ [x]).length : Int) := by
  have e1 : wrap64 (x.f1 - n) = x.f1 - n := w64 (by omega) (by omega)
  have e2 : wrap64 (x.f0 + n) = x.f0 + n := w64 (by omega) (by omega)
  simp only [rickyardref1_TakeRun.l0]
  rw [if_pos (mid_lt pre x suf), if_pos (nn _), if_pos trivial, rd_mid, e1, e2, nxt pre x hl]
  by_cases c : x.f1 = n
  · rw [if_neg (by omega), if_pos c, List.append_nil]
  · rw [if_pos (by omega), if_pos ha, if_neg c]
theorem rtake_before (n : Int) (x : Rn) (suf : List Rn) (hn : n ≤ x.f1) (h1 : 1 ≤ n) (hx : 0 ≤ x.f0 ∧ x.f0 + x.f1 ≤ 256) (hs : ∀ y ∈ suf, 1 ≤ y.f1) (j : Nat) (mid : List Rn) : ∀ (pre acc : List Rn), (pre ++ mid).length = j → (∀ y ∈ mid, 1 ≤ y.f1) → (pre ++ mid ++ x :: suf).length ≤ 1000 → acc.length ≤ pre.length →
    Ev (fun k => rickyardref1_TakeRun.l0 k (pre ++ mid ++ x :: suf) n (j : Int) acc (pre.length : Int)) (acc ++ mid ++ (if x.f1 = n then suf else ⟨x.f0 + n, x.f1 - n⟩ :: suf), x.f0, 0) := by
  induction mid with
  | nil =>
    intro pre acc hj _ h3 h4
    simp only [List.append_nil] at hj h3 ⊢
    subst hj
    have hl : pre.length < 9223372036854775807 := by simp at h3; omega
    have hp : pre.length ≤ 1000 := by simp at h3; omega
    have := rtake_after n pre.length x.f0 suf (pre ++ [x]) (acc ++ (if x.f1 = n then [] else [⟨x.f0 + n, x.f1 - n⟩])) (by simp) hs (by simpa using h3) (by split <;> simp <;> omega) (by rw [← snoc, rd_mid])
    rw [← snoc] at this
    refine Ev.eq (Ev.step (fun k => rtake_at pre suf x n acc hn h1 hx (by omega) hl k) this) ?_
    split <;> simp
  | cons z mid ih =>
    intro pre acc hj hm h3 h4
    have hl : pre.length < 9223372036854775807 := by simp at h3; omega
    have hp : pre.length ≤ 1000 := by simp at h3; omega
    have hz := hm z List.mem_cons_self
    have hjp : ¬ (pre.length : Int) = (j : Int) := by simp at hj; omega
    have := ih (pre ++ [z]) (acc ++ [z]) (by simpa using hj) (fun y hy => hm y (List.mem_cons_of_mem _ hy)) (by simpa using h3) (by simp; omega)
    have e : pre ++ z :: mid ++ x :: suf = pre ++ z :: (mid ++ x :: suf) := by simp
    have e' : pre ++ [z] ++ mid ++ x :: suf = pre ++ z :: (mid ++ x :: suf) := by simp
    rw [e'] at this
    rw [e]
    exact Ev.eq (Ev.step (fun k => rtake_other pre (mid ++ x :: suf) z n j acc hjp (by omega) (by omega) hl k) this) (by simp)
theorem rtake_ev {l : List Rn} (hr : rt 256 (-1) l) (n : Int) : Ev (fun k => rickyardref1_TakeRun.f k l n) (if n < 1 then ([], 0, 1) else if fits n l = true then (tk n l, tat n l, 0) else ([], 0, 3)) := by
  have hl : l.length ≤ 1000 := by
    rcases rt_len hr with rfl | h
    · simp
    · omega
  by_cases c : n < 1
  · rw [if_pos c]
    refine Ev.some_ (fun k => ?_)
    simp only [rickyardref1_TakeRun.f]
    rw [if_pos c]
  · rw [if_neg c]
    obtain ⟨K, hf⟩ := rfit_ev l n (by omega)
    by_cases d : fits n l = true
    · rw [if_pos d]
      obtain ⟨pre, x, suf, h1, h2, h3, h4, h5, h6⟩ := fitS_some (by omega) d
      have hx := rt_mem hr (x := x) (by rw [h1]; simp)
      obtain ⟨K', ht⟩ := rtake_before n x suf h2 (by omega) (by omega) (fun y hy => (rt_mem hr (x := y) (by rw [h1]; simp [hy])).2.1) pre.length pre [] [] (by simp) (fun y hy => (rt_mem hr (x := y) (by rw [h1]; simp [hy])).2.1) (by rw [h1] at hl; simpa using hl) (by simp)
      refine ⟨K + K', fun k hk => ?_⟩
      have hf := hf k (by omega)
      have ht := ht k (by omega)
      dsimp only at hf ht
      simp only [rickyardref1_TakeRun.f]
      rw [if_neg c, hf, Option.bind_some, h4, if_pos rfl, h5, h6]
      rw [h1]
      simpa using ht
    · rw [if_neg d]
      refine ⟨K, fun k hk => ?_⟩
      have hf := hf k (by omega)
      dsimp only at hf
      simp only [rickyardref1_TakeRun.f]
      rw [if_neg c, hf, Option.bind_some, fitS_none (by omega) (by simpa using d), if_neg (by simp)]
theorem rover_is {x a b : Int} {y : Int} (h1 : 0 ≤ x ∧ 1 ≤ y ∧ x + y ≤ 256) (h2 : 0 ≤ a ∧ 1 ≤ b ∧ a + b ≤ 256) : rickyardref1_Over.f x y a b = some (decide (x < a + b ∧ a < x + y)) := by
  have e1 : wrap64 (a + b) = a + b := w64 (by omega) (by omega)
  have e2 : wrap64 (x + y) = x + y := w64 (by omega) (by omega)
  have c1 : ¬ x < 0 := by omega
  have c2 : ¬ x > 2305843009213693952 := by omega
  have c3 : ¬ a < 0 := by omega
  have c4 : ¬ a > 2305843009213693952 := by omega
  have c5 : ¬ y < 1 := by omega
  have c6 : ¬ y > 2305843009213693952 := by omega
  have c7 : ¬ b < 1 := by omega
  have c8 : ¬ b > 2305843009213693952 := by omega
  unfold rickyardref1_Over.f
  rw [if_neg c1, if_neg c2, if_neg c3, if_neg c4, if_neg c5, if_neg c6, if_neg c7, if_neg c8, e1, e2]
  by_cases c : x < a + b
  · rw [if_pos c]; congr 1; exact decide_eq_decide.2 ⟨fun h => ⟨c, h⟩, fun h => h.2⟩
  · rw [if_neg c, decide_eq_false (fun h => c h.1)]
def clr (a b : Int) (l : List Rn) : Bool := l.all fun x => !decide (x.f0 < a + b ∧ a < x.f0 + x.f1)
theorem pt_clr {p a b : Int} (hb : 1 ≤ b) {l : List Rn} : ∀ {e : Int}, rt p e l → (pt a b l = none ↔ clr a b l = false) := by
  induction l with
  | nil => intro e _; simp [pt, clr]
  | cons x l ih =>
    intro e h
    obtain ⟨h1, h2, h3, h4⟩ := h
    unfold pt
    by_cases c : a + b ≤ x.f0
    · rw [if_pos c]
      refine ⟨fun h => (by cases h), fun h => ?_⟩
      exfalso
      have : clr a b (x :: l) = true := by
        unfold clr
        rw [List.all_eq_true]
        intro y hy
        have : x.f0 ≤ y.f0 := by
          rcases List.mem_cons.1 hy with rfl | hy
          · exact Int.le_refl _
          · have := rt_mem h4 hy; omega
        simp
        left
        omega
      rw [this] at h
      cases h
    · rw [if_neg c]
      by_cases d : a < x.f0 + x.f1
      · rw [if_pos d]
        refine ⟨fun _ => ?_, fun _ => rfl⟩
        have : decide (x.f0 < a + b ∧ a < x.f0 + x.f1) = true := decide_eq_true ⟨by omega, d⟩
        simp only [clr, List.all_cons, this]
        rfl
      · rw [if_neg d, Option.map_eq_none_iff, ih h4]
        have : decide (x.f0 < a + b ∧ a < x.f0 + x.f1) = false := decide_eq_false (fun h => d h.2)
        simp only [clr, List.all_cons, this]
        simp
theorem rput_l0 (a b : Int) (h2 : 0 ≤ a ∧ 1 ≤ b ∧ a + b ≤ 256) (r : List Rn × Int) (suf : List Rn) : ∀ (pre : List Rn) (e : Int), rt 256 e suf → -1 ≤ e → (pre ++ suf).length ≤ 1000 → (clr a b suf = true → Ev (fun k => rickyardref1_PutRun.l1 k (pre ++ suf) [] [] 0 a b) r) → (clr a b suf = false → r = ([], 4)) →
    Ev (fun k => rickyardref1_PutRun.l0 k (pre ++ suf) (pre.length : Int) a b) r := by
  induction suf with
  | nil =>
    intro pre e _ _ h3 h4 h5
    refine Ev.step (fun k => ?_) (h4 rfl)
    simp only [rickyardref1_PutRun.l0]
    rw [if_neg (end_nlt pre)]
  | cons x suf ih =>
    intro pre e hr he h3 h4 h5
    obtain ⟨a1, a2, a3, a4⟩ := hr
    have hl : pre.length < 9223372036854775807 := by simp at h3; omega
    have ho := rover_is (x := x.f0) (y := x.f1) (a := a) (b := b) (by omega) h2
    have m2 := nxt pre x hl
    by_cases c : x.f0 < a + b ∧ a < x.f0 + x.f1
    · have hc : clr a b (x :: suf) = false := by simp only [clr, List.all_cons, decide_eq_true c]; rfl
      rw [h5 hc]
      refine Ev.step1 (fun k => ?_)
      simp only [rickyardref1_PutRun.l0]
      rw [if_pos (mid_lt pre x suf), if_pos (nn _), rd_mid, ho, Option.bind_some, decide_eq_true c, if_pos rfl]
    · have hc : clr a b (x :: suf) = clr a b suf := by simp only [clr, List.all_cons, decide_eq_false c]; rfl
      have := ih (pre ++ [x]) (x.f0 + x.f1) a4 (by omega) (by simpa using h3) (fun h => by rw [← snoc]; exact h4 (hc.trans h)) (fun h => h5 (hc.trans h))
      rw [← snoc] at this
      refine Ev.step (fun k => ?_) this
      simp only [rickyardref1_PutRun.l0]
      rw [if_pos (mid_lt pre x suf), if_pos (nn _), rd_mid, ho, Option.bind_some, decide_eq_false c, if_neg (by simp), m2]
theorem rput_join (pre suf : List Rn) (x : Rn) (be af : List Rn) (a b : Int) (hw : wrap64 (x.f0 + x.f1) = x.f0 + x.f1) (hw2 : wrap64 (x.f1 + b) = x.f1 + b) (h : x.f0 + x.f1 = a) (hl : pre.length < 9223372036854775807) (k : Nat) :
    rickyardref1_PutRun.l1 (k + 1) (pre ++ x :: suf) be af (pre.length : Int) a b = rickyardref1_PutRun.l1 k (pre ++ x :: suf) be af ((pre ++ [x]).length : Int) x.f0 (x.f1 + b) := by
  simp only [rickyardref1_PutRun.l1]
  rw [if_pos (mid_lt pre x suf), if_pos (nn _), rd_mid, hw, if_pos h, hw2, nxt pre x hl]
theorem rput_next (pre suf : List Rn) (x : Rn) (be af : List Rn) (a b : Int) (hw : wrap64 (x.f0 + x.f1) = x.f0 + x.f1) (hw2 : wrap64 (a + b) = a + b) (hw3 : wrap64 (b + x.f1) = b + x.f1) (h : ¬ x.f0 + x.f1 = a) (h' : x.f0 = a + b) (hl : pre.length < 9223372036854775807) (k : Nat) :
    rickyardref1_PutRun.l1 (k + 1) (pre ++ x :: suf) be af (pre.length : Int) a b = rickyardref1_PutRun.l1 k (pre ++ x :: suf) be af ((pre ++ [x]).length : Int) a (b + x.f1) := by
  simp only [rickyardref1_PutRun.l1]
  rw [if_pos (mid_lt pre x suf), if_pos (nn _), rd_mid, hw, if_neg h, hw2, if_pos h', hw3, nxt pre x hl]
theorem rput_ahead (pre suf : List Rn) (x : Rn) (be af : List Rn) (a b : Int) (hw : wrap64 (x.f0 + x.f1) = x.f0 + x.f1) (hw2 : wrap64 (a + b) = a + b) (h : ¬ x.f0 + x.f1 = a) (h' : ¬ x.f0 = a + b) (h2 : x.f0 < a) (hb : be.length < 8796093022208) (hl : pre.length < 9223372036854775807) (k : Nat) :
    rickyardref1_PutRun.l1 (k + 1) (pre ++ x :: suf) be af (pre.length : Int) a b = rickyardref1_PutRun.l1 k (pre ++ x :: suf) (be ++ [x]) af ((pre ++ [x]).length : Int) a b := by
  simp only [rickyardref1_PutRun.l1]
  rw [if_pos (mid_lt pre x suf), if_pos (nn _), rd_mid, hw, if_neg h, hw2, if_neg h', if_pos h2, if_pos hb, nxt pre x hl]
theorem rput_behind (pre suf : List Rn) (x : Rn) (be af : List Rn) (a b : Int) (hw : wrap64 (x.f0 + x.f1) = x.f0 + x.f1) (hw2 : wrap64 (a + b) = a + b) (h : ¬ x.f0 + x.f1 = a) (h' : ¬ x.f0 = a + b) (h2 : ¬ x.f0 < a) (hb : af.length < 8796093022208) (hl : pre.length < 9223372036854775807) (k : Nat) :
    rickyardref1_PutRun.l1 (k + 1) (pre ++ x :: suf) be af (pre.length : Int) a b = rickyardref1_PutRun.l1 k (pre ++ x :: suf) be (af ++ [x]) ((pre ++ [x]).length : Int) a b := by
  simp only [rickyardref1_PutRun.l1]
  rw [if_pos (mid_lt pre x suf), if_pos (nn _), rd_mid, hw, if_neg h, hw2, if_neg h', if_neg h2, if_pos hb, nxt pre x hl]
theorem rput_end (l be af : List Rn) (a b : Int) (h1 : be.length ≤ 1000) (h2 : af.length ≤ 1000) (k : Nat) :
    rickyardref1_PutRun.l1 (k + 1) l be af (l.length : Int) a b = some (be ++ ⟨a, b⟩ :: af, 0) := by
  simp only [rickyardref1_PutRun.l1]
  rw [if_neg (Int.lt_irrefl _), if_pos (by omega)]
  simp only [Option.bind_some]
  rw [if_pos (by simp; omega)]
  simp
theorem rput_far (a b : Int) (be : List Rn) (hbe : be.length ≤ 1000) (ha : 0 ≤ a) (hb : 1 ≤ b) (s : List Rn) : ∀ (pre af : List Rn) (e : Int), rt 256 e s → a + b ≤ e → e ≤ 256 → (pre ++ s).length ≤ 1000 → af.length ≤ pre.length →
    Ev (fun k => rickyardref1_PutRun.l1 k (pre ++ s) be af (pre.length : Int) a b) (be ++ ⟨a, b⟩ :: (af ++ s), 0) := by
  induction s with
  | nil =>
    intro pre af e _ _ _ h3 h4
    refine Ev.eq (Ev.step1 (fun k => ?_)) rfl
    simp only [List.append_nil] at h3 ⊢
    exact rput_end pre be af a b hbe (by omega) k
  | cons x s ih =>
    intro pre af e hr he he2 h3 h4
    obtain ⟨a1, a2, a3, a4⟩ := hr
    have hl : pre.length < 9223372036854775807 := by simp at h3; omega
    have hp : pre.length ≤ 1000 := by simp at h3; omega
    have := ih (pre ++ [x]) (af ++ [x]) (x.f0 + x.f1) a4 (by omega) (by omega) (by simpa using h3) (by simp; omega)
    rw [← snoc] at this
    exact Ev.eq (Ev.step (fun k => rput_behind pre s x be af a b (w64 (by omega) (by omega)) (w64 (by omega) (by omega)) (by omega) (by omega) (by omega) (by omega) hl k) this) (by simp)
theorem rput_suf (a b : Int) (be : List Rn) (hbe : be.length ≤ 1000) (ha : 0 ≤ a) (hb : 1 ≤ b) (hab : a + b ≤ 256) (s : List Rn) (pre : List Rn) (e : Int) (hr : rt 256 e s) (he : -1 ≤ e) (hs : ∀ y m, s = y :: m → a + b ≤ y.f0) (h3 : (pre ++ s).length ≤ 1000) :
    Ev (fun k => rickyardref1_PutRun.l1 k (pre ++ s) be [] (pre.length : Int) a b) (be ++ joinL ⟨a, b⟩ s, 0) := by
  cases s with
  | nil =>
    refine Ev.eq (Ev.step1 (fun k => ?_)) rfl
    simp only [List.append_nil] at h3 ⊢
    exact rput_end pre be [] a b hbe (by simp) k
  | cons x s =>
    obtain ⟨a1, a2, a3, a4⟩ := hr
    have hx := hs x s rfl
    have hl : pre.length < 9223372036854775807 := by simp at h3; omega
    have hp : pre.length ≤ 1000 := by simp at h3; omega
    rw [joinL_cons]
    by_cases c : a + b = x.f0
    · have := rput_far a (b + x.f1) be hbe ha (by omega) s (pre ++ [x]) [] (x.f0 + x.f1) a4 (by omega) (by omega) (by simpa using h3) (by simp)
      rw [← snoc] at this
      exact Ev.eq (Ev.step (fun k => rput_next pre s x be [] a b (w64 (by omega) (by omega)) (w64 (by omega) (by omega)) (w64 (by omega) (by omega)) (by omega) (by omega) hl k) this) (by rw [if_pos c]; simp)
    · have := rput_far a b be hbe ha hb s (pre ++ [x]) [x] (x.f0 + x.f1) a4 (by omega) (by omega) (by simpa using h3) (by simp)
      rw [← snoc] at this
      exact Ev.eq (Ev.step (fun k => rput_behind pre s x be [] a b (w64 (by omega) (by omega)) (w64 (by omega) (by omega)) (by omega) (by omega) (by omega) (by simp) hl k) this) (by rw [if_neg c]; simp)
theorem rput_l1 (a b : Int) (ha : 0 ≤ a) (hb : 1 ≤ b) (hab : a + b ≤ 256) (s : List Rn) : ∀ (pre be : List Rn) (e : Int) (m : List Rn), rt 256 e s → -1 ≤ e → e ≤ 256 → pt a b s = some m → (pre ++ s).length ≤ 1000 → be.length ≤ pre.length →
    Ev (fun k => rickyardref1_PutRun.l1 k (pre ++ s) be [] (pre.length : Int) a b) (be ++ m, 0) := by
  induction s with
  | nil =>
    intro pre be e m hr he he2 hm h3 h4
    obtain rfl := Option.some.inj hm
    exact rput_suf a b be (by simp at h3; omega) ha hb hab [] pre e hr he (by simp) h3
  | cons x s ih =>
    intro pre be e m hr he he2 hm h3 h4
    have hr' := hr
    obtain ⟨a1, a2, a3, a4⟩ := hr
    have hl : pre.length < 9223372036854775807 := by simp at h3; omega
    have hp : pre.length ≤ 1000 := by simp at h3; omega
    unfold pt at hm
    by_cases c : a + b ≤ x.f0
    · rw [if_pos c] at hm
      obtain rfl := Option.some.inj hm
      exact rput_suf a b be (by omega) ha hb hab (x :: s) pre e hr' he (fun y m h => by injection h with h1 h2; rw [← h1]; exact c) h3
    · rw [if_neg c] at hm
      by_cases d : a < x.f0 + x.f1
      · rw [if_pos d] at hm; cases hm
      · rw [if_neg d] at hm
        obtain ⟨m', hm', rfl⟩ := Option.map_eq_some_iff.1 hm
        by_cases f : x.f0 + x.f1 = a
        · have hs : ∀ y t, s = y :: t → a + b ≤ y.f0 := by
            rintro y t rfl
            have h5 := a4.1
            have h6 := a4.2.1
            unfold pt at hm'
            by_cases g : a + b ≤ y.f0
            · exact g
            · rw [if_neg g, if_pos (by omega)] at hm'
              cases hm'
          have e1 : pt a b s = some (joinL ⟨a, b⟩ s) := pt_stop hs
          rw [e1] at hm'
          obtain rfl := Option.some.inj hm'
          have := rput_suf x.f0 (x.f1 + b) be (by omega) (by omega) (by omega) (by omega) s (pre ++ [x]) (x.f0 + x.f1) a4 (by omega) (fun y t h => by have := hs y t h; omega) (by simpa using h3)
          rw [← snoc] at this
          refine Ev.eq (Ev.step (fun k => rput_join pre s x be [] a b (w64 (by omega) (by omega)) (w64 (by omega) (by omega)) f hl k) this) ?_
          congr 2
          cases s with
          | nil => simp only [joinL]; rw [if_pos f]
          | cons y t =>
            rw [joinL_cons, joinL_cons]
            by_cases g : a + b = y.f0
            · rw [if_pos (by dsimp only; omega), if_pos g, joinL_cons, if_pos f]
              simp only [Int.add_assoc]
            · rw [if_neg (by dsimp only; omega), if_neg g, joinL_cons, if_pos f]
        · have hrt := pt_rt (e := x.f0 + x.f1) (by omega) hb hab a4 hm'
          have := ih (pre ++ [x]) (be ++ [x]) (x.f0 + x.f1) m' a4 (by omega) (by omega) hm' (by simpa using h3) (by simp; omega)
          rw [← snoc] at this
          refine Ev.eq (Ev.step (fun k => rput_ahead pre s x be [] a b (w64 (by omega) (by omega)) (w64 (by omega) (by omega)) f (by omega) (by omega) (by omega) hl k) this) ?_
          cases m' with
          | nil => simp [joinL]
          | cons y t =>
            have := hrt.1
            rw [joinL_cons, if_neg (by omega)]
            simp
theorem rput_ev {l : List Rn} (hr : rt 256 (-1) l) {a b : Int} (h2 : 0 ≤ a ∧ 1 ≤ b ∧ a + b ≤ 256) : Ev (fun k => rickyardref1_PutRun.f k l a b) (putR l a b) := by
  have hl : l.length ≤ 1000 := by
    rcases rt_len hr with rfl | h
    · simp
    · omega
  have key : Ev (fun k => rickyardref1_PutRun.l0 k l 0 a b) (putR l a b) := by
    refine rput_l0 a b h2 _ l [] (-1) hr (by omega) (by simpa using hl) (fun hc => ?_) (fun hc => ?_)
    · cases hp : pt a b l with
      | none => rw [(pt_clr h2.2.1 hr).1 hp] at hc; cases hc
      | some m =>
        have := rput_l1 a b h2.1 h2.2.1 h2.2.2 l [] [] (-1) m hr (by omega) (by omega) hp (by simpa using hl) (by simp)
        unfold putR
        rw [hp]
        simpa using this
    · unfold putR
      rw [(pt_clr h2.2.1 hr).2 hc]
  obtain ⟨K, h⟩ := key
  have e1 : wrap64 (256 - a) = 256 - a := w64 (by omega) (by omega)
  refine ⟨K + 1, fun k hk => ?_⟩
  obtain ⟨k, rfl⟩ : ∃ j, k = j + 1 := ⟨k - 1, by omega⟩
  have c1 : ¬ b < 1 := by omega
  have c2 : ¬ a < 0 := by omega
  have c3 : ¬ a > 256 := by omega
  have c4 : ¬ b > 256 - a := by omega
  simp only [rickyardref1_PutRun.f, rickyardref1_PutRun.j0, e1]
  rw [if_neg c1, if_neg c2, if_neg c3, decide_eq_false c4, if_neg (by simp)]
  exact h k (by omega)
theorem rput_arg (l : List Rn) (a b : Int) (h : ¬ (1 ≤ b ∧ 0 ≤ a ∧ a ≤ 256 ∧ b ≤ wrap64 (256 - a))) (k : Nat) : rickyardref1_PutRun.f (k + 1) l a b = some ([], 1) := by
  simp only [rickyardref1_PutRun.f, rickyardref1_PutRun.j0]
  by_cases c1 : b < 1
  · rw [if_pos c1, if_pos trivial]
  · rw [if_neg c1]
    by_cases c2 : a < 0
    · rw [if_pos c2, if_pos trivial]
    · rw [if_neg c2]
      by_cases c3 : a > 256
      · rw [if_pos c3, if_pos trivial]
      · have c4 : b > wrap64 (256 - a) := by
          by_cases c5 : b ≤ wrap64 (256 - a)
          · exact absurd ⟨by omega, by omega, by omega, c5⟩ h
          · exact Int.not_le.1 c5
        rw [if_neg c3, decide_eq_true c4, if_pos rfl]
def okB (p : Int) (x : Rn) : Bool := decide (1 ≤ x.f1 ∧ 0 ≤ x.f0 ∧ x.f0 ≤ p ∧ x.f1 ≤ wrap64 (p - x.f0))
def rb (p : Int) : Option Rn → List Rn → Bool
  | _, [] => true
  | none, x :: l => okB p x && rb p (some x) l
  | some y, x :: l => okB p x && (!decide (x.f0 ≤ wrap64 (y.f0 + y.f1)) && rb p (some x) l)
theorem within_any (p : Int) (x : Rn) : runs_within.f x.f0 x.f1 p = some (okB p x) := by
  unfold runs_within.f okB
  by_cases c1 : x.f1 ≥ 1
  · rw [if_pos c1]
    by_cases c2 : x.f0 ≥ 0
    · rw [if_pos c2]
      by_cases c3 : x.f0 ≤ p
      · rw [if_pos c3]; congr 1; exact decide_eq_decide.2 ⟨fun h => ⟨c1, c2, c3, h⟩, fun h => h.2.2.2⟩
      · rw [if_neg c3, decide_eq_false (fun h => c3 h.2.2.1)]
    · rw [if_neg c2, decide_eq_false (fun h => c2 h.2.1)]
  · rw [if_neg c1, decide_eq_false (fun h => c1 h.1)]
theorem idx_prev (q : List Rn) (y : Rn) (h : (q ++ [y]).length < 9223372036854775807) : wrap64 (((q ++ [y]).length : Int) - 1) = (q.length : Int) := by
  simp at h
  rw [w64 (by simp <;> omega) (by simp <;> omega)]
  simp
theorem rd_prev (q suf : List Rn) (y : Rn) : rd_T32 (q ++ [y] ++ suf) (q.length : Int) = y := by
  rw [List.append_assoc]
  exact rd_mid q y suf
theorem last_snoc (q : List Rn) (y : Rn) : (q ++ [y]).getLast? = some y := by simp
theorem right_bad (pre suf : List Rn) (x : Rn) (p : Int) (h : okB p x = false) (k : Nat) :
    runs_Right.l0 (k + 1) (pre ++ x :: suf) p (pre ++ x :: suf) ((pre ++ x :: suf).length : Int) (pre.length : Int) = some false := by
  simp only [runs_Right.l0]
  rw [if_pos (mid_lt pre x suf), if_pos (nn _), if_pos (mid_lt pre x suf), rd_mid, within_any, Option.bind_some, if_neg (by rw [h]; simp)]
theorem right_first (suf : List Rn) (x : Rn) (p : Int) (h : okB p x = true) (k : Nat) :
    runs_Right.l0 (k + 1) ([] ++ x :: suf) p ([] ++ x :: suf) (([] ++ x :: suf : List Rn).length : Int) (([] : List Rn).length : Int) = runs_Right.l0 k ([] ++ x :: suf) p ([] ++ x :: suf) (([] ++ x :: suf : List Rn).length : Int) ((([] : List Rn) ++ [x]).length : Int) := by
  simp only [runs_Right.l0]
  rw [if_pos (mid_lt [] x suf), if_pos (nn _), if_pos (mid_lt [] x suf), rd_mid, within_any, Option.bind_some, if_pos h, if_neg (by simp), nxt [] x (by simp)]
theorem right_next (q suf : List Rn) (y x : Rn) (p : Int) (h : okB p x = true) (hl : (q ++ [y]).length < 9223372036854775807) (k : Nat) :
    runs_Right.l0 (k + 1) (q ++ [y] ++ x :: suf) p (q ++ [y] ++ x :: suf) ((q ++ [y] ++ x :: suf).length : Int) ((q ++ [y]).length : Int) = if x.f0 ≤ wrap64 (y.f0 + y.f1) then some false else runs_Right.l0 k (q ++ [y] ++ x :: suf) p (q ++ [y] ++ x :: suf) ((q ++ [y] ++ x :: suf).length : Int) ((q ++ [y] ++ [x]).length : Int) := by
  have c1 : ((q ++ [y]).length : Int) > 0 := by simp <;> omega
  have c2 : (q.length : Int) < ((q ++ [y] ++ x :: suf).length : Int) := by simp <;> omega
  have e1 := idx_prev q y hl
  have e2 := rd_prev q (x :: suf) y
  have e3 := nxt (q ++ [y]) x hl
  simp only [runs_Right.l0]
  rw [if_pos (mid_lt (q ++ [y]) x suf), if_pos (nn _), if_pos (mid_lt (q ++ [y]) x suf), rd_mid, within_any, Option.bind_some, if_pos h, if_pos c1, e1, if_pos (nn _), if_pos c2, e2, e3]
  rfl
theorem right_l0 (p : Int) (suf : List Rn) : ∀ pre : List Rn, (pre ++ suf).length ≤ 1000 → Ev (fun k => runs_Right.l0 k (pre ++ suf) p (pre ++ suf) ((pre ++ suf).length : Int) (pre.length : Int)) (rb p pre.getLast? suf) := by
  induction suf with
  | nil =>
    intro pre h
    refine Ev.eq (r := true) (Ev.step1 (fun k => ?_)) (by unfold rb; rfl)
    simp only [runs_Right.l0]
    rw [if_neg (end_nlt pre)]
  | cons x suf ih =>
    intro pre h
    have := ih (pre ++ [x]) (by simpa using h)
    rw [← snoc, last_snoc] at this
    by_cases c : okB p x = true
    · rcases List.eq_nil_or_concat pre with rfl | ⟨q, y, rfl⟩
      · exact Ev.eq (Ev.step (fun k => right_first suf x p c k) this) (by simp [rb, c])
      · simp only [List.concat_eq_append] at h this ⊢
        have hl : (q ++ [y]).length < 9223372036854775807 := by simp at h ⊢; omega
        rw [last_snoc]
        by_cases d : x.f0 ≤ wrap64 (y.f0 + y.f1)
        · refine Ev.eq (r := false) (Ev.step1 (fun k => ?_)) (by simp [rb, d])
          rw [right_next q suf y x p c hl k, if_pos d]
        · refine Ev.eq (Ev.step (fun k => ?_) this) (by simp [rb, c, d])
          rw [right_next q suf y x p c hl k, if_neg d]
    · have c' : okB p x = false := by simpa using c
      refine Ev.eq (r := false) (Ev.step1 (fun k => right_bad pre suf x p c' k)) ?_
      cases pre.getLast? <;> simp [rb, c']
def rF (l : List Rn) (p : Int) : Bool := if 0 ≤ p ∧ p ≤ 256 then rb p none l else false
theorem right_ev (l : List Rn) (p : Int) (h : l.length ≤ 1000) : Ev (fun k => runs_Right.f k l p) (rF l p) := by
  obtain ⟨K, h1⟩ := right_l0 p l [] (by simpa using h)
  refine ⟨K + 1, fun k hk => ?_⟩
  obtain ⟨k, rfl⟩ : ∃ j, k = j + 1 := ⟨k - 1, by omega⟩
  have h1 := h1 k (by omega)
  unfold rF
  simp only [runs_Right.f, runs_Right.j0]
  by_cases c : p < 0
  · rw [if_pos c, if_pos trivial, if_neg (by omega)]
  · rw [if_neg c]
    by_cases d : p > 256
    · rw [decide_eq_true d, if_pos rfl, if_neg (by omega)]
    · rw [decide_eq_false d, if_neg (by simp), if_pos (by omega)]
      simpa using h1
theorem take_all {l : List Rn} (hr : rt 256 (-1) l) (hl : l.length ≤ 1000) (n : Int) : runs_Take.f l n = some (if n < 1 then ([], 0, 1) else if fits n l = true then (tk n l, tat n l, 0) else ([], 0, 3)) := by
  by_cases c : n < 1
  · rw [if_pos c]; exact take_low l c
  · rw [if_neg c]
    by_cases d : fits n l = true
    · rw [if_pos d]; exact take_some hr (by omega) (by omega) hl (by omega) d
    · rw [if_neg d]; exact take_none hl (by omega) (by simpa using d)
theorem ok_of {x : Rn} (h : 1 ≤ x.f1 ∧ 0 ≤ x.f0 ∧ x.f0 + x.f1 ≤ 256) : okB 256 x = true := by
  unfold okB
  refine decide_eq_true ⟨h.1, h.2.1, by omega, ?_⟩
  rw [w64 (by omega) (by omega)]
  omega
theorem rt_rb (l : List Rn) : ∀ y : Rn, 1 ≤ y.f1 ∧ 0 ≤ y.f0 ∧ y.f0 + y.f1 ≤ 256 → rt 256 (y.f0 + y.f1) l → rb 256 (some y) l = true := by
  induction l with
  | nil => intro _ _ _; rfl
  | cons x l ih =>
    intro y hy h
    obtain ⟨h1, h2, h3, h4⟩ := h
    have hx : 1 ≤ x.f1 ∧ 0 ≤ x.f0 ∧ x.f0 + x.f1 ≤ 256 := ⟨h2, by omega, h3⟩
    simp only [rb, Bool.and_eq_true, Bool.not_eq_true', decide_eq_false_iff_not]
    refine ⟨ok_of hx, ?_, ih x hx h4⟩
    rw [w64 (by omega) (by omega)]
    omega
theorem rt_rF {l : List Rn} (h : rt 256 (-1) l) : rF l 256 = true := by
  unfold rF
  rw [if_pos (by omega)]
  cases l with
  | nil => rfl
  | cons x l =>
    obtain ⟨h1, h2, h3, h4⟩ := h
    have hx : 1 ≤ x.f1 ∧ 0 ≤ x.f0 ∧ x.f0 + x.f1 ≤ 256 := ⟨h2, by omega, h3⟩
    simp only [rb, Bool.and_eq_true]
    exact ⟨ok_of hx, rt_rb l x hx h4⟩
/-- What a take answers. -/
def takeA (l : List Rn) (n : Int) : List Rn × Int × Int := if n < 1 then ([], 0, 1) else if fits n l = true then (tk n l, tat n l, 0) else ([], 0, 3)
theorem takeA_rt {l : List Rn} (hr : rt 256 (-1) l) {n : Int} (h1 : 1 ≤ n) : rt 256 (-1) (takeA l n).1 := by
  unfold takeA
  rw [if_neg (by omega)]
  split
  · exact tk_rt h1 hr
  · trivial
/-- What a put answers. -/
def putA (l : List Rn) (a b : Int) : List Rn × Int := if 1 ≤ b ∧ 0 ≤ a ∧ a ≤ 256 ∧ b ≤ wrap64 (256 - a) then putR l a b else ([], 1)
theorem putA_evs {l : List Rn} (hr : rt 256 (-1) l) (a b : Int) : Ev (fun k => runs_Put.f k l a b) (putA l a b) ∧ Ev (fun k => rickyardref1_PutRun.f k l a b) (putA l a b) ∧ rt 256 (-1) (putA l a b).1 := by
  unfold putA
  split
  · next c =>
    have e : wrap64 (256 - a) = 256 - a := w64 (by omega) (by omega)
    have c' := c
    rw [e] at c'
    clear e c
    refine ⟨put_ev hr (by omega) (by omega) (by omega) (by omega), rput_ev hr (by omega), ?_⟩
    unfold putR
    cases hp : pt a b l with
    | none => trivial
    | some m => exact pt_rt (e := -1) (by omega) (by omega) (by omega) hr hp
  · next c => exact ⟨Ev.some_ (fun k => put_arg k l a b c), Ev.step1 (fun k => rput_arg l a b c k), trivial⟩
theorem rt_small {l : List Rn} (h : rt 256 (-1) l) : l.length ≤ 1000 := by
  rcases rt_len h with rfl | h
  · simp
  · omega
end Go.Proofs.Ythbknmblehecaaa.Pure
