/- What the printed functions on runs answer: SameRuns, Total, Most, Fit, Take. No statement is proved here. -/
import Derived.Test.YthbknmblehecaaaRunsPure
import Derived.Test.YthbknmblehecaaaPrx3
import Derived.Test.YthbknmblehecaaaPrx5
import Derived.Test.YthbknmblehecaaaPrx10
namespace Go.Proofs.Ythbknmblehecaaa.Pure
set_option linter.unusedVariables false
set_option linter.unusedSimpArgs false
open Go.RowKit Go.Proofs.Ythbknmblehecaaa.Pr Go.Proofs.YthbknmblehecaaaW.PrintWords Go.Proofs.YthbknmblehecaaaW.PrintLast Go.Proofs.YthbknmblehecaaaW.PrintMore

theorem rd_mid (pre : List Rn) (x : Rn) (suf : List Rn) : rd_T32 (pre ++ x :: suf) (pre.length : Int) = x := by
  simp [rd_T32]
theorem mid_lt (pre : List Rn) (x : Rn) (suf : List Rn) : (pre.length : Int) < ((pre ++ x :: suf).length : Int) := by
  simp; omega
theorem nn (n : Nat) : (0 : Int) ≤ (n : Int) := Int.natCast_nonneg n
theorem nxt (pre : List Rn) (x : Rn) (h : pre.length < 9223372036854775807) : wrap64 ((pre.length : Int) + 1) = ((pre ++ [x]).length : Int) := by
  rw [w64 (by omega) (by omega)]; simp
theorem end_nlt (pre : List Rn) : ¬ ((pre.length : Int) < ((pre ++ []).length : Int)) := by simp
theorem snoc (pre : List Rn) (x : Rn) (suf : List Rn) : pre ++ x :: suf = (pre ++ [x]) ++ suf := by simp

/-- Two lists are alike. -/
theorem same_l0 (suf suf' : List Rn) : ∀ (pre pre' : List Rn), pre.length = pre'.length → suf.length = suf'.length → (pre ++ suf).length < 9223372036854775807 →
    Ev (fun k => rickyardref1_SameRuns.l0 k (pre ++ suf) (pre' ++ suf') (pre.length : Int)) (decide (suf = suf')) := by
  induction suf generalizing suf' with
  | nil =>
    intro pre pre' h1 h2 h3
    have : suf' = [] := List.eq_nil_of_length_eq_zero h2.symm
    subst this
    refine Ev.step1 (fun k => ?_)
    simp only [rickyardref1_SameRuns.l0]
    rw [if_neg (end_nlt pre)]
    rfl
  | cons x suf ih =>
    intro pre pre' h1 h2 h3
    cases suf' with
    | nil => cases h2
    | cons y suf' =>
      have hl : pre.length < 9223372036854775807 := by simp at h3; omega
      have e1 := rd_mid pre x suf
      have e2 := rd_mid pre' y suf'
      by_cases c : x = y
      · subst c
        have := ih suf' (pre ++ [x]) (pre' ++ [x]) (by simp [h1]) (by simpa using h2) (by simpa using h3)
        rw [← snoc, ← snoc] at this
        refine Ev.eq (Ev.step (fun k => ?_) this) (by simp)
        simp only [rickyardref1_SameRuns.l0]
        rw [if_pos (mid_lt pre x suf), if_pos (nn _), if_pos (by rw [h1]; exact mid_lt pre' x suf'), e1, h1, e2, if_neg (by simp), ← h1, nxt pre x hl]
      · refine Ev.eq (r := false) (Ev.step1 (fun k => ?_)) (by simp [c])
        simp only [rickyardref1_SameRuns.l0]
        rw [if_pos (mid_lt pre x suf), if_pos (nn _), if_pos (by rw [h1]; exact mid_lt pre' y suf'), e1, h1, e2, if_pos (by
          rcases x with ⟨x0, x1⟩
          rcases y with ⟨y0, y1⟩
          simp at c ⊢
          by_cases d : x0 = y0
          · right; exact c d
          · left; exact d)]
theorem same_ev (l m : List Rn) (h : l.length < 9223372036854775807) : Ev (fun k => rickyardref1_SameRuns.f k l m) (decide (l = m)) := by
  by_cases c : l.length = m.length
  · have := same_l0 l m [] [] rfl c (by simpa using h)
    refine Ev.congr (fun k => ?_) this
    simp only [rickyardref1_SameRuns.f]
    rw [if_pos (by omega)]
    rfl
  · refine Ev.some_ (fun k => ?_)
    simp only [rickyardref1_SameRuns.f]
    rw [if_neg (by omega)]
    have : l ≠ m := fun e => c (by rw [e])
    simp [this]
theorem total_l0 (suf : List Rn) : ∀ (pre : List Rn) (s e : Int), rt 256 e suf → 0 ≤ s → s ≤ e + 1 → -1 ≤ e → e ≤ 256 → (pre ++ suf).length < 9223372036854775807 →
    Ev (fun k => runs_Total.l0 k s (pre ++ suf) ((pre ++ suf).length : Int) (pre.length : Int)) (s + tot suf) := by
  induction suf with
  | nil =>
    intro pre s e _ _ _ _ _ h3
    refine Ev.eq (r := s) (Ev.step1 (fun k => ?_)) (by simp [tot])
    simp only [runs_Total.l0]
    rw [if_neg (end_nlt pre)]
  | cons x suf ih =>
    intro pre s e hr hs he he1 he2 h3
    obtain ⟨a1, a2, a3, a4⟩ := hr
    have hl : pre.length < 9223372036854775807 := by simp at h3; omega
    have := ih (pre ++ [x]) (s + x.f1) (x.f0 + x.f1) a4 (by omega) (by omega) (by omega) (by omega) (by simpa using h3)
    rw [← snoc] at this
    refine Ev.eq (Ev.step (fun k => ?_) this) (by simp only [tot]; omega)
    simp only [runs_Total.l0]
    rw [if_pos (mid_lt pre x suf), if_pos (nn _), if_pos (mid_lt pre x suf), rd_mid, nxt pre x hl, w64 (by omega) (by omega)]
theorem total_ev {l : List Rn} (h : rt 256 (-1) l) : Ev (fun k => runs_Total.f k l) (tot l) := by
  have hl : l.length < 9223372036854775807 := by
    rcases rt_len h with rfl | h
    · simp
    · omega
  have := total_l0 l [] 0 (-1) h (by omega) (by omega) (by omega) (by omega) (by simpa using hl)
  exact Ev.eq (Ev.congr (fun k => by rfl) this) (by omega)
theorem most_l0 (suf : List Rn) : ∀ (pre : List Rn) (s : Int), (pre ++ suf).length < 9223372036854775807 →
    Ev (fun k => runs_Most.l0 k s (pre ++ suf) ((pre ++ suf).length : Int) (pre.length : Int)) (most suf s) := by
  induction suf with
  | nil =>
    intro pre s h3
    refine Ev.step1 (fun k => ?_)
    simp only [runs_Most.l0]
    rw [if_neg (end_nlt pre)]
    rfl
  | cons x suf ih =>
    intro pre s h3
    have hl : pre.length < 9223372036854775807 := by simp at h3; omega
    have := ih (pre ++ [x]) (mx s x.f1) (by simpa using h3)
    rw [← snoc] at this
    refine Ev.step (fun k => ?_) this
    simp only [runs_Most.l0]
    rw [if_pos (mid_lt pre x suf), if_pos (nn _), if_pos (mid_lt pre x suf), rd_mid, nxt pre x hl]
theorem most_ev (l : List Rn) (h : l.length < 9223372036854775807) : Ev (fun k => runs_Most.f k l) (most l 0) := by
  have := most_l0 l [] 0 (by simpa using h)
  exact Ev.congr (fun k => by rfl) this

/-- Fit. -/
theorem fitS_none {l : List Rn} {n : Int} (hn : 1 ≤ n) (h : fits n l = false) : fitS l n = (0, false) := by
  unfold fitS
  rw [if_neg (by omega)]
  rcases idxB_range (fun x : Rn => decide (n ≤ x.f1)) l 0 (by omega) with ⟨h1, _⟩ | ⟨_, _, h2⟩
  · rw [if_pos (by rw [h1]; decide)]
  · unfold fits at h; rw [h] at h2; cases h2
theorem fitS_some {l : List Rn} {n : Int} (hn : 1 ≤ n) (h : fits n l = true) : ∃ (pre : List Rn) (x : Rn) (suf : List Rn), l = pre ++ x :: suf ∧ n ≤ x.f1 ∧ (∀ y ∈ pre, y.f1 < n) ∧ fitS l n = ((pre.length : Int), true) ∧ tat n l = x.f0 ∧ tk n l = pre ++ (if x.f1 = n then suf else ⟨x.f0 + n, x.f1 - n⟩ :: suf) := by
  have key : ∀ (l : List Rn) (k : Int), 0 ≤ k → fits n l = true → ∃ (pre : List Rn) (x : Rn) (suf : List Rn), l = pre ++ x :: suf ∧ n ≤ x.f1 ∧ (∀ y ∈ pre, y.f1 < n) ∧ idxB (fun x : Rn => decide (n ≤ x.f1)) l k = k + (pre.length : Int) ∧ tat n l = x.f0 ∧ tk n l = pre ++ (if x.f1 = n then suf else ⟨x.f0 + n, x.f1 - n⟩ :: suf) := by
    intro l
    induction l with
    | nil => intro k _ h; simp [fits] at h
    | cons x l ih =>
      intro k hk h
      by_cases c : n ≤ x.f1
      · exact ⟨[], x, l, rfl, c, by simp, by simp [idxB, c], by simp [tat, c], by simp [tk, c]⟩
      · obtain ⟨pre, y, suf, h1, h2, h3, h4, h5, h6⟩ := ih (k + 1) (by omega) (by simpa [fits, c] using h)
        refine ⟨x :: pre, y, suf, by rw [h1]; rfl, h2, ?_, ?_, ?_, ?_⟩
        · intro z hz
          rcases List.mem_cons.1 hz with rfl | hz
          · omega
          · exact h3 z hz
        · simp only [idxB, decide_eq_true_eq]; rw [if_neg c, h4]; simp; omega
        · simp only [tat]; rw [if_neg c, h5]
        · simp only [tk]; rw [if_neg c, h6]; rfl
  obtain ⟨pre, x, suf, h1, h2, h3, h4, h5, h6⟩ := key l 0 (by omega) h
  refine ⟨pre, x, suf, h1, h2, h3, ?_, h5, h6⟩
  unfold fitS
  rw [if_neg (by omega), h4, if_neg (by omega)]
  simp
/-- Take, of a right list. -/
theorem take_low (l : List Rn) {n : Int} (hn : n < 1) : runs_Take.f l n = some ([], 0, 1) := by
  simp only [runs_Take.f]; rw [if_pos hn]
theorem take_none {l : List Rn} {n : Int} (hl : l.length ≤ 1000) (hn : 1 ≤ n) (h : fits n l = false) : runs_Take.f l n = some ([], 0, 3) := by
  simp only [runs_Take.f, runs_Fit.f]
  rw [if_neg (by omega), if_pos (by omega), fitS_none hn h]
  rfl
theorem take_some {p e : Int} {l : List Rn} {n : Int} (hr : rt p e l) (he : -1 ≤ e) (hp : p ≤ 256) (hl : l.length ≤ 1000) (hn : 1 ≤ n) (h : fits n l = true) : runs_Take.f l n = some (tk n l, tat n l, 0) := by
  obtain ⟨pre, x, suf, h1, h2, h3, h4, h5, h6⟩ := fitS_some hn h
  have hx := rt_mem hr (x := x) (by rw [h1]; simp)
  have hpl : pre.length + suf.length + 1 = l.length := by rw [h1]; simp; omega
  simp only [runs_Take.f, runs_Fit.f]
  rw [if_neg (by omega), if_pos (by omega), h4]
  simp only [Option.bind_some, if_true]
  have hlt : (pre.length : Int) < (l.length : Int) := by omega
  have hrd : rd_T32 l (pre.length : Int) = x := by rw [h1]; exact rd_mid pre x suf
  rw [if_pos (nn _), if_pos hlt]
  simp only [api_Run_42.f]
  rw [if_pos (by omega)]
  simp only [Option.bind_some]
  rw [if_pos hlt, hrd, h5, h6]
  by_cases c : x.f1 = n
  · rw [if_pos c, if_pos c]
    simp only [api_Run_43.f, del_run]
    rw [if_pos ⟨nn _, hlt, w64 (by omega) (by omega)⟩]
    simp only [Option.bind_some, Int.toNat_natCast]
    rw [h1]
    simp
  · rw [if_neg c, if_neg c, w64 (by omega) (by omega), w64 (by omega) (by omega)]
    simp only [Int.toNat_natCast]
    rw [h1]
    simp
end Go.Proofs.Ythbknmblehecaaa.Pure
