/- What the chapter's functions compute, in plain lists. No statement is proved here. -/
import Derived.Test.YthbknmblehecaaaPure
import Derived.Test.YthbknmblehecaaaSortPure
import Derived.Test.YthbknmblehecaaaPrx29
import Derived.Test.YthbknmblehecaaaPrx23
import Derived.Test.YthbknmblehecaaaPrx29
namespace Go.Proofs.Ythbknmblehecaaa.Pure
open Go.RowKit Go.Proofs.Ythbknmblehecaaa.Pr Go.Proofs.YthbknmblehecaaaW.PrintWords Go.Proofs.YthbknmblehecaaaW.PrintLast Go.Proofs.YthbknmblehecaaaW.PrintMore
set_option linter.unusedVariables false
set_option linter.unusedSimpArgs false

theorem qrd_mid (pre : List Pq) (x : Pq) (suf : List Pq) : rd_T58 (pre ++ x :: suf) (pre.length : Int) = x := by
  simp [rd_T58]
theorem qmid_lt (pre : List Pq) (x : Pq) (suf : List Pq) : (pre.length : Int) < ((pre ++ x :: suf).length : Int) := by
  simp; omega
theorem qnn (n : Nat) : (0 : Int) ≤ (n : Int) := Int.natCast_nonneg n
theorem qnxt (pre : List Pq) (x : Pq) (h : pre.length < 9223372036854775807) : wrap64 ((pre.length : Int) + 1) = ((pre ++ [x]).length : Int) := by
  rw [w64 (by omega) (by omega)]; simp
theorem qend (pre : List Pq) : ¬ ((pre.length : Int) < ((pre ++ []).length : Int)) := by simp
theorem qsnoc (pre : List Pq) (x : Pq) (suf : List Pq) : pre ++ x :: suf = (pre ++ [x]) ++ suf := by simp

theorem may_f (x : Pq) : part_may.f x.f0 x.f1 = some (mayB x) := by
  unfold part_may.f mayB
  split
  next h1 =>
    split
    next h2 =>
      split
      next h3 => simp [h1, h2, h3]
      next h3 => simp [h1, h2, h3]
    next h2 => simp [h1, h2]
  next h1 => simp [h1]
theorem may_bd {x : Pq} (h : mayB x = true) : 0 ≤ x.f0 ∧ x.f0 ≤ 2147483648 ∧ 1 ≤ x.f1 ∧ x.f1 ≤ 2147483648 := by
  simp [mayB] at h; omega
/-- Each begins where the one ahead of it ends. -/
def wh : List Pq → Int → Int → Bool
  | [], e, w => decide (e = w) && decide (w ≤ 2147483648)
  | x :: l, e, w => mayB x && decide (x.f0 = e) && wh l (e + x.f1) w
theorem whole_l0 (w : Int) (suf : List Pq) : ∀ (pre : List Pq) (e : Int), 0 ≤ e → e ≤ 8589934592 → (pre ++ suf).length < 9223372036854775807 →
    Ev (fun k => part_Whole.l0 k w e (pre ++ suf) ((pre ++ suf).length : Int) (pre.length : Int)) (wh suf e w) := by
  induction suf with
  | nil =>
    intro pre e h0 h1 h3
    refine Ev.step1 (fun k => ?_)
    simp only [part_Whole.l0]
    rw [if_neg (qend pre), wh]
    by_cases c : e = w
    · rw [if_pos c, decide_eq_true c, Bool.true_and]
    · rw [if_neg c, decide_eq_false c, Bool.false_and]
  | cons x suf ih =>
    intro pre e h0 h1 h3
    have hl : pre.length < 9223372036854775807 := by simp at h3; omega
    cases hm : mayB x with
    | false =>
      refine Ev.step1 (fun k => ?_)
      simp only [part_Whole.l0]
      rw [if_pos (qmid_lt pre x suf), if_pos (qnn _), if_pos (qmid_lt pre x suf), qrd_mid, may_f, hm, Option.bind_some, if_neg (by simp), wh, hm]
      rfl
    | true =>
      by_cases c : x.f0 = e
      · have hb := may_bd hm
        have := ih (pre ++ [x]) (e + x.f1) (by omega) (by omega) (by simpa using h3)
        rw [← qsnoc] at this
        refine Ev.eq (Ev.step (fun k => ?_) this) (by rw [wh, hm, decide_eq_true c]; rfl)
        simp only [part_Whole.l0]
        rw [if_pos (qmid_lt pre x suf), if_pos (qnn _), if_pos (qmid_lt pre x suf), qrd_mid, may_f, hm, Option.bind_some, if_pos rfl, if_pos c, qnxt pre x hl, w64 (by omega) (by omega)]
      · refine Ev.step1 (fun k => ?_)
        simp only [part_Whole.l0]
        rw [if_pos (qmid_lt pre x suf), if_pos (qnn _), if_pos (qmid_lt pre x suf), qrd_mid, may_f, hm, Option.bind_some, if_pos rfl, if_neg c, wh, hm, decide_eq_false c]
        rfl
/-- The seven lists, one behind the other. -/
def flat7 (l0 l1 l2 l3 l4 l5 l6 : List Pq) : List Pq := ([l0, l1, l2, l3, l4, l5, l6] : List (List Pq)).flatten
theorem flat7_len (l0 l1 l2 l3 l4 l5 l6 : List Pq) : (flat7 l0 l1 l2 l3 l4 l5 l6).length = l0.length + l1.length + l2.length + l3.length + l4.length + l5.length + l6.length := by simp [flat7]; omega
theorem all_f {l0 l1 l2 l3 l4 l5 l6 : List Pq} (h : (flat7 l0 l1 l2 l3 l4 l5 l6).length ≤ 100000) : part_All.f l0 l1 l2 l3 l4 l5 l6 = some (sortP (flat7 l0 l1 l2 l3 l4 l5 l6)) := by
  unfold part_All.f; exact if_pos h
theorem kind_f {l0 l1 l2 l3 l4 l5 l6 : List Pq} (h : (flat7 l0 l1 l2 l3 l4 l5 l6).length ≤ 100000) (a : Int) : part_Kind.f l0 l1 l2 l3 l4 l5 l6 a = some (kindP [l0, l1, l2, l3, l4, l5, l6] a 0) := by
  unfold part_Kind.f; exact if_pos h
theorem whole_ev {l0 l1 l2 l3 l4 l5 l6 : List Pq} (h : (flat7 l0 l1 l2 l3 l4 l5 l6).length ≤ 100000) (w : Int) : Ev (fun k => part_Whole.f k l0 l1 l2 l3 l4 l5 l6 w) (wh (sortP (flat7 l0 l1 l2 l3 l4 l5 l6)) 0 w) := by
  have := whole_l0 w (sortP (flat7 l0 l1 l2 l3 l4 l5 l6)) [] 0 (by omega) (by omega) (by rw [List.nil_append, sortP_length]; omega)
  refine Ev.congr (fun k => ?_) this
  unfold part_Whole.f
  rw [all_f h]
  rfl
/-- How many words. -/
def ws : List Pq → Int
  | [] => 0
  | x :: l => (if mayB x = true then x.f1 else 0) + ws l
theorem ws_bd (l : List Pq) : 0 ≤ ws l ∧ ws l ≤ 2147483648 * l.length := by
  induction l with
  | nil => simp [ws]
  | cons x l ih =>
    simp only [ws, List.length_cons]
    split
    next h => have := may_bd h; omega
    next h => omega
theorem mn_le {a b : Int} (h : a ≤ b) : mn a b = a := by simp [mn]; omega
theorem words_l0 (suf : List Pq) : ∀ (pre : List Pq) (s : Int), 0 ≤ s → s + 2147483648 * suf.length ≤ 1152921504606846976 → (pre ++ suf).length < 9223372036854775807 →
    Ev (fun k => part_Words.l0 k s (pre ++ suf) ((pre ++ suf).length : Int) (pre.length : Int)) (s + ws suf) := by
  induction suf with
  | nil =>
    intro pre s _ h2 _
    refine Ev.eq (r := s) (Ev.step1 (fun k => ?_)) (by simp [ws])
    simp only [part_Words.l0]
    rw [if_neg (qend pre), mn_le (by simp at h2; omega)]
  | cons x suf ih =>
    intro pre s hs hb h3
    have hl : pre.length < 9223372036854775807 := by simp at h3; omega
    simp only [List.length_cons] at hb
    cases hm : mayB x with
    | true =>
      have hx := may_bd hm
      have := ih (pre ++ [x]) (s + x.f1) (by omega) (by omega) (by simpa using h3)
      rw [← qsnoc] at this
      refine Ev.eq (Ev.step (fun k => ?_) this) (by simp only [ws, hm, if_true]; omega)
      simp only [part_Words.l0]
      rw [if_pos (qmid_lt pre x suf), if_pos (qnn _), if_pos (qmid_lt pre x suf), qrd_mid, may_f, hm, Option.bind_some, if_pos rfl, qnxt pre x hl, w64 (by omega) (by omega)]
    | false =>
      have := ih (pre ++ [x]) s (by omega) (by omega) (by simpa using h3)
      rw [← qsnoc] at this
      refine Ev.eq (Ev.step (fun k => ?_) this) (by simp [ws, hm])
      simp only [part_Words.l0]
      rw [if_pos (qmid_lt pre x suf), if_pos (qnn _), if_pos (qmid_lt pre x suf), qrd_mid, may_f, hm, Option.bind_some, if_neg (by simp), qnxt pre x hl]
theorem words_ev (l : List Pq) (h : l.length ≤ 100000) : Ev (fun k => part_Words.f k l) (ws l) := by
  have := words_l0 l [] 0 (by omega) (by omega) (by simp only [List.nil_append]; omega)
  exact Ev.eq (Ev.congr (fun k => by rfl) this) (by omega)
theorem awake_ev : Ev (fun k => rickyardlaw26_awake.f k) true := by
  have h : ∃ k, rickyardlaw26_awake.f k = some true := ⟨6, by decide +kernel⟩
  obtain ⟨k, hk⟩ := h
  exact Ev.of (fun k => rickyardlaw26_awake.mono k) hk
/-- Are there more than are looked at? -/
theorem many_f {l0 l1 l2 l3 l4 l5 l6 : List Pq} (h0 : l0.length * 16 ≤ 140737488351232) (h1 : l1.length * 16 ≤ 140737488351232) (h2 : l2.length * 16 ≤ 140737488351232) (h3 : l3.length * 16 ≤ 140737488351232) (h4 : l4.length * 16 ≤ 140737488351232) (h5 : l5.length * 16 ≤ 140737488351232) (h6 : l6.length * 16 ≤ 140737488351232) :
    (rickyardlaw26_many.f l0 l1 l2 l3 l4 l5 l6 = some true) ∨ (rickyardlaw26_many.f l0 l1 l2 l3 l4 l5 l6 = some false ∧ l0.length + l1.length + l2.length + l3.length ≤ 600 ∧ l4.length + l5.length + l6.length ≤ 600) := by
  unfold rickyardlaw26_many.f
  rw [w64 (n := (l0.length : Int) + (l1.length : Int)) (by omega) (by omega), w64 (n := (l0.length : Int) + (l1.length : Int) + (l2.length : Int)) (by omega) (by omega), w64 (n := (l0.length : Int) + (l1.length : Int) + (l2.length : Int) + (l3.length : Int)) (by omega) (by omega), w64 (n := (l4.length : Int) + (l5.length : Int)) (by omega) (by omega), w64 (n := (l4.length : Int) + (l5.length : Int) + (l6.length : Int)) (by omega) (by omega)]
  by_cases c1 : (l0.length : Int) + (l1.length : Int) + (l2.length : Int) + (l3.length : Int) > 600
  · rw [if_pos c1]; exact .inl rfl
  · rw [if_neg c1]
    by_cases c2 : (l4.length : Int) + (l5.length : Int) + (l6.length : Int) > 600
    · rw [decide_eq_true c2]; exact .inl rfl
    · rw [decide_eq_false c2]; exact .inr ⟨rfl, by omega, by omega⟩
end Go.Proofs.Ythbknmblehecaaa.Pure
