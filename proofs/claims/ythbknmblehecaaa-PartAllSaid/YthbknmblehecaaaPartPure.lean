/- What the chapter's functions compute, in plain lists. No statement is proved here. -/
import Derived.Test.YthbknmblehecaaaPure
import Derived.Test.YthbknmblehecaaaSortPure
import Derived.Test.YthbknmblehecaaaPrx33
namespace Go.Proofs.Ythbknmblehecaaa.Pure
open Go.RowKit Go.Proofs.Ythbknmblehecaaa.Pr Go.Proofs.YthbknmblehecaaaW.PrintWords Go.Proofs.YthbknmblehecaaaW.PrintLast Go.Proofs.YthbknmblehecaaaW.PrintMore
set_option linter.unusedVariables false
set_option linter.unusedSimpArgs false

theorem qrd_mid (pre : List Pq) (x : Pq) (suf : List Pq) : rd_T58 (pre ++ x :: suf) (pre.length : Int) = x := by
  simp [rd_T58]
theorem qmid_lt (pre : List Pq) (x : Pq) (suf : List Pq) : (pre.length : Int) < ((pre ++ x :: suf).length : Int) := by
  simp; omega
theorem qnn (n : Nat) : (0 : Int) ≤ (n : Int) := Int.natCast_nonneg n
theorem qnxt (pre : List Pq) (x : Pq) (h : pre.length < 9223372036854775807) : wrap64 ((pre.length : Int) + 1) = ((pre ++ [x]).length : Int) := by
  rw [w64 (by omega) (by omega)]; simp
theorem qend (pre : List Pq) : ¬ ((pre.length : Int) < ((pre ++ []).length : Int)) := by simp
theorem qsnoc (pre : List Pq) (x : Pq) (suf : List Pq) : pre ++ x :: suf = (pre ++ [x]) ++ suf := by simp

theorem may_f (x : Pq) : part_may.f x.f0 x.f1 = some (mayB x) := by
  unfold part_may.f mayB
  split
  next h1 =>
    split
    next h2 =>
      split
      next h3 => simp [h1, h2, h3]
      next h3 => simp [h1, h2, h3]
    next h2 => simp [h1, h2]
  next h1 => simp [h1]
theorem rmay_f (x : Pq) : rickyardref26_MayPiece.f x.f0 x.f1 = some (mayB x) := may_f x
theorem may_bd {x : Pq} (h : mayB x = true) : 0 ≤ x.f0 ∧ x.f0 ≤ 2147483648 ∧ 1 ≤ x.f1 ∧ x.f1 ≤ 2147483648 := by
  simp [mayB] at h; omega
/-- Each begins where the one ahead of it ends. -/
def wh : List Pq → Int → Int → Bool
  | [], e, w => decide (e = w) && decide (w ≤ 2147483648)
  | x :: l, e, w => mayB x && decide (x.f0 = e) && wh l (e + x.f1) w
theorem whole_l0 (w : Int) (suf : List Pq) : ∀ (pre : List Pq) (e : Int), 0 ≤ e → e ≤ 8589934592 → (pre ++ suf).length < 9223372036854775807 →
    Ev (fun k => part_Whole.l0 k w e (pre ++ suf) ((pre ++ suf).length : Int) (pre.length : Int)) (wh suf e w) := by
  induction suf with
  | nil =>
    intro pre e h0 h1 h3
    refine Ev.step1 (fun k => ?_)
    simp only [part_Whole.l0]
    rw [if_neg (qend pre), wh]
    by_cases c : e = w
    · rw [if_pos c, decide_eq_true c, Bool.true_and]
    · rw [if_neg c, decide_eq_false c, Bool.false_and]
  | cons x suf ih =>
    intro pre e h0 h1 h3
    have hl : pre.length < 9223372036854775807 := by simp at h3; omega
    cases hm : mayB x with
    | false =>
      refine Ev.step1 (fun k => ?_)
      simp only [part_Whole.l0]
      rw [if_pos (qmid_lt pre x suf), if_pos (qnn _), if_pos (qmid_lt pre x suf), qrd_mid, may_f, hm, Option.bind_some, if_neg (by simp), wh, hm]
      rfl
    | true =>
      by_cases c : x.f0 = e
      · have hb := may_bd hm
        have := ih (pre ++ [x]) (e + x.f1) (by omega) (by omega) (by simpa using h3)
        rw [← qsnoc] at this
        refine Ev.eq (Ev.step (fun k => ?_) this) (by rw [wh, hm, decide_eq_true c]; rfl)
        simp only [part_Whole.l0]
        rw [if_pos (qmid_lt pre x suf), if_pos (qnn _), if_pos (qmid_lt pre x suf), qrd_mid, may_f, hm, Option.bind_some, if_pos rfl, if_pos c, qnxt pre x hl, w64 (by omega) (by omega)]
      · refine Ev.step1 (fun k => ?_)
        simp only [part_Whole.l0]
        rw [if_pos (qmid_lt pre x suf), if_pos (qnn _), if_pos (qmid_lt pre x suf), qrd_mid, may_f, hm, Option.bind_some, if_pos rfl, if_neg c, wh, hm, decide_eq_false c]
        rfl
/-- The seven lists, one behind the other. -/
def flat7 (l0 l1 l2 l3 l4 l5 l6 : List Pq) : List Pq := ([l0, l1, l2, l3, l4, l5, l6] : List (List Pq)).flatten
theorem flat7_len (l0 l1 l2 l3 l4 l5 l6 : List Pq) : (flat7 l0 l1 l2 l3 l4 l5 l6).length = l0.length + l1.length + l2.length + l3.length + l4.length + l5.length + l6.length := by simp [flat7]; omega
theorem all_f {l0 l1 l2 l3 l4 l5 l6 : List Pq} (h : (flat7 l0 l1 l2 l3 l4 l5 l6).length ≤ 100000) : part_All.f l0 l1 l2 l3 l4 l5 l6 = some (sortP (flat7 l0 l1 l2 l3 l4 l5 l6)) := by
  unfold part_All.f; exact if_pos h
theorem kind_f {l0 l1 l2 l3 l4 l5 l6 : List Pq} (h : (flat7 l0 l1 l2 l3 l4 l5 l6).length ≤ 100000) (a : Int) : part_Kind.f l0 l1 l2 l3 l4 l5 l6 a = some (kindP [l0, l1, l2, l3, l4, l5, l6] a 0) := by
  unfold part_Kind.f; exact if_pos h
theorem whole_ev {l0 l1 l2 l3 l4 l5 l6 : List Pq} (h : (flat7 l0 l1 l2 l3 l4 l5 l6).length ≤ 100000) (w : Int) : Ev (fun k => part_Whole.f k l0 l1 l2 l3 l4 l5 l6 w) (wh (sortP (flat7 l0 l1 l2 l3 l4 l5 l6)) 0 w) := by
  have := whole_l0 w (sortP (flat7 l0 l1 l2 l3 l4 l5 l6)) [] 0 (by omega) (by omega) (by rw [List.nil_append, sortP_length]; omega)
  refine Ev.congr (fun k => ?_) this
  unfold part_Whole.f
  rw [all_f h]
  rfl
/-- How many words. -/
def ws : List Pq → Int
  | [] => 0
  | x :: l => (if mayB x = true then x.f1 else 0) + ws l
theorem ws_bd (l : List Pq) : 0 ≤ ws l ∧ ws l ≤ 2147483648 * l.length := by
  induction l with
  | nil => simp [ws]
  | cons x l ih =>
    simp only [ws, List.length_cons]
    split
    next h => have := may_bd h; omega
    next h => omega
theorem mn_le {a b : Int} (h : a ≤ b) : mn a b = a := by simp [mn]; omega
theorem words_l0 (suf : List Pq) : ∀ (pre : List Pq) (s : Int), 0 ≤ s → s + 2147483648 * suf.length ≤ 1152921504606846976 → (pre ++ suf).length < 9223372036854775807 →
    Ev (fun k => part_Words.l0 k s (pre ++ suf) ((pre ++ suf).length : Int) (pre.length : Int)) (s + ws suf) := by
  induction suf with
  | nil =>
    intro pre s _ h2 _
    refine Ev.eq (r := s) (Ev.step1 (fun k => ?_)) (by simp [ws])
    simp only [part_Words.l0]
    rw [if_neg (qend pre), mn_le (by simp at h2; omega)]
  | cons x suf ih =>
    intro pre s hs hb h3
    have hl : pre.length < 9223372036854775807 := by simp at h3; omega
    simp only [List.length_cons] at hb
    cases hm : mayB x with
    | true =>
      have hx := may_bd hm
      have := ih (pre ++ [x]) (s + x.f1) (by omega) (by omega) (by simpa using h3)
      rw [← qsnoc] at this
      refine Ev.eq (Ev.step (fun k => ?_) this) (by simp only [ws, hm, if_true]; omega)
      simp only [part_Words.l0]
      rw [if_pos (qmid_lt pre x suf), if_pos (qnn _), if_pos (qmid_lt pre x suf), qrd_mid, may_f, hm, Option.bind_some, if_pos rfl, qnxt pre x hl, w64 (by omega) (by omega)]
    | false =>
      have := ih (pre ++ [x]) s (by omega) (by omega) (by simpa using h3)
      rw [← qsnoc] at this
      refine Ev.eq (Ev.step (fun k => ?_) this) (by simp [ws, hm])
      simp only [part_Words.l0]
      rw [if_pos (qmid_lt pre x suf), if_pos (qnn _), if_pos (qmid_lt pre x suf), qrd_mid, may_f, hm, Option.bind_some, if_neg (by simp), qnxt pre x hl]
theorem words_ev (l : List Pq) (h : l.length ≤ 100000) : Ev (fun k => part_Words.f k l) (ws l) := by
  have := words_l0 l [] 0 (by omega) (by omega) (by simp only [List.nil_append]; omega)
  exact Ev.eq (Ev.congr (fun k => by rfl) this) (by omega)
theorem rwords_l0 (suf : List Pq) : ∀ (pre : List Pq) (s : Int), 0 ≤ s → s + 2147483648 * suf.length ≤ 1152921504606846976 → (pre ++ suf).length < 9223372036854775807 →
    Ev (fun k => rickyardref26_Words.l0 k (pre ++ suf) s (pre.length : Int)) (s + ws suf) := by
  induction suf with
  | nil =>
    intro pre s _ h2 _
    refine Ev.eq (r := s) (Ev.step1 (fun k => ?_)) (by simp [ws])
    simp only [rickyardref26_Words.l0]
    rw [if_neg (qend pre)]
  | cons x suf ih =>
    intro pre s hs hb h3
    have hl : pre.length < 9223372036854775807 := by simp at h3; omega
    simp only [List.length_cons] at hb
    cases hm : mayB x with
    | true =>
      have hx := may_bd hm
      have := ih (pre ++ [x]) (s + x.f1) (by omega) (by omega) (by simpa using h3)
      rw [← qsnoc] at this
      refine Ev.eq (Ev.step (fun k => ?_) this) (by simp only [ws, hm, if_true]; omega)
      simp only [rickyardref26_Words.l0]
      rw [if_pos (qmid_lt pre x suf), if_pos (qnn _), qrd_mid, rmay_f, hm, Option.bind_some, if_pos rfl, qnxt pre x hl, w64 (by omega) (by omega), mn_le (by omega)]
    | false =>
      have := ih (pre ++ [x]) s (by omega) (by omega) (by simpa using h3)
      rw [← qsnoc] at this
      refine Ev.eq (Ev.step (fun k => ?_) this) (by simp [ws, hm])
      simp only [rickyardref26_Words.l0]
      rw [if_pos (qmid_lt pre x suf), if_pos (qnn _), qrd_mid, rmay_f, hm, Option.bind_some, if_neg (by simp), qnxt pre x hl]
theorem rwords_ev (l : List Pq) (h : l.length ≤ 100000) : Ev (fun k => rickyardref26_Words.f k l) (ws l) := by
  have := rwords_l0 l [] 0 (by omega) (by omega) (by simp only [List.nil_append]; omega)
  exact Ev.eq (Ev.congr (fun k => by rfl) this) (by omega)
/-! the document's All -/
theorem lrd_mid (pre : List (List Pq)) (x : List Pq) (suf : List (List Pq)) : rd_L6 (pre ++ x :: suf) (pre.length : Int) = x := by
  simp [rd_L6]
theorem lmid_lt (pre : List (List Pq)) (x : List Pq) (suf : List (List Pq)) : (pre.length : Int) < ((pre ++ x :: suf).length : Int) := by
  simp; omega
theorem lnxt (pre : List (List Pq)) (x : List Pq) (h : pre.length < 9223372036854775807) : wrap64 ((pre.length : Int) + 1) = ((pre ++ [x]).length : Int) := by
  rw [w64 (by omega) (by omega)]; simp
theorem lend (pre : List (List Pq)) : ¬ ((pre.length : Int) < ((pre ++ []).length : Int)) := by simp
theorem lsnoc (pre : List (List Pq)) (x : List Pq) (suf : List (List Pq)) : pre ++ x :: suf = (pre ++ [x]) ++ suf := by simp
theorem rall_l0 (suf : List (List Pq)) : ∀ (pre : List (List Pq)) (o : List Pq), (o ++ suf.flatten).length ≤ 100000 → (pre ++ suf).length < 9223372036854775807 →
    Ev (fun k => rickyardref26_All.l0 k o (pre ++ suf) (pre.length : Int)) (sortP (o ++ suf.flatten)) := by
  induction suf with
  | nil =>
    intro pre o h1 h2
    refine Ev.step1 (fun k => ?_)
    simp only [rickyardref26_All.l0]
    have e : rickyardref13_Sort.f o = some (sortP o) := by unfold rickyardref13_Sort.f; rw [if_pos (by simpa using h1)]
    rw [if_neg (lend pre), e]
    simp
  | cons x suf ih =>
    intro pre o h1 h2
    have hl : pre.length < 9223372036854775807 := by simp at h2; omega
    have := ih (pre ++ [x]) (o ++ x) (by simpa using h1) (by simpa using h2)
    rw [← lsnoc] at this
    refine Ev.eq (Ev.step (fun k => ?_) this) (by simp)
    simp only [rickyardref26_All.l0]
    rw [if_pos (lmid_lt pre x suf), if_pos (qnn _), lrd_mid, if_pos (by simp at h1; omega), lnxt pre x hl]
theorem rall_ev {l0 l1 l2 l3 l4 l5 l6 : List Pq} (h : (flat7 l0 l1 l2 l3 l4 l5 l6).length ≤ 100000) : Ev (fun k => rickyardref26_All.f k l0 l1 l2 l3 l4 l5 l6) (sortP (flat7 l0 l1 l2 l3 l4 l5 l6)) := by
  have := rall_l0 [l0, l1, l2, l3, l4, l5, l6] [] [] (by simpa [flat7] using h) (by simp)
  exact Ev.congr (fun k => by rfl) this
/-! the document's Kind -/
theorem rkind_l1 (a : Int) (lpre : List (List Pq)) (l : List Pq) (lsuf : List (List Pq)) (hL : lpre.length < 1000000) (hl : l.length ≤ 100000)
    (hnext : Ev (fun k => rickyardref26_Kind.l0 k a (lpre ++ l :: lsuf) ((lpre ++ [l]).length : Int)) (kindP lsuf a ((lpre.length : Int) + 1))) (suf : List Pq) : ∀ (pre : List Pq), l = pre ++ suf →
    Ev (fun k => rickyardref26_Kind.l1 k a (lpre ++ l :: lsuf) (lpre.length : Int) (pre.length : Int)) (if suf.any (hasP a) = true then (lpre.length : Int) + 1 else kindP lsuf a ((lpre.length : Int) + 1)) := by
  induction suf with
  | nil =>
    intro pre e
    subst e
    refine Ev.eq (Ev.step (fun k => ?_) hnext) (by simp)
    simp only [rickyardref26_Kind.l1]
    rw [if_pos (qnn _), if_pos (lmid_lt lpre _ lsuf), lrd_mid, if_neg (qend pre), lnxt lpre _ (by omega)]
  | cons x suf ih =>
    intro pre e
    have hpl : pre.length < 9223372036854775807 := by rw [e] at hl; simp at hl; omega
    have hi := ih (pre ++ [x]) (by rw [e]; simp)
    have hrd : rd_T58 l (pre.length : Int) = x := by rw [e]; exact qrd_mid pre x suf
    have hlt : (pre.length : Int) < (l.length : Int) := by rw [e]; exact qmid_lt pre x suf
    have w1 : wrap64 ((lpre.length : Int) + 1) = (lpre.length : Int) + 1 := w64 (by omega) (by omega)
    cases hm : mayB x with
    | false =>
      have hh : hasP a x = false := by simp [hasP, hm]
      refine Ev.eq (Ev.step (fun k => ?_) hi) (by rw [List.any_cons, hh, Bool.false_or])
      simp only [rickyardref26_Kind.l1]
      rw [if_pos (qnn _), if_pos (lmid_lt lpre _ lsuf), lrd_mid, if_pos hlt, if_pos (qnn _), hrd, rmay_f, hm, Option.bind_some, if_neg (by simp), qnxt pre x hpl]
    | true =>
      have hb := may_bd hm
      have w2 : wrap64 (x.f0 + x.f1) = x.f0 + x.f1 := w64 (by omega) (by omega)
      by_cases c1 : a ≥ x.f0
      · by_cases c2 : a < x.f0 + x.f1
        · have hh : hasP a x = true := by simp [hasP, hm, c2]; exact c1
          refine Ev.eq (r := (lpre.length : Int) + 1) (Ev.step1 (fun k => ?_)) (by rw [List.any_cons, hh, Bool.true_or, if_pos rfl])
          simp only [rickyardref26_Kind.l1]
          rw [if_pos (qnn _), if_pos (lmid_lt lpre _ lsuf), lrd_mid, if_pos hlt, if_pos (qnn _), hrd, rmay_f, hm, Option.bind_some, if_pos rfl, if_pos c1, w2, if_pos c2, w1]
        · have hh : hasP a x = false := by simp [hasP, hm, c2]
          refine Ev.eq (Ev.step (fun k => ?_) hi) (by rw [List.any_cons, hh, Bool.false_or])
          simp only [rickyardref26_Kind.l1]
          rw [if_pos (qnn _), if_pos (lmid_lt lpre _ lsuf), lrd_mid, if_pos hlt, if_pos (qnn _), hrd, rmay_f, hm, Option.bind_some, if_pos rfl, if_pos c1, w2, if_neg c2, qnxt pre x hpl]
      · have hh : hasP a x = false := by simp [hasP, hm]; intro h; omega
        refine Ev.eq (Ev.step (fun k => ?_) hi) (by rw [List.any_cons, hh, Bool.false_or])
        simp only [rickyardref26_Kind.l1]
        rw [if_pos (qnn _), if_pos (lmid_lt lpre _ lsuf), lrd_mid, if_pos hlt, if_pos (qnn _), hrd, rmay_f, hm, Option.bind_some, if_pos rfl, if_neg c1, qnxt pre x hpl]
theorem rkind_l0 (a : Int) (suf : List (List Pq)) : ∀ (pre : List (List Pq)), (pre ++ suf).length < 1000000 → (∀ l ∈ suf, l.length ≤ 100000) →
    Ev (fun k => rickyardref26_Kind.l0 k a (pre ++ suf) (pre.length : Int)) (kindP suf a (pre.length : Int)) := by
  induction suf with
  | nil =>
    intro pre h1 h2
    refine Ev.step1 (fun k => ?_)
    simp only [rickyardref26_Kind.l0]
    rw [if_neg (lend pre)]
    rfl
  | cons l suf ih =>
    intro pre h1 h2
    have hi := ih (pre ++ [l]) (by simpa using h1) (fun x hx => h2 x (by simp [hx]))
    rw [← lsnoc] at hi
    have e1 : (((pre ++ [l]).length : Nat) : Int) = (pre.length : Int) + 1 := by simp
    have h3 := rkind_l1 a pre l suf (by simp at h1; omega) (h2 l (by simp)) (by rw [e1] at hi ⊢; exact hi) l [] rfl
    refine Ev.eq (Ev.step (fun k => ?_) h3) (by rw [kindP])
    simp only [rickyardref26_Kind.l0]
    rw [if_pos (lmid_lt pre l suf)]
    rfl
theorem rkind_ev {l0 l1 l2 l3 l4 l5 l6 : List Pq} (h : (flat7 l0 l1 l2 l3 l4 l5 l6).length ≤ 100000) (a : Int) : Ev (fun k => rickyardref26_Kind.f k l0 l1 l2 l3 l4 l5 l6 a) (kindP [l0, l1, l2, l3, l4, l5, l6] a 0) := by
  rw [flat7_len] at h
  have := rkind_l0 a [l0, l1, l2, l3, l4, l5, l6] [] (by simp) (by
    intro l hl
    simp at hl
    rcases hl with rfl | rfl | rfl | rfl | rfl | rfl | rfl <;> omega)
  exact Ev.congr (fun k => by rfl) this
/-! the document's Whole -/
def wh' : List Pq → Int → Int → Bool
  | [], e, w => e == w
  | x :: l, e, w => mayB x && decide (x.f0 = e) && wh' l (e + x.f1) w
theorem rwhole_l0 (w : Int) (suf : List Pq) : ∀ (pre : List Pq) (e : Int), 0 ≤ e → e ≤ 8589934592 → (pre ++ suf).length < 9223372036854775807 →
    Ev (fun k => rickyardref26_Whole.l0 k w (pre ++ suf) e (pre.length : Int)) (wh' suf e w) := by
  induction suf with
  | nil =>
    intro pre e h0 h1 h3
    refine Ev.step1 (fun k => ?_)
    simp only [rickyardref26_Whole.l0]
    rw [if_neg (qend pre), wh']
  | cons x suf ih =>
    intro pre e h0 h1 h3
    have hl : pre.length < 9223372036854775807 := by simp at h3; omega
    cases hm : mayB x with
    | false =>
      refine Ev.step1 (fun k => ?_)
      simp only [rickyardref26_Whole.l0]
      rw [if_pos (qmid_lt pre x suf), if_pos (qnn _), qrd_mid, rmay_f, hm, Option.bind_some, if_neg (by simp), wh', hm]
      rfl
    | true =>
      by_cases c : x.f0 = e
      · have hb := may_bd hm
        have := ih (pre ++ [x]) (e + x.f1) (by omega) (by omega) (by simpa using h3)
        rw [← qsnoc] at this
        refine Ev.eq (Ev.step (fun k => ?_) this) (by rw [wh', hm, decide_eq_true c]; rfl)
        simp only [rickyardref26_Whole.l0]
        rw [if_pos (qmid_lt pre x suf), if_pos (qnn _), qrd_mid, rmay_f, hm, Option.bind_some, if_pos rfl, if_pos c, qnxt pre x hl, w64 (by omega) (by omega)]
      · refine Ev.step1 (fun k => ?_)
        simp only [rickyardref26_Whole.l0]
        rw [if_pos (qmid_lt pre x suf), if_pos (qnn _), qrd_mid, rmay_f, hm, Option.bind_some, if_pos rfl, if_neg c, wh', hm, decide_eq_false c]
        rfl
theorem wh_in (w : Int) (hw : w ≤ 2147483648) (l : List Pq) : ∀ e, wh l e w = wh' l e w := by
  induction l with
  | nil => intro e; simp [wh, wh', hw]; rfl
  | cons x l ih => intro e; rw [wh, wh', ih]
theorem wh_neg (w : Int) (hw : w < 0) (l : List Pq) : ∀ e, 0 ≤ e → wh l e w = false := by
  induction l with
  | nil => intro e he; rw [wh, decide_eq_false (by omega)]; rfl
  | cons x l ih =>
    intro e he
    rw [wh]
    cases hm : mayB x with
    | false => rfl
    | true => have := may_bd hm; rw [ih (e + x.f1) (by omega)]; simp
theorem wh_far (w : Int) (hw : 2147483648 < w) (l : List Pq) : ∀ e, wh l e w = false := by
  induction l with
  | nil => intro e; rw [wh, decide_eq_false (show ¬ w ≤ 2147483648 by omega), Bool.and_false]
  | cons x l ih => intro e; rw [wh, ih]; simp
theorem rwhole_ev {l0 l1 l2 l3 l4 l5 l6 : List Pq} (h : (flat7 l0 l1 l2 l3 l4 l5 l6).length ≤ 100000) (w : Int) : Ev (fun k => rickyardref26_Whole.f k l0 l1 l2 l3 l4 l5 l6 w) (wh (sortP (flat7 l0 l1 l2 l3 l4 l5 l6)) 0 w) := by
  have no : ∀ b, b = true → Ev (fun k => rickyardref26_Whole.j0 k w b l0 l1 l2 l3 l4 l5 l6) false := fun b hb => Ev.step1 (fun k => by simp only [rickyardref26_Whole.j0]; rw [if_pos hb])
  by_cases c1 : w < 0
  · refine Ev.eq (Ev.congr (fun k => ?_) (no true rfl)) (wh_neg w c1 _ 0 (by omega)).symm
    unfold rickyardref26_Whole.f
    rw [if_pos c1]
  · by_cases c2 : w > 2147483648
    · refine Ev.eq (Ev.congr (fun k => ?_) (no (decide (w > 2147483648)) (decide_eq_true c2))) (wh_far w c2 _ 0).symm
      unfold rickyardref26_Whole.f
      rw [if_neg c1]
    · have h1 := rwhole_l0 w (sortP (flat7 l0 l1 l2 l3 l4 l5 l6)) [] 0 (by omega) (by omega) (by rw [List.nil_append, sortP_length]; omega)
      rw [← wh_in w (by omega)] at h1
      have h2 := rall_ev h
      obtain ⟨K1, e1⟩ := h1
      obtain ⟨K2, e2⟩ := h2
      refine ⟨K1 + K2 + 1, fun k hk => ?_⟩
      obtain ⟨k, rfl⟩ : ∃ k', k = k' + 1 := ⟨k - 1, by omega⟩
      show rickyardref26_Whole.f (k + 1) l0 l1 l2 l3 l4 l5 l6 w = _
      unfold rickyardref26_Whole.f
      rw [if_neg c1]
      simp only [rickyardref26_Whole.j0]
      have e3 : rickyardref26_All.f k l0 l1 l2 l3 l4 l5 l6 = some (sortP (flat7 l0 l1 l2 l3 l4 l5 l6)) := e2 k (by omega)
      rw [decide_eq_false c2, if_neg (by simp), e3, Option.bind_some]
      exact e1 k (by omega)
/-! alike -/
theorem same_l0 (suf : List Pq) : ∀ (pre : List Pq), (pre ++ suf).length < 9223372036854775807 → Ev (fun k => rickyardref13_SamePieces.l0 k (pre ++ suf) (pre ++ suf) (pre.length : Int)) true := by
  induction suf with
  | nil =>
    intro pre h
    refine Ev.step1 (fun k => ?_)
    simp only [rickyardref13_SamePieces.l0]
    rw [if_neg (qend pre)]
  | cons x suf ih =>
    intro pre h
    have hl : pre.length < 9223372036854775807 := by simp at h; omega
    have := ih (pre ++ [x]) (by simpa using h)
    rw [← qsnoc] at this
    refine Ev.step (fun k => ?_) this
    simp only [rickyardref13_SamePieces.l0]
    rw [if_pos (qmid_lt pre x suf), if_pos (qnn _), if_pos (qmid_lt pre x suf), qrd_mid, if_neg (by simp), qnxt pre x hl]
theorem same_ev (l : List Pq) (h : l.length ≤ 100000) : Ev (fun k => rickyardref13_SamePieces.f k l l) true := by
  have := same_l0 l [] (by simp only [List.nil_append]; omega)
  refine Ev.congr (fun k => ?_) this
  unfold rickyardref13_SamePieces.f
  rw [if_pos rfl]
  rfl
theorem awake_ev : Ev (fun k => rickyardlaw26_awake.f k) true := by
  have h : ∃ k, rickyardlaw26_awake.f k = some true := ⟨6, by decide +kernel⟩
  obtain ⟨k, hk⟩ := h
  exact Ev.of (fun k => rickyardlaw26_awake.mono k) hk
/-- Are there more than are looked at? -/
theorem many_f {l0 l1 l2 l3 l4 l5 l6 : List Pq} (h0 : l0.length * 16 ≤ 140737488351232) (h1 : l1.length * 16 ≤ 140737488351232) (h2 : l2.length * 16 ≤ 140737488351232) (h3 : l3.length * 16 ≤ 140737488351232) (h4 : l4.length * 16 ≤ 140737488351232) (h5 : l5.length * 16 ≤ 140737488351232) (h6 : l6.length * 16 ≤ 140737488351232) :
    (rickyardlaw26_many.f l0 l1 l2 l3 l4 l5 l6 = some true) ∨ (rickyardlaw26_many.f l0 l1 l2 l3 l4 l5 l6 = some false ∧ l0.length + l1.length + l2.length + l3.length ≤ 600 ∧ l4.length + l5.length + l6.length ≤ 600) := by
  unfold rickyardlaw26_many.f
  rw [w64 (n := (l0.length : Int) + (l1.length : Int)) (by omega) (by omega), w64 (n := (l0.length : Int) + (l1.length : Int) + (l2.length : Int)) (by omega) (by omega), w64 (n := (l0.length : Int) + (l1.length : Int) + (l2.length : Int) + (l3.length : Int)) (by omega) (by omega), w64 (n := (l4.length : Int) + (l5.length : Int)) (by omega) (by omega), w64 (n := (l4.length : Int) + (l5.length : Int) + (l6.length : Int)) (by omega) (by omega)]
  by_cases c1 : (l0.length : Int) + (l1.length : Int) + (l2.length : Int) + (l3.length : Int) > 600
  · rw [if_pos c1]; exact .inl rfl
  · rw [if_neg c1]
    by_cases c2 : (l4.length : Int) + (l5.length : Int) + (l6.length : Int) > 600
    · rw [decide_eq_true c2]; exact .inl rfl
    · rw [decide_eq_false c2]; exact .inr ⟨rfl, by omega, by omega⟩
theorem PartAll {l0 l1 l2 l3 l4 l5 l6 : List Pq} (hs : l0.length * 16 ≤ 140737488351232 ∧ l1.length * 16 ≤ 140737488351232 ∧ l2.length * 16 ≤ 140737488351232 ∧ l3.length * 16 ≤ 140737488351232 ∧ l4.length * 16 ≤ 140737488351232 ∧ l5.length * 16 ≤ 140737488351232 ∧ l6.length * 16 ≤ 140737488351232) (a w : Int) : ∃ k, rickyardlaw26_PartAll.f k l0 l1 l2 l3 l4 l5 l6 a w = some true := by
  obtain ⟨h0, h1, h2, h3, h4, h5, h6⟩ := hs
  obtain ⟨Ka, ea⟩ := awake_ev
  rcases many_f h0 h1 h2 h3 h4 h5 h6 with hm | ⟨hm, s1, s2⟩
  · refine ⟨Ka, ?_⟩
    have e := ea Ka (Nat.le_refl _)
    dsimp only at e
    simp only [rickyardlaw26_PartAll.f, hm, Option.bind_some, if_true, e]
  · have hf : (flat7 l0 l1 l2 l3 l4 l5 l6).length ≤ 100000 := by rw [flat7_len]; omega
    have hl6 : l6.length ≤ 100000 := by omega
    obtain ⟨K1, e1⟩ := rall_ev hf
    obtain ⟨K2, e2⟩ := same_ev (sortP (flat7 l0 l1 l2 l3 l4 l5 l6)) (by rw [sortP_length]; exact hf)
    obtain ⟨K3, e3⟩ := rkind_ev hf a
    obtain ⟨K4, e4⟩ := whole_ev hf w
    obtain ⟨K5, e5⟩ := rwhole_ev hf w
    obtain ⟨K6, e6⟩ := words_ev l6 hl6
    obtain ⟨K7, e7⟩ := rwords_ev l6 hl6
    refine ⟨Ka + K1 + K2 + K3 + K4 + K5 + K6 + K7, ?_⟩
    generalize hK : Ka + K1 + K2 + K3 + K4 + K5 + K6 + K7 = K
    have f0 := ea K (by omega)
    have f1 := e1 K (by omega)
    have f2 := e2 K (by omega)
    have f3 := e3 K (by omega)
    have f4 := e4 K (by omega)
    have f5 := e5 K (by omega)
    have f6 := e6 K (by omega)
    have f7 := e7 K (by omega)
    dsimp only at f0 f1 f2 f3 f4 f5 f6 f7
    simp only [rickyardlaw26_PartAll.f, hm, all_f hf, kind_f hf, Option.bind_some, f0, f1, f2, f3, f4, f5, f6, f7, if_true, beq_self_eq_true, Bool.false_eq_true, if_false]
end Go.Proofs.Ythbknmblehecaaa.Pure
