/- Runs of pages: how many there are, the longest, those that are made by numbers, which are right. No statement is proved here. -/
import Derived.Test.YtojijdfgflcnjaaPure
import Derived.Test.YtojijdfgflcnjaaRunsPure
import Derived.Test.YtojijdfgflcnjaaPrx1
import Derived.Test.YtojijdfgflcnjaaPrx1
import Derived.Test.YtojijdfgflcnjaaPrx2
import Derived.Test.YtojijdfgflcnjaaPrx2
import Derived.Test.YtojijdfgflcnjaaPrx4
import Derived.Test.YtojijdfgflcnjaaPrx2
namespace Go.Proofs.Ytojijdfgflcnjaa.Pure
open Go.RowKit Go.Proofs.Ytojijdfgflcnjaa.Pr Go.Proofs.YtojijdfgflcnjaaW.PrintWords Go.Proofs.YtojijdfgflcnjaaW.PrintLast Go.Proofs.YtojijdfgflcnjaaW.PrintMore
set_option linter.unusedVariables false
set_option linter.unusedSimpArgs false
theorem rd_mid (pre : List Rn) (x : Rn) (suf : List Rn) : rd_T61 (pre ++ x :: suf) (pre.length : Int) = x := by
  simp [rd_T61]
theorem mid_lt (pre : List Rn) (x : Rn) (suf : List Rn) : (pre.length : Int) < ((pre ++ x :: suf).length : Int) := by
  simp; omega
theorem nn (n : Nat) : (0 : Int) ≤ (n : Int) := Int.natCast_nonneg n
theorem nxt (pre : List Rn) (x : Rn) (h : pre.length < 9223372036854775807) : wrap64 ((pre.length : Int) + 1) = ((pre ++ [x]).length : Int) := by
  rw [w64 (by omega) (by omega)]; simp
theorem end_nlt (pre : List Rn) : ¬ ((pre.length : Int) < ((pre ++ []).length : Int)) := by simp
theorem snoc (pre : List Rn) (x : Rn) (suf : List Rn) : pre ++ x :: suf = (pre ++ [x]) ++ suf := by simp
theorem total_l0 (suf : List Rn) : ∀ (pre : List Rn) (s e : Int), rt 256 e suf → 0 ≤ s → s ≤ e + 1 → -1 ≤ e → e ≤ 256 → (pre ++ suf).length < 9223372036854775807 →
    Ev (fun k => runs_Total.l0 k s (pre ++ suf) ((pre ++ suf).length : Int) (pre.length : Int)) (s + tot suf) := by
  induction suf with
  | nil =>
    intro pre s e _ _ _ _ _ h3
    refine Ev.eq (r := s) (Ev.step1 (fun k => ?_)) (by simp [tot])
    simp only [runs_Total.l0]
    rw [if_neg (end_nlt pre)]
  | cons x suf ih =>
    intro pre s e hr hs he he1 he2 h3
    obtain ⟨a1, a2, a3, a4⟩ := hr
    have hl : pre.length < 9223372036854775807 := by simp at h3; omega
    have := ih (pre ++ [x]) (s + x.f1) (x.f0 + x.f1) a4 (by omega) (by omega) (by omega) (by omega) (by simpa using h3)
    rw [← snoc] at this
    refine Ev.eq (Ev.step (fun k => ?_) this) (by simp only [tot]; omega)
    simp only [runs_Total.l0]
    rw [if_pos (mid_lt pre x suf), if_pos (nn _), if_pos (mid_lt pre x suf), rd_mid, nxt pre x hl, w64 (by omega) (by omega)]
theorem total_ev {l : List Rn} (h : rt 256 (-1) l) : Ev (fun k => runs_Total.f k l) (tot l) := by
  have hl : l.length < 9223372036854775807 := by
    rcases rt_len h with rfl | h
    · simp
    · omega
  have := total_l0 l [] 0 (-1) h (by omega) (by omega) (by omega) (by omega) (by simpa using hl)
  exact Ev.eq (Ev.congr (fun k => by rfl) this) (by omega)
theorem most_l0 (suf : List Rn) : ∀ (pre : List Rn) (s : Int), (pre ++ suf).length < 9223372036854775807 →
    Ev (fun k => runs_Most.l0 k s (pre ++ suf) ((pre ++ suf).length : Int) (pre.length : Int)) (most suf s) := by
  induction suf with
  | nil =>
    intro pre s h3
    refine Ev.step1 (fun k => ?_)
    simp only [runs_Most.l0]
    rw [if_neg (end_nlt pre)]
    rfl
  | cons x suf ih =>
    intro pre s h3
    have hl : pre.length < 9223372036854775807 := by simp at h3; omega
    have := ih (pre ++ [x]) (mx s x.f1) (by simpa using h3)
    rw [← snoc] at this
    refine Ev.step (fun k => ?_) this
    simp only [runs_Most.l0]
    rw [if_pos (mid_lt pre x suf), if_pos (nn _), if_pos (mid_lt pre x suf), rd_mid, nxt pre x hl]
theorem most_ev (l : List Rn) (h : l.length < 9223372036854775807) : Ev (fun k => runs_Most.f k l) (most l 0) := by
  have := most_l0 l [] 0 (by simpa using h)
  exact Ev.congr (fun k => by rfl) this
theorem rtotal_l0 (suf : List Rn) : ∀ (pre : List Rn) (s e : Int), rt 256 e suf → 0 ≤ s → s ≤ e + 1 → -1 ≤ e → e ≤ 256 → (pre ++ suf).length < 9223372036854775807 →
    Ev (fun k => rickyardref1_Total.l0 k (pre ++ suf) s (pre.length : Int)) (s + tot suf) := by
  induction suf with
  | nil =>
    intro pre s e _ _ _ _ _ h3
    refine Ev.eq (r := s) (Ev.step1 (fun k => ?_)) (by simp [tot])
    simp only [rickyardref1_Total.l0]
    rw [if_neg (end_nlt pre)]
  | cons x suf ih =>
    intro pre s e hr hs he he1 he2 h3
    obtain ⟨a1, a2, a3, a4⟩ := hr
    have hl : pre.length < 9223372036854775807 := by simp at h3; omega
    have := ih (pre ++ [x]) (s + x.f1) (x.f0 + x.f1) a4 (by omega) (by omega) (by omega) (by omega) (by simpa using h3)
    rw [← snoc] at this
    refine Ev.eq (Ev.step (fun k => ?_) this) (by simp only [tot]; omega)
    simp only [rickyardref1_Total.l0]
    rw [if_pos (mid_lt pre x suf), if_pos (nn _), rd_mid, nxt pre x hl, w64 (by omega) (by omega)]
theorem rtotal_ev {l : List Rn} (h : rt 256 (-1) l) : Ev (fun k => rickyardref1_Total.f k l) (tot l) := by
  have hl : l.length < 9223372036854775807 := by
    rcases rt_len h with rfl | h
    · simp
    · omega
  have := rtotal_l0 l [] 0 (-1) h (by omega) (by omega) (by omega) (by omega) (by simpa using hl)
  exact Ev.eq (Ev.congr (fun k => by rfl) this) (by omega)
theorem rmost_l0 (suf : List Rn) : ∀ (pre : List Rn) (s : Int), (pre ++ suf).length < 9223372036854775807 →
    Ev (fun k => rickyardref1_Most.l0 k (pre ++ suf) s (pre.length : Int)) (most suf s) := by
  induction suf with
  | nil =>
    intro pre s h3
    refine Ev.step1 (fun k => ?_)
    simp only [rickyardref1_Most.l0]
    rw [if_neg (end_nlt pre)]
    rfl
  | cons x suf ih =>
    intro pre s h3
    have hl : pre.length < 9223372036854775807 := by simp at h3; omega
    have := ih (pre ++ [x]) (mx s x.f1) (by simpa using h3)
    rw [← snoc] at this
    refine Ev.step (fun k => ?_) this
    simp only [rickyardref1_Most.l0]
    rw [if_pos (mid_lt pre x suf), if_pos (nn _), rd_mid, nxt pre x hl]
theorem rmost_ev (l : List Rn) (h : l.length < 9223372036854775807) : Ev (fun k => rickyardref1_Most.f k l) (most l 0) := by
  have := rmost_l0 l [] 0 (by simpa using h)
  exact Ev.congr (fun k => by rfl) this
/-- Made makes a right list. -/
theorem made_l0 (x0 : List Int) (h8 : ∀ x ∈ x0, (Lit.int .u8 x).wf = true) (hl : x0.length < 4611686018427387904) : ∀ (d : Nat) (l : List Rn) (at_ i : Int), (x0.length : Int) - i ≤ d → 0 ≤ i → i ≤ (x0.length : Int) + 1 → rt 256 (-1) l → (l = [] ∧ at_ = 0 ∨ l ≠ [] ∧ at_ = lastE (-1) l) →
    ∃ r, Ev (fun k => rickyardlaw5_Made.l0 k x0 l at_ i) r ∧ rt 256 (-1) r := by
  intro d
  induction d with
  | zero =>
    intro l at_ i hd h0 h1 hr ha
    refine ⟨l, Ev.step1 (fun k => ?_), hr⟩
    have e1 : wrap64 (i + 1) = i + 1 := w64 (by omega) (by omega)
    have p : ¬ (i + 1 < (x0.length : Int)) := by omega
    simp only [rickyardlaw5_Made.l0]
    rw [e1, if_neg p]
  | succ d ih =>
    intro l at_ i hd h0 h1 hr ha
    have e1 : wrap64 (i + 1) = i + 1 := w64 (by omega) (by omega)
    have e2 : wrap64 (i + 2) = i + 2 := w64 (by omega) (by omega)
    by_cases c : i + 1 < (x0.length : Int)
    · have hu := rd_u8 h8 i
      have hv := rd_u8 h8 (i + 1)
      obtain ⟨u, hu'⟩ : ∃ u, rd x0 i = u := ⟨_, rfl⟩
      obtain ⟨v, hv'⟩ : ∃ v, rd x0 (i + 1) = v := ⟨_, rfl⟩
      rw [hu'] at hu
      rw [hv'] at hv
      have hle := lastE_le hr (by omega)
      have hat : 0 ≤ at_ ∧ at_ ≤ 256 := by
        rcases ha with ⟨_, h⟩ | ⟨hne, h⟩
        · omega
        · cases l with
          | nil => exact absurd rfl hne
          | cons x l => have := (lastE_le hr.2.2.2 (by have := hr; exact this.2.2.1)); have h1 := hr.1; have h2 := hr.2.1; simp only [lastE] at h; omega
      have hlen : l.length < 8796093022208 := by
        rcases rt_len hr with rfl | h
        · simp
        · omega
      have p1 : i < (x0.length : Int) := by omega
      have p2 : 0 ≤ i + 1 := by omega
      have t1 : wrap64 u = u := w64 (by omega) (by omega)
      have t2 : wrap64 v = v := w64 (by omega) (by omega)
      have t3 : Int.tmod u 9 = u % 9 := tmod_emod (by omega)
      have t4 : Int.tmod v 20 = v % 20 := tmod_emod (by omega)
      have t5 : wrap64 (1 + v % 20) = 1 + v % 20 := w64 (by omega) (by omega)
      have t6 : wrap64 (at_ + u % 9) = at_ + u % 9 := w64 (by omega) (by omega)
      have t7 : wrap64 (at_ + u % 9 + 1) = at_ + u % 9 + 1 := w64 (by omega) (by omega)
      have t8 : wrap64 (256 - (at_ + u % 9)) = 256 - (at_ + u % 9) := w64 (by omega) (by omega)
      have t9 : wrap64 (256 - (at_ + u % 9 + 1)) = 256 - (at_ + u % 9 + 1) := w64 (by omega) (by omega)
      have t10 : wrap64 (at_ + u % 9 + (1 + v % 20)) = at_ + u % 9 + (1 + v % 20) := w64 (by omega) (by omega)
      have t11 : wrap64 (at_ + u % 9 + 1 + (1 + v % 20)) = at_ + u % 9 + 1 + (1 + v % 20) := w64 (by omega) (by omega)
      rcases ha with ⟨rfl, rfl⟩ | ⟨hne, ha⟩
      · by_cases q : 1 + v % 20 > 256 - (0 + u % 9)
        · refine ⟨[], Ev.step1 (fun k => ?_), trivial⟩
          simp only [rickyardlaw5_Made.l0]
          rw [e1, if_pos c, if_pos h0, if_pos p1, if_neg (by simp), if_pos p2, hu', hv', t1, t2, t3, t4, t5, t6, t8, if_pos q]
        · obtain ⟨r, hr1, hr2⟩ := ih ([] ++ [⟨0 + u % 9, 1 + v % 20⟩]) (0 + u % 9 + (1 + v % 20)) (i + 2) (by omega) (by omega) (by omega) (show rt 256 (-1) [⟨0 + u % 9, 1 + v % 20⟩] from ⟨by simp; omega, by simp; omega, by simp; omega, trivial⟩) (.inr ⟨by simp, rfl⟩)
          refine ⟨r, Ev.step (fun k => ?_) hr1, hr2⟩
          simp only [rickyardlaw5_Made.l0]
          rw [e1, if_pos c, if_pos h0, if_pos p1, if_neg (by simp), if_pos p2, hu', hv', t1, t2, t3, t4, t5, t6, t8, if_neg q, if_pos hlen, t10, e2]
      · have hpos : (l.length : Int) > 0 := by
          have := List.length_pos_iff.2 hne
          omega
        by_cases q : 1 + v % 20 > 256 - (at_ + u % 9 + 1)
        · refine ⟨l, Ev.step1 (fun k => ?_), hr⟩
          simp only [rickyardlaw5_Made.l0]
          rw [e1, if_pos c, if_pos h0, if_pos p1, if_pos hpos, if_pos p2, hu', hv', t1, t2, t3, t4, t5, t6, t7, t9, if_pos q]
        · obtain ⟨r, hr1, hr2⟩ := ih (l ++ [⟨at_ + u % 9 + 1, 1 + v % 20⟩]) (at_ + u % 9 + 1 + (1 + v % 20)) (i + 2) (by omega) (by omega) (by omega) (by
            rw [rt_append]
            refine ⟨hr, ?_, ?_, ?_, trivial⟩
            · rw [← ha]; simp; omega
            · simp; omega
            · simp; omega) (.inr ⟨by simp, by rw [lastE_append]; simp [lastE]⟩)
          refine ⟨r, Ev.step (fun k => ?_) hr1, hr2⟩
          simp only [rickyardlaw5_Made.l0]
          rw [e1, if_pos c, if_pos h0, if_pos p1, if_pos hpos, if_pos p2, hu', hv', t1, t2, t3, t4, t5, t6, t7, t9, if_neg q, if_pos hlen, t11, e2]
    · refine ⟨l, Ev.step1 (fun k => ?_), hr⟩
      simp only [rickyardlaw5_Made.l0]
      rw [e1, if_neg c]
theorem made_ev {x0 : List Int} (h8 : ∀ x ∈ x0, (Lit.int .u8 x).wf = true) (hl : x0.length * 1 ≤ 140737488351232) : ∃ r, Ev (fun k => rickyardlaw5_Made.f k x0) r ∧ rt 256 (-1) r := by
  obtain ⟨r, h1, h2⟩ := made_l0 x0 h8 (by omega) (x0.length + 1) [] 0 0 (by omega) (by omega) (by omega) trivial (.inl ⟨rfl, rfl⟩)
  exact ⟨r, Ev.congr (fun k => by rfl) h1, h2⟩
/-- A run lies within so many pages. -/
def okB (p : Int) (x : Rn) : Bool := decide (1 ≤ x.f1 ∧ 0 ≤ x.f0 ∧ x.f0 ≤ p ∧ x.f1 ≤ wrap64 (p - x.f0))
/-- A list is right, behind a run or at its start. -/
def rb (p : Int) : Option Rn → List Rn → Bool
  | _, [] => true
  | none, x :: l => okB p x && rb p (some x) l
  | some y, x :: l => okB p x && (!decide (x.f0 ≤ wrap64 (y.f0 + y.f1)) && rb p (some x) l)
theorem idx_prev (q : List Rn) (y : Rn) (h : (q ++ [y]).length < 9223372036854775807) : wrap64 (((q ++ [y]).length : Int) - 1) = (q.length : Int) := by
  simp at h
  rw [w64 (by simp <;> omega) (by simp <;> omega)]
  simp
theorem rd_prev (q suf : List Rn) (y : Rn) : rd_T61 (q ++ [y] ++ suf) (q.length : Int) = y := by
  rw [List.append_assoc]
  exact rd_mid q y suf
theorem last_snoc (q : List Rn) (y : Rn) : (q ++ [y]).getLast? = some y := by simp
theorem rright_bad (pre suf : List Rn) (x : Rn) (p : Int) (k : Nat) :
    rickyardref1_RightRuns.l0 (k + 1) (pre ++ x :: suf) p (pre.length : Int) = rickyardref1_RightRuns.j2 k (pre ++ x :: suf) p (pre.length : Int) (!okB p x) := by
  simp only [rickyardref1_RightRuns.l0]
  rw [if_pos (mid_lt pre x suf), if_pos (nn _), rd_mid]
  unfold okB
  by_cases c1 : x.f1 < 1
  · rw [if_pos c1, decide_eq_false (fun h => by omega)]; rfl
  · rw [if_neg c1]
    by_cases c2 : x.f0 < 0
    · rw [if_pos c2, decide_eq_false (fun h => by omega)]; rfl
    · rw [if_neg c2]
      by_cases c3 : x.f0 > p
      · rw [if_pos c3, decide_eq_false (fun h => by omega)]; rfl
      · rw [if_neg c3]
        by_cases c4 : x.f1 > wrap64 (p - x.f0)
        · rw [decide_eq_true c4, decide_eq_false (fun h => absurd h.2.2.2 (by omega))]; rfl
        · rw [decide_eq_false c4, decide_eq_true ⟨by omega, by omega, by omega, by omega⟩]; rfl
theorem rright_first (suf : List Rn) (x : Rn) (p : Int) (k : Nat) :
    rickyardref1_RightRuns.j2 (k + 1) ([] ++ x :: suf) p (([] : List Rn).length : Int) false = rickyardref1_RightRuns.l0 k ([] ++ x :: suf) p ((([] : List Rn) ++ [x]).length : Int) := by
  simp only [rickyardref1_RightRuns.j2]
  rw [if_neg (by simp), if_neg (by simp), nxt [] x (by simp)]
theorem rright_next (q suf : List Rn) (y x : Rn) (p : Int) (hl : (q ++ [y]).length < 9223372036854775807) (k : Nat) :
    rickyardref1_RightRuns.j2 (k + 1) (q ++ [y] ++ x :: suf) p ((q ++ [y]).length : Int) false = if x.f0 ≤ wrap64 (y.f0 + y.f1) then some false else rickyardref1_RightRuns.l0 k (q ++ [y] ++ x :: suf) p ((q ++ [y] ++ [x]).length : Int) := by
  have c1 : ((q ++ [y]).length : Int) > 0 := by simp <;> omega
  have c2 : (q.length : Int) < ((q ++ [y] ++ x :: suf).length : Int) := by simp <;> omega
  have e1 := idx_prev q y hl
  have e2 := rd_prev q (x :: suf) y
  have e3 := nxt (q ++ [y]) x hl
  simp only [rickyardref1_RightRuns.j2]
  rw [if_neg (by simp), if_pos c1, if_pos (nn _), if_pos (mid_lt (q ++ [y]) x suf), e1, if_pos (nn _), if_pos c2, rd_mid, e2, e3]
theorem rright_l0 (p : Int) (suf : List Rn) : ∀ pre : List Rn, (pre ++ suf).length ≤ 1000 → Ev (fun k => rickyardref1_RightRuns.l0 k (pre ++ suf) p (pre.length : Int)) (rb p pre.getLast? suf) := by
  induction suf with
  | nil =>
    intro pre h
    refine Ev.eq (r := true) (Ev.step1 (fun k => ?_)) (by unfold rb; rfl)
    simp only [rickyardref1_RightRuns.l0]
    rw [if_neg (end_nlt pre)]
  | cons x suf ih =>
    intro pre h
    have := ih (pre ++ [x]) (by simpa using h)
    rw [← snoc, last_snoc] at this
    refine Ev.step (fun k => rright_bad pre suf x p k) ?_
    by_cases c : okB p x = true
    · rw [c]
      rcases List.eq_nil_or_concat pre with rfl | ⟨q, y, rfl⟩
      · exact Ev.eq (Ev.step (fun k => rright_first suf x p k) this) (by simp [rb, c])
      · simp only [List.concat_eq_append] at h this ⊢
        have hl : (q ++ [y]).length < 9223372036854775807 := by simp at h ⊢; omega
        rw [last_snoc]
        by_cases d : x.f0 ≤ wrap64 (y.f0 + y.f1)
        · refine Ev.eq (r := false) (Ev.step1 (fun k => ?_)) (by simp [rb, d])
          exact (rright_next q suf y x p hl k).trans (by rw [if_pos d])
        · refine Ev.eq (Ev.step (fun k => ?_) this) (by simp [rb, c, d])
          exact (rright_next q suf y x p hl k).trans (by rw [if_neg d])
    · have c' : okB p x = false := by simpa using c
      rw [c']
      refine Ev.eq (r := false) (Ev.step1 (fun k => ?_)) ?_
      · simp only [rickyardref1_RightRuns.j2]
        rw [if_pos (by rfl)]
      · cases pre.getLast? <;> simp [rb, c']
def rF (l : List Rn) (p : Int) : Bool := if 0 ≤ p ∧ p ≤ 256 then rb p none l else false
theorem rright_ev (l : List Rn) (p : Int) (h : l.length ≤ 1000) : Ev (fun k => rickyardref1_RightRuns.f k l p) (rF l p) := by
  obtain ⟨K, h1⟩ := rright_l0 p l [] (by simpa using h)
  refine ⟨K + 1, fun k hk => ?_⟩
  obtain ⟨k, rfl⟩ : ∃ j, k = j + 1 := ⟨k - 1, by omega⟩
  have h1 := h1 k (by omega)
  unfold rF
  simp only [rickyardref1_RightRuns.f, rickyardref1_RightRuns.j0]
  by_cases c : p < 0
  · rw [if_pos c, if_pos trivial, if_neg (by omega)]
  · rw [if_neg c]
    by_cases d : p > 256
    · rw [decide_eq_true d, if_pos rfl, if_neg (by omega)]
    · rw [decide_eq_false d, if_neg (by simp), if_pos (by omega)]
      simpa using h1
theorem ok_256 {x : Rn} (h : okB 256 x = true) : 1 ≤ x.f1 ∧ 0 ≤ x.f0 ∧ x.f0 + x.f1 ≤ 256 := by
  unfold okB at h
  obtain ⟨h1, h2, h3, h4⟩ := of_decide_eq_true h
  rw [w64 (by omega) (by omega)] at h4
  omega
theorem rb_rt (l : List Rn) : ∀ y : Rn, 1 ≤ y.f1 ∧ 0 ≤ y.f0 ∧ y.f0 + y.f1 ≤ 256 → rb 256 (some y) l = true → rt 256 (y.f0 + y.f1) l := by
  induction l with
  | nil => intro _ _ _; trivial
  | cons x l ih =>
    intro y hy h
    simp only [rb, Bool.and_eq_true, Bool.not_eq_true', decide_eq_false_iff_not] at h
    obtain ⟨h1, h2, h3⟩ := h
    have hx := ok_256 h1
    rw [w64 (by omega) (by omega)] at h2
    exact ⟨by omega, hx.1, hx.2.2, ih x hx h3⟩
theorem rF_rt {l : List Rn} (h : rF l 256 = true) : rt 256 (-1) l := by
  unfold rF at h
  rw [if_pos (by omega)] at h
  cases l with
  | nil => trivial
  | cons x l =>
    simp only [rb, Bool.and_eq_true] at h
    have hx := ok_256 h.1
    exact ⟨by omega, hx.1, hx.2.2, rb_rt l x hx h.2⟩
end Go.Proofs.Ytojijdfgflcnjaa.Pure
