/- What the printed functions on runs answer: Has, Made, the examples. No statement is proved here. -/
import Derived.Test.YthbknmblehecaaaRunsLaw2
import Derived.Test.YthbknmblehecaaaPrx8
import Derived.Test.YthbknmblehecaaaPrx3
import Derived.Test.YthbknmblehecaaaPrx5
namespace Go.Proofs.Ythbknmblehecaaa.Pure
set_option linter.unusedVariables false
set_option linter.unusedSimpArgs false
open Go.RowKit Go.Proofs.Ythbknmblehecaaa.Pr Go.Proofs.YthbknmblehecaaaW.PrintWords Go.Proofs.YthbknmblehecaaaW.PrintLast Go.Proofs.YthbknmblehecaaaW.PrintMore

instance (l : List Rn) (q : Int) : Decidable (pg l q) := inferInstanceAs (Decidable (∃ x ∈ l, x.f0 ≤ q ∧ q < x.f0 + x.f1))
theorem has_is {l : List Rn} {e q : Int} (hr : rt 256 e l) (he : -1 ≤ e) : runs_Has.f l q = some (decide (pg l q)) := by
  have hl : l.length ≤ 17592186044416 := by
    rcases rt_len hr with rfl | h
    · simp
    · omega
  simp only [runs_Has.f]
  rw [if_pos hl]
  have : l.any (inRun q) = decide (pg l q) := by
    rw [Bool.eq_iff_iff, List.any_eq_true, decide_eq_true_eq]
    constructor
    · rintro ⟨x, hx, h⟩
      have hm := rt_mem hr hx
      simp only [inRun, decide_eq_true_eq] at h
      rw [w64 (by omega) (by omega)] at h
      exact ⟨x, hx, h⟩
    · rintro ⟨x, hx, h⟩
      have hm := rt_mem hr hx
      refine ⟨x, hx, ?_⟩
      simp only [inRun, decide_eq_true_eq]
      rw [w64 (by omega) (by omega)]
      exact h
  rw [this]
/-- Made makes a right list. -/
theorem made_l0 (x0 : List Int) (h8 : ∀ x ∈ x0, (Lit.int .u8 x).wf = true) (hl : x0.length < 4611686018427387904) : ∀ (d : Nat) (l : List Rn) (at_ i : Int), (x0.length : Int) - i ≤ d → 0 ≤ i → i ≤ (x0.length : Int) + 1 → rt 256 (-1) l → (l = [] ∧ at_ = 0 ∨ l ≠ [] ∧ at_ = lastE (-1) l) →
    ∃ r, Ev (fun k => rickyardlaw5_Made.l0 k x0 l at_ i) r ∧ rt 256 (-1) r := by
  intro d
  induction d with
  | zero =>
    intro l at_ i hd h0 h1 hr ha
    refine ⟨l, Ev.step1 (fun k => ?_), hr⟩
    have e1 : wrap64 (i + 1) = i + 1 := w64 (by omega) (by omega)
    have p : ¬ (i + 1 < (x0.length : Int)) := by omega
    simp only [rickyardlaw5_Made.l0]
    rw [e1, if_neg p]
  | succ d ih =>
    intro l at_ i hd h0 h1 hr ha
    have e1 : wrap64 (i + 1) = i + 1 := w64 (by omega) (by omega)
    have e2 : wrap64 (i + 2) = i + 2 := w64 (by omega) (by omega)
    by_cases c : i + 1 < (x0.length : Int)
    · have hu := rd_u8 h8 i
      have hv := rd_u8 h8 (i + 1)
      obtain ⟨u, hu'⟩ : ∃ u, rd x0 i = u := ⟨_, rfl⟩
      obtain ⟨v, hv'⟩ : ∃ v, rd x0 (i + 1) = v := ⟨_, rfl⟩
      rw [hu'] at hu
      rw [hv'] at hv
      have hle := lastE_le hr (by omega)
      have hat : 0 ≤ at_ ∧ at_ ≤ 256 := by
        rcases ha with ⟨_, h⟩ | ⟨hne, h⟩
        · omega
        · cases l with
          | nil => exact absurd rfl hne
          | cons x l => have := (lastE_le hr.2.2.2 (by have := hr; exact this.2.2.1)); have h1 := hr.1; have h2 := hr.2.1; simp only [lastE] at h; omega
      have hlen : l.length < 8796093022208 := by
        rcases rt_len hr with rfl | h
        · simp
        · omega
      have p1 : i < (x0.length : Int) := by omega
      have p2 : 0 ≤ i + 1 := by omega
      have t1 : wrap64 u = u := w64 (by omega) (by omega)
      have t2 : wrap64 v = v := w64 (by omega) (by omega)
      have t3 : Int.tmod u 9 = u % 9 := tmod_emod (by omega)
      have t4 : Int.tmod v 20 = v % 20 := tmod_emod (by omega)
      have t5 : wrap64 (1 + v % 20) = 1 + v % 20 := w64 (by omega) (by omega)
      have t6 : wrap64 (at_ + u % 9) = at_ + u % 9 := w64 (by omega) (by omega)
      have t7 : wrap64 (at_ + u % 9 + 1) = at_ + u % 9 + 1 := w64 (by omega) (by omega)
      have t8 : wrap64 (256 - (at_ + u % 9)) = 256 - (at_ + u % 9) := w64 (by omega) (by omega)
      have t9 : wrap64 (256 - (at_ + u % 9 + 1)) = 256 - (at_ + u % 9 + 1) := w64 (by omega) (by omega)
      have t10 : wrap64 (at_ + u % 9 + (1 + v % 20)) = at_ + u % 9 + (1 + v % 20) := w64 (by omega) (by omega)
      have t11 : wrap64 (at_ + u % 9 + 1 + (1 + v % 20)) = at_ + u % 9 + 1 + (1 + v % 20) := w64 (by omega) (by omega)
      rcases ha with ⟨rfl, rfl⟩ | ⟨hne, ha⟩
      · by_cases q : 1 + v % 20 > 256 - (0 + u % 9)
        · refine ⟨[], Ev.step1 (fun k => ?_), trivial⟩
          simp only [rickyardlaw5_Made.l0]
          rw [e1, if_pos c, if_pos h0, if_pos p1, if_neg (by simp), if_pos p2, hu', hv', t1, t2, t3, t4, t5, t6, t8, if_pos q]
        · obtain ⟨r, hr1, hr2⟩ := ih ([] ++ [⟨0 + u % 9, 1 + v % 20⟩]) (0 + u % 9 + (1 + v % 20)) (i + 2) (by omega) (by omega) (by omega) (show rt 256 (-1) [⟨0 + u % 9, 1 + v % 20⟩] from ⟨by simp; omega, by simp; omega, by simp; omega, trivial⟩) (.inr ⟨by simp, rfl⟩)
          refine ⟨r, Ev.step (fun k => ?_) hr1, hr2⟩
          simp only [rickyardlaw5_Made.l0]
          rw [e1, if_pos c, if_pos h0, if_pos p1, if_neg (by simp), if_pos p2, hu', hv', t1, t2, t3, t4, t5, t6, t8, if_neg q, if_pos hlen, t10, e2]
      · have hpos : (l.length : Int) > 0 := by
          have := List.length_pos_iff.2 hne
          omega
        by_cases q : 1 + v % 20 > 256 - (at_ + u % 9 + 1)
        · refine ⟨l, Ev.step1 (fun k => ?_), hr⟩
          simp only [rickyardlaw5_Made.l0]
          rw [e1, if_pos c, if_pos h0, if_pos p1, if_pos hpos, if_pos p2, hu', hv', t1, t2, t3, t4, t5, t6, t7, t9, if_pos q]
        · obtain ⟨r, hr1, hr2⟩ := ih (l ++ [⟨at_ + u % 9 + 1, 1 + v % 20⟩]) (at_ + u % 9 + 1 + (1 + v % 20)) (i + 2) (by omega) (by omega) (by omega) (by
            rw [rt_append]
            refine ⟨hr, ?_, ?_, ?_, trivial⟩
            · rw [← ha]; simp; omega
            · simp; omega
            · simp; omega) (.inr ⟨by simp, by rw [lastE_append]; simp [lastE]⟩)
          refine ⟨r, Ev.step (fun k => ?_) hr1, hr2⟩
          simp only [rickyardlaw5_Made.l0]
          rw [e1, if_pos c, if_pos h0, if_pos p1, if_pos hpos, if_pos p2, hu', hv', t1, t2, t3, t4, t5, t6, t7, t9, if_neg q, if_pos hlen, t11, e2]
    · refine ⟨l, Ev.step1 (fun k => ?_), hr⟩
      simp only [rickyardlaw5_Made.l0]
      rw [e1, if_neg c]
theorem made_ev {x0 : List Int} (h8 : ∀ x ∈ x0, (Lit.int .u8 x).wf = true) (hl : x0.length * 1 ≤ 140737488351232) : ∃ r, Ev (fun k => rickyardlaw5_Made.f k x0) r ∧ rt 256 (-1) r := by
  obtain ⟨r, h1, h2⟩ := made_l0 x0 h8 (by omega) (x0.length + 1) [] 0 0 (by omega) (by omega) (by omega) trivial (.inl ⟨rfl, rfl⟩)
  exact ⟨r, Ev.congr (fun k => by rfl) h1, h2⟩
/-- The document's examples. -/
theorem awake5_ev : Ev (fun k => rickyardlaw5_awake.f k) true := by
  have h1 := take_some (p := 256) (e := -1) (l := [⟨0, 4⟩, ⟨8, 2⟩]) (n := 2) (by simp [rt]) (by omega) (by omega) (by simp) (by omega) rfl
  have h2 := put_ev (l := [⟨2, 2⟩, ⟨8, 2⟩]) (e := -1) (a := 4) (b := 4) (by simp [rt]) (by omega) (by omega) (by omega) (by omega)
  have h3 := same_ev [⟨2, 2⟩, ⟨8, 2⟩] [⟨2, 2⟩, ⟨8, 2⟩] (by simp)
  have h4 := same_ev [⟨2, 8⟩] [⟨2, 8⟩] (by simp)
  have h5 := total_ev (l := [⟨2, 8⟩]) (by simp [rt])
  have e2 : putR [⟨2, 2⟩, ⟨8, 2⟩] 4 4 = ([⟨2, 8⟩], 0) := by decide
  have e3 : tk 2 [⟨0, 4⟩, ⟨8, 2⟩] = [⟨2, 2⟩, ⟨8, 2⟩] := by decide
  have e4 : tat 2 [⟨0, 4⟩, ⟨8, 2⟩] = 0 := by decide
  rw [e2] at h2
  rw [e3, e4] at h1
  have e5 : tot [⟨2, 8⟩] = 8 := by decide
  rw [e5] at h5
  simp only [decide_true] at h3 h4
  obtain ⟨K2, h2⟩ := h2
  obtain ⟨K3, h3⟩ := h3
  obtain ⟨K4, h4⟩ := h4
  obtain ⟨K5, h5⟩ := h5
  obtain ⟨k, hk⟩ : ∃ k, k = K2 + K3 + K4 + K5 := ⟨_, rfl⟩
  have h2 := h2 k (by omega)
  have h3 := h3 k (by omega)
  have h4 := h4 k (by omega)
  have h5 := h5 k (by omega)
  refine Ev.of (fun k => rickyardlaw5_awake.mono k) (k := k) ?_
  simp only [rickyardlaw5_awake.f, h1, h2, h3, h4, h5, Option.bind_some, if_true]
  rfl
end Go.Proofs.Ythbknmblehecaaa.Pure
