/- RunsBack: whatever numbers the runs are made of, the answer is true: the plain statement. No memory and no program in it. -/
import Derived.Test.YthbknmblehecaaaRunsLaw3
import Derived.Test.YthbknmblehecaaaPrx9
namespace Go.Proofs.Ythbknmblehecaaa.Pure
set_option linter.unusedVariables false
set_option linter.unusedSimpArgs false
open Go.RowKit Go.Proofs.Ythbknmblehecaaa.Pr Go.Proofs.YthbknmblehecaaaW.PrintWords Go.Proofs.YthbknmblehecaaaW.PrintLast Go.Proofs.YthbknmblehecaaaW.PrintMore

theorem take_is' {l : List Rn} {n : Int} (hr : rt 256 (-1) l) (hn : 1 ≤ n) : runs_Take.f l n = some (if fits n l = true then (tk n l, tat n l, 0) else ([], 0, 3)) := by
  have hl : l.length ≤ 1000 := by
    rcases rt_len hr with rfl | h
    · simp
    · omega
  by_cases c : fits n l = true
  · rw [if_pos c]; exact take_some hr (by omega) (by omega) hl hn c
  · rw [if_neg c]; exact take_none hl hn (by simpa using c)
theorem RunsBack : rickyardlaw5_RunsBack.Pure := by
  intro l0 a1 hm hl h8 w1
  obtain ⟨r, h1, hr⟩ := made_ev h8 hl
  have hu := u8_of w1
  have hlen : r.length < 9223372036854775807 := by
    rcases rt_len hr with rfl | h
    · simp
    · omega
  have e1 : wrap64 a1 = a1 := w64 (by omega) (by omega)
  have e2 : Int.tmod a1 24 = a1 % 24 := tmod_emod (by omega)
  have e3 : wrap64 (1 + a1 % 24) = 1 + a1 % 24 := w64 (by omega) (by omega)
  obtain ⟨n, hn⟩ : ∃ n, 1 + a1 % 24 = n := ⟨_, rfl⟩
  rw [hn] at e3
  have hn1 : 1 ≤ n ∧ n ≤ 24 := by omega
  have t1 := take_is' hr (n := n) (by omega)
  obtain ⟨K1, h1⟩ := h1
  obtain ⟨K4, h4⟩ := awake5_ev
  by_cases c : fits n r = true
  · rw [if_pos c] at t1
    have ht := tat_range hr c (by omega)
    have hk := tk_rt (n := n) (by omega) hr
    have hrange := tot_le hr (by omega)
    have q1 := put_ev hk (by omega) (a := tat n r) (b := n) (by omega) (by omega) (by omega)
    have q1' : putR (tk n r) (tat n r) n = (r, 0) := by unfold putR; rw [pt_tk (by omega) hr c]
    rw [q1'] at q1
    have q2 := put_ev hr (by omega) (a := tat n r + n - 1) (b := 1) (by omega) (by omega) (by omega)
    have q2' : putR r (tat n r + n - 1) 1 = ([], 4) := by
      unfold putR
      rw [pt_has (by omega) hr (q := tat n r + n - 1) (by omega) (by omega) ((tk_pg (by omega) hr c _).2 (by omega))]
    rw [q2'] at q2
    have e4 : wrap64 (tat n r + n) = tat n r + n := w64 (by omega) (by omega)
    have e5 : wrap64 (tat n r + n - 1) = tat n r + n - 1 := w64 (by omega) (by omega)
    have e6 : wrap64 (tot r - n) = tot r - n := w64 (by omega) (by omega)
    have e7 := tot_tk (n := n) c
    obtain ⟨K2, h2⟩ := q1
    obtain ⟨K3, h3⟩ := q2
    obtain ⟨K5, h5⟩ := same_ev r r hlen
    obtain ⟨K6, h6⟩ := total_ev hk
    obtain ⟨K7, h7⟩ := total_ev hr
    refine ⟨K1 + K2 + K3 + K4 + K5 + K6 + K7, ?_⟩
    have h1 := h1 (K1 + K2 + K3 + K4 + K5 + K6 + K7) (by omega)
    have h2 := h2 (K1 + K2 + K3 + K4 + K5 + K6 + K7) (by omega)
    have h3 := h3 (K1 + K2 + K3 + K4 + K5 + K6 + K7) (by omega)
    have h4 := h4 (K1 + K2 + K3 + K4 + K5 + K6 + K7) (by omega)
    have h5 := h5 (K1 + K2 + K3 + K4 + K5 + K6 + K7) (by omega)
    have h6 := h6 (K1 + K2 + K3 + K4 + K5 + K6 + K7) (by omega)
    have h7 := h7 (K1 + K2 + K3 + K4 + K5 + K6 + K7) (by omega)
    generalize K1 + K2 + K3 + K4 + K5 + K6 + K7 = k at h1 h2 h3 h4 h5 h6 h7
    (try dsimp only at h1 h2 h3 h4 h5 h6 h7)
    simp only [rickyardlaw5_RunsBack.f, e1, e2, hn, e3, h1, t1, Option.bind_some]
    rw [if_neg (by decide), h2]
    simp only [Option.bind_some]
    rw [e4, e5, h3]
    simp only [Option.bind_some, if_true]
    rw [h5]
    simp only [Option.bind_some, decide_true, if_true]
    rw [h6, h7]
    simp only [Option.bind_some]
    rw [e6, e7, if_pos rfl, h4]
    rfl
  · rw [if_neg c] at t1
    obtain ⟨K2, h2⟩ := most_ev r hlen
    refine ⟨K1 + K2 + K4, ?_⟩
    have h1 := h1 (K1 + K2 + K4) (by omega)
    have h2 := h2 (K1 + K2 + K4) (by omega)
    have h4 := h4 (K1 + K2 + K4) (by omega)
    generalize K1 + K2 + K4 = k at h1 h2 h4
    (try dsimp only at h1 h2 h4)
    have hm : most r 0 < n := by
      have := fits_most (n := n) (by omega) r
      rw [Bool.not_eq_true] at c
      rw [c] at this
      have := decide_eq_false_iff_not.1 this.symm
      omega
    simp only [rickyardlaw5_RunsBack.f, e1, e2, hn, e3, h1, t1, Option.bind_some, if_true]
    rw [h2]
    simp only [Option.bind_some]
    rw [if_pos hm, if_pos (by simp), h4]
    rfl
end Go.Proofs.Ythbknmblehecaaa.Pure
