/- RunsOwn: whatever numbers the runs are made of, the answer is true: the plain statement. No memory and no program in it. -/
import Derived.Test.YthbknmblehecaaaRunsLaw3
import Derived.Test.YthbknmblehecaaaPrx7
namespace Go.Proofs.Ythbknmblehecaaa.Pure
set_option linter.unusedVariables false
set_option linter.unusedSimpArgs false
open Go.RowKit Go.Proofs.Ythbknmblehecaaa.Pr Go.Proofs.YthbknmblehecaaaW.PrintWords Go.Proofs.YthbknmblehecaaaW.PrintLast Go.Proofs.YthbknmblehecaaaW.PrintMore

theorem mn_le (a b : Int) : mn a b ≤ b := by unfold mn; split <;> omega
theorem take_is {l : List Rn} {n : Int} (hr : rt 256 (-1) l) (hn : 1 ≤ n) : runs_Take.f l n = some (if fits n l = true then (tk n l, tat n l, 0) else ([], 0, 3)) := by
  have hl : l.length ≤ 1000 := by
    rcases rt_len hr with rfl | h
    · simp
    · omega
  by_cases c : fits n l = true
  · rw [if_pos c]; exact take_some hr (by omega) (by omega) hl hn c
  · rw [if_neg c]; exact take_none hl hn (by simpa using c)
theorem RunsOwn : rickyardlaw5_RunsOwn.Pure := by
  intro l0 a1 a2 hm hl h8 w1 w2
  obtain ⟨r, h1, hr⟩ := made_ev h8 hl
  have hu := u8_of w1
  have hlen : r.length < 9223372036854775807 := by
    rcases rt_len hr with rfl | h
    · simp
    · omega
  have e1 : wrap64 a1 = a1 := w64 (by omega) (by omega)
  have e2 : Int.tmod a1 9 = a1 % 9 := tmod_emod (by omega)
  have e3 : wrap64 (1 + a1 % 9) = 1 + a1 % 9 := w64 (by omega) (by omega)
  have t1 := take_is hr (n := 1 + a1 % 9) (by omega)
  have t2 := take_low r (n := mn a2 0) (by have := mn_le a2 0; omega)
  have p2 := fun k => put_arg k r a1 (mn a2 0) (by have := mn_le a2 0; omega)
  have p3 := fun k => put_arg k r (mn a2 (-1)) 1 (by have := mn_le a2 (-1); omega)
  obtain ⟨K1, h1⟩ := h1
  obtain ⟨K2, h2⟩ := put_ev hr (by omega) (a := a1) (b := 1) (by omega) (by omega) (by omega)
  obtain ⟨K3, h3⟩ := same_ev r r hlen
  obtain ⟨K4, h4⟩ := awake5_ev
  refine ⟨K1 + K2 + K3 + K4, ?_⟩
  have h1 := h1 (K1 + K2 + K3 + K4) (by omega)
  have h2 := h2 (K1 + K2 + K3 + K4) (by omega)
  have h3 := h3 (K1 + K2 + K3 + K4) (by omega)
  have h4 := h4 (K1 + K2 + K3 + K4) (by omega)
  have p2 := p2 (K1 + K2 + K3 + K4)
  have p3 := p3 (K1 + K2 + K3 + K4)
  generalize K1 + K2 + K3 + K4 = k at h1 h2 h3 h4 p2 p3
  simp only [rickyardlaw5_RunsOwn.f, e1, e2, e3, h1, h2, h3, h4, t1, t2, p2, p3, Option.bind_some, decide_true, if_true, List.length_nil]
  rfl
end Go.Proofs.Ythbknmblehecaaa.Pure
