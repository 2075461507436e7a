/- Runs: contracts that read, in one form. No statement is proved here. -/
import Derived.Test.YthbknmblehecaaaRunsWalk1
namespace Go.Proofs.Ythbknmblehecaaa
set_option linter.unusedVariables false
set_option linter.unusedSimpArgs false
open Go.RowKit Go.Proofs.YthbknmblehecaaaW.PrintWords Go.Proofs.YthbknmblehecaaaW.PrintLast Go.Proofs.YthbknmblehecaaaW.PrintMore Pr Go.Proofs.Ythbknmblehecaaa.Pure

/-- A value is a row of runs that reads so. -/
def Rd (W : World) (v : Value) (l : List Rn) : Prop := ∃ A c, v = .slice A l.length c ∧ l.length ≤ c ∧ Kd.C k32 W A l.length l
theorem Rd.ofR {W : World} {base : Nat} {ok : Nat → Prop} {v : Value} {l : List Rn} (h : Kd.R k32 32 W base ok v l) : Rd W v l := by
  obtain ⟨A, c, e⟩ := Kd.R_slice h
  subst e
  exact ⟨A, c, rfl, (Kd.R_reads' h).2.1, (Kd.R_reads' h).2.2⟩
section
variable {v : Value} {l : List Rn} {w : World}
theorem take_any (hr : rt 256 (-1) l) (h : Rd w v l) (n : Int) : Calls Try.prog 15 #[v, .int .i64 n] w fun e w' => ∃ u, e = .returned (.tuple #[u, .int .i64 (takeA l n).2.1, .int .i64 (takeA l n).2.2]) ∧ Rd w' u (takeA l n).1 ∧ Below w.heap.size w w' := by
  obtain ⟨A, c, rfl, h2, h3⟩ := h
  exact (runs_Take.calls A c l n _ _ _ w h3 h2 (take_all hr (rt_small hr) n)).mono (fun e w' ⟨u, h4, h5, h6⟩ => ⟨u, h4, Rd.ofR h5, h6⟩)
theorem rtake_any (hr : rt 256 (-1) l) (h : Rd w v l) (n : Int) : Calls Try.prog 22 #[v, .int .i64 n] w fun e w' => ∃ u, e = .returned (.tuple #[u, .int .i64 (takeA l n).2.1, .int .i64 (takeA l n).2.2]) ∧ Rd w' u (takeA l n).1 ∧ Below w.heap.size w w' := by
  obtain ⟨A, c, rfl, h2, h3⟩ := h
  obtain ⟨k, hk⟩ := (rtake_ev hr n).rounds
  exact (rickyardref1_TakeRun.calls k A c l n _ _ _ w h3 h2 hk).mono (fun e w' ⟨u, h4, h5, h6⟩ => ⟨u, h4, Rd.ofR h5, h6⟩)
theorem put_any (hr : rt 256 (-1) l) (h : Rd w v l) (a b : Int) : Calls Try.prog 18 #[v, .agg #[.int .i64 a, .int .i64 b]] w fun e w' => ∃ u, e = .returned (.tuple #[u, .int .i64 (putA l a b).2]) ∧ Rd w' u (putA l a b).1 ∧ Below w.heap.size w w' := by
  obtain ⟨A, c, rfl, h2, h3⟩ := h
  obtain ⟨k, hk⟩ := (putA_evs hr a b).1.rounds
  exact (runs_Put.calls k A c l a b _ _ w h3 h2 hk).mono (fun e w' ⟨u, h4, h5, h6⟩ => ⟨u, h4, Rd.ofR h5, h6⟩)
theorem rput_any (hr : rt 256 (-1) l) (h : Rd w v l) (a b : Int) : Calls Try.prog 23 #[v, .agg #[.int .i64 a, .int .i64 b]] w fun e w' => ∃ u, e = .returned (.tuple #[u, .int .i64 (putA l a b).2]) ∧ Rd w' u (putA l a b).1 ∧ Below w.heap.size w w' := by
  obtain ⟨A, c, rfl, h2, h3⟩ := h
  obtain ⟨k, hk⟩ := (putA_evs hr a b).2.1.rounds
  exact (rickyardref1_PutRun.calls k A c l a b _ _ w h3 h2 hk).mono (fun e w' ⟨u, h4, h5, h6⟩ => ⟨u, h4, Rd.ofR h5, h6⟩)
theorem sameruns_any (hr : rt 256 (-1) l) (h : Rd w v l) {u : Value} (h' : Rd w u l) : Calls Try.prog 17 #[v, u] w fun e w' => e = .returned (.bool true) ∧ Below w.heap.size w w' := by
  obtain ⟨A, c, rfl, h2, h3⟩ := h
  obtain ⟨A', c', rfl, h2', h3'⟩ := h'
  obtain ⟨k, hk⟩ := (same_ev l l (by have := rt_small hr; omega)).rounds
  exact (rickyardref1_SameRuns.calls k A c l A' c' l true w h3 h2 h3' h2' (by rw [hk]; simp)).mono (fun e w' ⟨h4, h5⟩ => ⟨h4, h5.below⟩)
theorem right_any (hr : rt 256 (-1) l) (h : Rd w v l) : Calls Try.prog 24 #[v, .int .i64 256] w fun e w' => e = .returned (.bool true) ∧ Below w.heap.size w w' := by
  obtain ⟨A, c, rfl, h2, h3⟩ := h
  obtain ⟨k, hk⟩ := (right_ev l 256 (rt_small hr)).rounds
  rw [rt_rF hr] at hk
  exact runs_Right.calls k A c l 256 true w h3 h2 hk
end
theorem awake_any (w : World) : Calls Try.prog 16 #[] w fun e w' => e = .returned (.bool true) ∧ Below w.heap.size w w' := by
  obtain ⟨k, hk⟩ := awake5_ev.rounds
  exact rickyardlaw5_awake.calls k true w hk
end Go.Proofs.Ythbknmblehecaaa
