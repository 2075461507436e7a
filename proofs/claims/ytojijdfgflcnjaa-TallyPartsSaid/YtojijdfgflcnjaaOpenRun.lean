/- A slice of runs, and a run, that come in: what the memory holds. No statement is proved here. -/
import Derived.Test.YtojijdfgflcnjaaPrx0
import Derived.Deep.SlicePairs
import Derived.Lib.SmallJoins
namespace Go.Proofs.Ytojijdfgflcnjaa
open Go.ChangeShapes Go.WideShapes Go.RowKit Go.Deep Go.Joins Go.Proofs.Ytojijdfgflcnjaa.Pr Go.Proofs.YtojijdfgflcnjaaW.PrintWords Go.Proofs.YtojijdfgflcnjaaW.PrintLast
set_option linter.unusedVariables false
theorem opened_run {H : Type} {enc : TypeId × Value → H} {W : World} {base : Nat} {sp : Nat → Bool} {held : Bool} {a : Option Addr} {len cap : Nat} {d : DataW H} {ps : List MemPlace}
    (h : DataW.Trod enc Try.prog W base sp held 43 (.slice a len cap) d ps) :
    ∃ l : List S61, Kd.C k61 W a l.length l ∧ l.length = len ∧ l.length ≤ cap ∧ l.length ≤ maxLen ∧ ∀ x ∈ l, (Lit.int .i64 x.f0).wf = true ∧ (Lit.int .i64 x.f1).wf = true := by
  obtain ⟨fuel, hf⟩ := h
  rcases open_slice_pairs Try.underlying43 Try.underlying61 (by kernel_rfl) rfl rfl (by kernel_rfl) (by kernel_rfl) hf with ⟨hcs, _⟩ | ⟨x, l, c, m, n, V0, V1, D0, D1, P0, P1, hcs, hb, hl, hm, hmm, _, hx⟩
  · simp [Value.cells] at hcs
    obtain ⟨rfl, rfl, rfl⟩ := hcs
    exact ⟨[], ⟨rfl, by decide, fun h => absurd h (Nat.lt_irrefl _)⟩, rfl, Nat.le_refl _, by decide, by simp⟩
  · simp [Value.cells] at hcs
    obtain ⟨rfl, rfl, rfl⟩ := hcs
    have hlm : len ≤ m := by rw [hmm]; split <;> omega
    have each : ∀ i, i < len → ∃ q : S61, V0 i = .int .i64 q.f0 ∧ V1 i = .int .i64 q.f1 ∧ (Lit.int .i64 q.f0).wf = true ∧ (Lit.int .i64 q.f1).wf = true := by
      intro i hi
      obtain ⟨h1, h2, h3, h4⟩ := hx i (by omega)
      obtain ⟨n0, e0, _, w0⟩ := DataW.trod_int Try.underlying3 h3
      obtain ⟨n1, e1, _, w1⟩ := DataW.trod_int Try.underlying3 h4
      exact ⟨⟨n0, n1⟩, by simpa using e0, by simpa using e1, w0, w1⟩
    haveI : Inhabited S61 := ⟨⟨0, 0⟩⟩
    obtain ⟨q, hq⟩ := choose_lt each
    have hlen : ((List.range len).map q).length = len := by simp
    refine ⟨(List.range len).map q, ⟨rfl, ?_, fun _ => ⟨x, rfl, fun j p hj => ?_⟩⟩, hlen, by rw [hlen]; exact hl, by rw [hlen]; exact Nat.le_trans hl hm, fun y hy => ?_⟩
    · rw [hlen]; exact Nat.le_trans (Nat.le_trans hl hm) (by decide)
    · have hj' : j < len := by
        have := (List.getElem?_eq_some_iff.1 hj).1
        simpa using this
      have hp : p = q j := by
        rw [List.getElem?_map, List.getElem?_range hj'] at hj
        simpa using hj.symm
      subst hp
      obtain ⟨h1, h2, _, _⟩ := hx j (by omega)
      obtain ⟨e0, e1, _, _⟩ := hq j hj'
      refine ⟨[.int .i64 (q j).f0, .int .i64 (q j).f1], rfl, k61_mk W (q j), fun i u hu => ?_⟩
      match i, hu with
      | 0, hu =>
        obtain rfl : Value.int .i64 (q j).f0 = u := by simpa using hu
        rw [← e0]; exact h1
      | 1, hu =>
        obtain rfl : Value.int .i64 (q j).f1 = u := by simpa using hu
        rw [← e1]; exact h2
      | i + 2, hu => simp at hu
    · obtain ⟨j, hj, rfl⟩ := List.mem_map.1 hy
      obtain ⟨_, _, w0, w1⟩ := hq j (List.mem_range.1 hj)
      exact ⟨w0, w1⟩
theorem opened_one_run {H : Type} {enc : TypeId × Value → H} {W : World} {base : Nat} {sp : Nat → Bool} {held : Bool} {r : Reach} {b0 : Nat} {v : Value} {d : DataW H} {ps : List MemPlace}
    (hv : Value.okWide Try.prog W r b0 61 v) (h : DataW.Trod enc Try.prog W base sp held 61 v d ps) :
    ∃ x0 x1 : Int, v = .agg #[.int .i64 x0, .int .i64 x1] ∧ (Lit.int .i64 x0).wf = true ∧ (Lit.int .i64 x1).wf = true := by
  obtain ⟨v0, v1, y0, y1, n, rfl, _, _, h0, h1⟩ := open_agg2 Try.underlying61 (by kernel_rfl) (by kernel_rfl) hv h
  obtain ⟨n0, e0, _, w0⟩ := DataW.trod_int Try.underlying3 h0
  obtain ⟨n1, e1, _, w1⟩ := DataW.trod_int Try.underlying3 h1
  obtain rfl : v0 = .int .i64 n0 := by simpa using e0
  obtain rfl : v1 = .int .i64 n1 := by simpa using e1
  exact ⟨n0, n1, rfl, w0, w1⟩
end Go.Proofs.Ytojijdfgflcnjaa
