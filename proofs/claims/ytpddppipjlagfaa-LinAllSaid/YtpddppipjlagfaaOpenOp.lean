/- A slice of deeds with their times that comes in: what the memory holds. No statement is proved here. -/
import Derived.Test.YtpddppipjlagfaaPrx0
import Derived.Deep.Slices
import Derived.Lib.SmallJoins
namespace Go.Proofs.Ytpddppipjlagfaa
open Go.ChangeShapes Go.WideShapes Go.RowKit Go.Deep Go.Joins Go.Proofs.Ytpddppipjlagfaa.Pr Go.Proofs.YtpddppipjlagfaaW.PrintWords Go.Proofs.YtpddppipjlagfaaW.PrintLast
set_option linter.unusedVariables false
theorem deed_at {H : Type} {enc : TypeId × Value → H} {W : World} {base fuel : Nat} {sp : Nat → Bool} {held : Bool} {v0 v1 v2 v3 : Value} {y : DataW H × List MemPlace}
    (hf : DataW.trod enc Try.prog W base sp held fuel 38 [v0, v1, v2, v3] = some y) :
    ∃ n0 n1 n2 n3 : Int, v0 = .int .i64 n0 ∧ v1 = .int .i64 n1 ∧ v2 = .int .i64 n2 ∧ v3 = .int .i64 n3 := by
  obtain ⟨xs, k2, hk, hxy, hcl, hxl, hg⟩ := DataW.trod_struct Try.underlying38 hf
  clear hcl hxy hk
  match xs, hxl with
  | [y0, y1, y2, y3], _ =>
    obtain ⟨n0, e0, _, _⟩ := DataW.trod_int (Try.underlying3) (by simpa [show Try.prog.cellsOf 3 = 1 by kernel_rfl] using hg 0 _ rfl)
    obtain ⟨n1, e1, _, _⟩ := DataW.trod_int (Try.underlying3) (by simpa [show Try.prog.cellsOf 3 = 1 by kernel_rfl] using hg 1 _ rfl)
    obtain ⟨n2, e2, _, _⟩ := DataW.trod_int (Try.underlying3) (by simpa [show Try.prog.cellsOf 3 = 1 by kernel_rfl] using hg 2 _ rfl)
    obtain ⟨n3, e3, _, _⟩ := DataW.trod_int (Try.underlying36) (by simpa [show Try.prog.cellsOf 36 = 1 by kernel_rfl] using hg 3 _ rfl)
    simp at e0 e1 e2 e3
    exact ⟨n0, n1, n2, n3, e0, e1, e2, e3⟩
set_option maxRecDepth 100000 in
theorem opened_op {H : Type} {enc : TypeId × Value → H} {W : World} {base : Nat} {sp : Nat → Bool} {held : Bool} {a : Option Addr} {len0 cap0 : Nat} {d : DataW H} {ps : List MemPlace}
    (h : DataW.Trod enc Try.prog W base sp held 23 (.slice a len0 cap0) d ps) :
    ∃ l : List S40, Kd.C k40 W a l.length l ∧ l.length = len0 ∧ l.length ≤ cap0 ∧ l.length ≤ maxLen := by
  have ce : Try.prog.cellsOf 40 = 6 := by kernel_rfl
  obtain ⟨fuel, hf⟩ := h
  rcases open_slice Try.underlying23 hf with ⟨hcs, _⟩ | ⟨x, len, cap, m, k, D, Pl, hcs, hb, hl, hm, hmm, _, hx⟩
  · simp [Value.cells] at hcs
    obtain ⟨rfl, rfl, rfl⟩ := hcs
    exact ⟨[], ⟨rfl, by decide, fun h => absurd h (Nat.lt_irrefl _)⟩, rfl, Nat.le_refl _, by decide⟩
  · simp [Value.cells] at hcs
    obtain ⟨rfl, rfl, rfl⟩ := hcs
    have hlm : len0 ≤ m := by rw [hmm]; split <;> omega
    have each : ∀ i, i < len0 → ∃ q : S40, W.cell? (x.add (i * 6 + 0)) = some (.int .i64 q.f0.f0) ∧ W.cell? (x.add (i * 6 + 1)) = some (.int .i64 q.f0.f1) ∧ W.cell? (x.add (i * 6 + 2)) = some (.int .i64 q.f0.f2) ∧ W.cell? (x.add (i * 6 + 3)) = some (.int .i64 q.f0.f3) ∧ W.cell? (x.add (i * 6 + 4)) = some (.int .i64 q.f1) ∧ W.cell? (x.add (i * 6 + 5)) = some (.int .i64 q.f2) := by
      intro i hi
      obtain ⟨cs', h1, h2⟩ := hx i (by omega)
      rw [ce] at h1
      obtain ⟨_, hlen, hcell⟩ := World.cells?_some h1
      obtain ⟨xs, k2, hk, hxy, hcl, hxl, hg⟩ := DataW.trod_struct Try.underlying40 h2
      clear hcl hxy hk h2 h1 hx ce
      match xs, hxl, cs', hlen with
      | [y0, y1, y2], _, [v0, v1, v2, v3, v4, v5], _ =>
        obtain ⟨n0, n1, n2, n3, e0, e1, e2, e3⟩ := deed_at (by simpa [show Try.prog.cellsOf 38 = 4 by kernel_rfl] using hg 0 _ rfl)
        obtain ⟨n4, e4, _, _⟩ := DataW.trod_int (Try.underlying3) (by simpa [show Try.prog.cellsOf 3 = 1 by kernel_rfl] using hg 1 _ rfl)
        obtain ⟨n5, e5, _, _⟩ := DataW.trod_int (Try.underlying3) (by simpa [show Try.prog.cellsOf 3 = 1 by kernel_rfl] using hg 2 _ rfl)
        have c0 := hcell 0 (by omega)
        rw [Go.Deep.add_add] at c0
        have c1 := hcell 1 (by omega)
        rw [Go.Deep.add_add] at c1
        have c2 := hcell 2 (by omega)
        rw [Go.Deep.add_add] at c2
        have c3 := hcell 3 (by omega)
        rw [Go.Deep.add_add] at c3
        have c4 := hcell 4 (by omega)
        rw [Go.Deep.add_add] at c4
        have c5 := hcell 5 (by omega)
        rw [Go.Deep.add_add] at c5
        simp at e4 e5 c0 c1 c2 c3 c4 c5
        exact ⟨⟨⟨n0, n1, n2, n3⟩, n4, n5⟩, by rw [← e0]; exact c0, by rw [← e1]; exact c1, by rw [← e2]; exact c2, by rw [← e3]; exact c3, by rw [← e4]; exact c4, by rw [← e5]; exact c5⟩
    haveI : Inhabited S40 := ⟨⟨⟨0, 0, 0, 0⟩, 0, 0⟩⟩
    obtain ⟨q, hq⟩ := choose_lt each
    have hlen : ((List.range len0).map q).length = len0 := by simp
    refine ⟨(List.range len0).map q, ⟨rfl, ?_, fun _ => ⟨x, rfl, fun j p hj => ?_⟩⟩, hlen, by rw [hlen]; exact hl, by rw [hlen]; exact Nat.le_trans hl hm⟩
    · rw [hlen]; exact Nat.le_trans (Nat.le_trans hl hm) (by decide)
    · have hj' : j < len0 := by
        have := (List.getElem?_eq_some_iff.1 hj).1
        simpa using this
      have hp : p = q j := by
        rw [List.getElem?_map, List.getElem?_range hj'] at hj
        simpa using hj.symm
      subst hp
      obtain ⟨h0, h1, h2, h3, h4, h5⟩ := hq j hj'
      refine ⟨[.int .i64 (q j).f0.f0, .int .i64 (q j).f0.f1, .int .i64 (q j).f0.f2, .int .i64 (q j).f0.f3, .int .i64 (q j).f1, .int .i64 (q j).f2], rfl, k40_mk W (q j), fun i u hu => ?_⟩
      match i, hu with
      | 0, hu =>
        obtain rfl : Value.int .i64 (q j).f0.f0 = u := by simpa using hu
        exact h0
      | 1, hu =>
        obtain rfl : Value.int .i64 (q j).f0.f1 = u := by simpa using hu
        exact h1
      | 2, hu =>
        obtain rfl : Value.int .i64 (q j).f0.f2 = u := by simpa using hu
        exact h2
      | 3, hu =>
        obtain rfl : Value.int .i64 (q j).f0.f3 = u := by simpa using hu
        exact h3
      | 4, hu =>
        obtain rfl : Value.int .i64 (q j).f1 = u := by simpa using hu
        exact h4
      | 5, hu =>
        obtain rfl : Value.int .i64 (q j).f2 = u := by simpa using hu
        exact h5
      | i + 6, hu => simp at hu
end Go.Proofs.Ytpddppipjlagfaa
