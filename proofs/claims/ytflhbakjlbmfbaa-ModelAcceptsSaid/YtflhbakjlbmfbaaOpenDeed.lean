/- Live stacks, deeds and a model that come in: what the memory holds. No statement is proved here. -/
import Derived.Test.YtflhbakjlbmfbaaModelPure
import Derived.Test.YtflhbakjlbmfbaaModelAcc
import Derived.Deep.Slices
import Derived.Lib.SmallJoins
namespace Go.Proofs.Ytflhbakjlbmfbaa
open Go.ChangeShapes Go.WideShapes Go.RowKit Go.Deep Go.Joins Go.Proofs.Ytflhbakjlbmfbaa.Pr Go.Proofs.YtflhbakjlbmfbaaW.PrintWords Go.Proofs.YtflhbakjlbmfbaaW.PrintLast Go.Proofs.Ytflhbakjlbmfbaa.Pure
set_option linter.unusedVariables false
set_option maxRecDepth 100000 in
theorem opened_live_at {H : Type} {enc : TypeId × Value → H} {W : World} {base fuel : Nat} {sp : Nat → Bool} {held : Bool} {v : Value} {y : DataW H × List MemPlace}
    (hf : DataW.trod enc Try.prog W base sp held fuel 39 [v] = some y) :
    ∃ (a : Option Addr) (cap : Nat) (l : List S48), v = .slice a l.length cap ∧ Kd.C k48 W a l.length l ∧ l.length ≤ cap ∧ l.length ≤ maxLen := by
  have ce : Try.prog.cellsOf 48 = 3 := by kernel_rfl
  rcases open_slice Try.underlying39 hf with ⟨hcs, _⟩ | ⟨x, len, cap, m, k, D, Pl, hcs, hb, hl, hm, hmm, _, hx⟩
  · obtain rfl : v = .slice none 0 0 := by simpa using hcs
    exact ⟨none, 0, [], rfl, ⟨rfl, by decide, fun h => absurd h (Nat.lt_irrefl _)⟩, Nat.le_refl _, by decide⟩
  · obtain rfl : v = .slice (some x) len cap := by simpa using hcs
    have hlm : len ≤ m := by rw [hmm]; split <;> omega
    have each : ∀ i, i < len → ∃ q : S48, W.cell? (x.add (i * 3 + 0)) = some (.int .i64 q.f0) ∧ W.cell? (x.add (i * 3 + 1)) = some (.int .i64 q.f1) ∧ W.cell? (x.add (i * 3 + 2)) = some (.int .i64 q.f2) := by
      intro i hi
      obtain ⟨cs', h1, h2⟩ := hx i (by omega)
      rw [ce] at h1
      obtain ⟨_, hlen, hcell⟩ := World.cells?_some h1
      obtain ⟨xs, k2, hk, hxy, hcl, hxl, hg⟩ := DataW.trod_struct Try.underlying48 h2
      clear hcl hxy hk h2 h1 hx ce
      match xs, hxl, cs', hlen with
      | [y0, y1, y2], _, [v0, v1, v2], _ =>
        obtain ⟨n0, e0, _, _⟩ := DataW.trod_int (Try.underlying3) (by simpa [show Try.prog.cellsOf 3 = 1 by kernel_rfl] using hg 0 _ rfl)
        have c0 := hcell 0 (by omega)
        rw [Go.Deep.add_add] at c0
        obtain ⟨n1, e1, _, _⟩ := DataW.trod_int (Try.underlying3) (by simpa [show Try.prog.cellsOf 3 = 1 by kernel_rfl] using hg 1 _ rfl)
        have c1 := hcell 1 (by omega)
        rw [Go.Deep.add_add] at c1
        obtain ⟨n2, e2, _, _⟩ := DataW.trod_int (Try.underlying3) (by simpa [show Try.prog.cellsOf 3 = 1 by kernel_rfl] using hg 2 _ rfl)
        have c2 := hcell 2 (by omega)
        rw [Go.Deep.add_add] at c2
        simp at e0 e1 e2 c0 c1 c2
        exact ⟨⟨n0, n1, n2⟩, by rw [← e0]; exact c0, by rw [← e1]; exact c1, by rw [← e2]; exact c2⟩
    haveI : Inhabited S48 := ⟨⟨0, 0, 0⟩⟩
    obtain ⟨q, hq⟩ := choose_lt each
    have hlen : ((List.range len).map q).length = len := by simp
    refine ⟨some x, cap, (List.range len).map q, by rw [hlen], ⟨rfl, ?_, fun _ => ⟨x, rfl, fun j p hj => ?_⟩⟩, by rw [hlen]; exact hl, by rw [hlen]; exact Nat.le_trans hl hm⟩
    · rw [hlen]; exact Nat.le_trans (Nat.le_trans hl hm) (by decide)
    · have hj' : j < len := by
        have := (List.getElem?_eq_some_iff.1 hj).1
        simpa using this
      have hp : p = q j := by
        rw [List.getElem?_map, List.getElem?_range hj'] at hj
        simpa using hj.symm
      subst hp
      obtain ⟨h0, h1, h2⟩ := hq j hj'
      refine ⟨[.int .i64 (q j).f0, .int .i64 (q j).f1, .int .i64 (q j).f2], rfl, k48_mk W (q j), fun i u hu => ?_⟩
      match i, hu with
      | 0, hu =>
        obtain rfl : Value.int .i64 (q j).f0 = u := by simpa using hu
        exact h0
      | 1, hu =>
        obtain rfl : Value.int .i64 (q j).f1 = u := by simpa using hu
        exact h1
      | 2, hu =>
        obtain rfl : Value.int .i64 (q j).f2 = u := by simpa using hu
        exact h2
      | i + 3, hu => simp at hu
set_option maxRecDepth 100000 in
theorem opened_deed_at {H : Type} {enc : TypeId × Value → H} {W : World} {base fuel : Nat} {sp : Nat → Bool} {held : Bool} {v : Value} {y : DataW H × List MemPlace}
    (hf : DataW.trod enc Try.prog W base sp held fuel 62 [v] = some y) :
    ∃ (a : Option Addr) (cap : Nat) (l : List S71), v = .slice a l.length cap ∧ Kd.C k71 W a l.length l ∧ l.length ≤ cap ∧ l.length ≤ maxLen := by
  have ce : Try.prog.cellsOf 71 = 4 := by kernel_rfl
  rcases open_slice Try.underlying62 hf with ⟨hcs, _⟩ | ⟨x, len, cap, m, k, D, Pl, hcs, hb, hl, hm, hmm, _, hx⟩
  · obtain rfl : v = .slice none 0 0 := by simpa using hcs
    exact ⟨none, 0, [], rfl, ⟨rfl, by decide, fun h => absurd h (Nat.lt_irrefl _)⟩, Nat.le_refl _, by decide⟩
  · obtain rfl : v = .slice (some x) len cap := by simpa using hcs
    have hlm : len ≤ m := by rw [hmm]; split <;> omega
    have each : ∀ i, i < len → ∃ q : S71, W.cell? (x.add (i * 4 + 0)) = some (.int .i64 q.f0) ∧ W.cell? (x.add (i * 4 + 1)) = some (.int .i64 q.f1) ∧ W.cell? (x.add (i * 4 + 2)) = some (.int .i64 q.f2) ∧ W.cell? (x.add (i * 4 + 3)) = some (.int .i64 q.f3) := by
      intro i hi
      obtain ⟨cs', h1, h2⟩ := hx i (by omega)
      rw [ce] at h1
      obtain ⟨_, hlen, hcell⟩ := World.cells?_some h1
      obtain ⟨xs, k2, hk, hxy, hcl, hxl, hg⟩ := DataW.trod_struct Try.underlying71 h2
      clear hcl hxy hk h2 h1 hx ce
      match xs, hxl, cs', hlen with
      | [y0, y1, y2, y3], _, [v0, v1, v2, v3], _ =>
        obtain ⟨n0, e0, _, _⟩ := DataW.trod_int (Try.underlying3) (by simpa [show Try.prog.cellsOf 3 = 1 by kernel_rfl] using hg 0 _ rfl)
        have c0 := hcell 0 (by omega)
        rw [Go.Deep.add_add] at c0
        obtain ⟨n1, e1, _, _⟩ := DataW.trod_int (Try.underlying3) (by simpa [show Try.prog.cellsOf 3 = 1 by kernel_rfl] using hg 1 _ rfl)
        have c1 := hcell 1 (by omega)
        rw [Go.Deep.add_add] at c1
        obtain ⟨n2, e2, _, _⟩ := DataW.trod_int (Try.underlying3) (by simpa [show Try.prog.cellsOf 3 = 1 by kernel_rfl] using hg 2 _ rfl)
        have c2 := hcell 2 (by omega)
        rw [Go.Deep.add_add] at c2
        obtain ⟨n3, e3, _, _⟩ := DataW.trod_int (Try.underlying25) (by simpa [show Try.prog.cellsOf 25 = 1 by kernel_rfl] using hg 3 _ rfl)
        have c3 := hcell 3 (by omega)
        rw [Go.Deep.add_add] at c3
        simp at e0 e1 e2 e3 c0 c1 c2 c3
        exact ⟨⟨n0, n1, n2, n3⟩, by rw [← e0]; exact c0, by rw [← e1]; exact c1, by rw [← e2]; exact c2, by rw [← e3]; exact c3⟩
    haveI : Inhabited S71 := ⟨⟨0, 0, 0, 0⟩⟩
    obtain ⟨q, hq⟩ := choose_lt each
    have hlen : ((List.range len).map q).length = len := by simp
    refine ⟨some x, cap, (List.range len).map q, by rw [hlen], ⟨rfl, ?_, fun _ => ⟨x, rfl, fun j p hj => ?_⟩⟩, by rw [hlen]; exact hl, by rw [hlen]; exact Nat.le_trans hl hm⟩
    · rw [hlen]; exact Nat.le_trans (Nat.le_trans hl hm) (by decide)
    · have hj' : j < len := by
        have := (List.getElem?_eq_some_iff.1 hj).1
        simpa using this
      have hp : p = q j := by
        rw [List.getElem?_map, List.getElem?_range hj'] at hj
        simpa using hj.symm
      subst hp
      obtain ⟨h0, h1, h2, h3⟩ := hq j hj'
      refine ⟨[.int .i64 (q j).f0, .int .i64 (q j).f1, .int .i64 (q j).f2, .int .i64 (q j).f3], rfl, k71_mk W (q j), fun i u hu => ?_⟩
      match i, hu with
      | 0, hu =>
        obtain rfl : Value.int .i64 (q j).f0 = u := by simpa using hu
        exact h0
      | 1, hu =>
        obtain rfl : Value.int .i64 (q j).f1 = u := by simpa using hu
        exact h1
      | 2, hu =>
        obtain rfl : Value.int .i64 (q j).f2 = u := by simpa using hu
        exact h2
      | 3, hu =>
        obtain rfl : Value.int .i64 (q j).f3 = u := by simpa using hu
        exact h3
      | i + 4, hu => simp at hu
theorem opened_deed {H : Type} {enc : TypeId × Value → H} {W : World} {base : Nat} {sp : Nat → Bool} {held : Bool} {a : Option Addr} {len cap : Nat} {d : DataW H} {ps : List MemPlace}
    (h : DataW.Trod enc Try.prog W base sp held 62 (.slice a len cap) d ps) :
    ∃ l : List S71, Kd.C k71 W a l.length l ∧ l.length = len ∧ l.length ≤ cap ∧ l.length ≤ maxLen := by
  obtain ⟨fuel, hf⟩ := h
  obtain ⟨a', cap', l, e, h1, h2, h3⟩ := opened_deed_at hf
  cases e
  exact ⟨l, h1, rfl, h2, h3⟩
set_option maxRecDepth 100000 in
theorem opened_model {H : Type} {enc : TypeId × Value → H} {W : World} {base : Nat} {sp : Nat → Bool} {held : Bool} {r : Reach} {b0 : Nat} {v : Value} {d : DataW H} {ps : List MemPlace}
    (hv : Value.okWide Try.prog W r b0 41 v) (h : DataW.Trod enc Try.prog W base sp held 41 v d ps) :
    ∃ (m : Int) (a : Option Addr) (cap : Nat) (l : List S48), v = .agg #[.int .i64 m, .slice a l.length cap] ∧ Kd.C k48 W a l.length l ∧ l.length ≤ cap ∧ l.length ≤ maxLen := by
  obtain ⟨v0, v1, y0, y1, n, rfl, _, _, h0, h1⟩ := open_agg2 Try.underlying41 (by kernel_rfl) (by kernel_rfl) hv h
  obtain ⟨n0, e0, _, w0⟩ := DataW.trod_int Try.underlying3 h0
  obtain rfl : v0 = .int .i64 n0 := by simpa using e0
  obtain ⟨a', cap', l, rfl, h2, h3, h4⟩ := opened_live_at h1
  exact ⟨n0, a', cap', l, rfl, h2, h3, h4⟩
end Go.Proofs.Ytflhbakjlbmfbaa
