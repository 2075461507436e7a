/- A slice of pieces, and a struct of seven such slices, that come in: what the memory holds. No statement is proved here. -/
import Derived.Test.YthbknmblehecaaaPrx0
import Derived.Deep.SlicePairs
import Derived.Lib.SmallJoins
import Derived.SizedLaws
namespace Go.Proofs.Ythbknmblehecaaa
open Go.ChangeShapes Go.WideShapes Go.RowKit Go.Deep Go.Joins Go.Proofs.Ythbknmblehecaaa.Pr Go.Proofs.YthbknmblehecaaaW.PrintWords Go.Proofs.YthbknmblehecaaaW.PrintLast
set_option linter.unusedVariables false
theorem array7 {α : Type} {cs : Array α} (h : cs.size = 7) : ∃ c0 c1 c2 c3 c4 c5 c6, cs = #[c0, c1, c2, c3, c4, c5, c6] := by
  obtain ⟨l⟩ := cs
  match l, h with
  | [c0, c1, c2, c3, c4, c5, c6], _ => exact ⟨c0, c1, c2, c3, c4, c5, c6, rfl⟩
theorem list7 {α : Type} {cs : List α} (h : cs.length = 7) : ∃ c0 c1 c2 c3 c4 c5 c6, cs = [c0, c1, c2, c3, c4, c5, c6] := by
  match cs, h with
  | [c0, c1, c2, c3, c4, c5, c6], _ => exact ⟨c0, c1, c2, c3, c4, c5, c6, rfl⟩
theorem opened_piece {H : Type} {enc : TypeId × Value → H} {W : World} {base : Nat} {sp : Nat → Bool} {held : Bool} {a : Option Addr} {len cap : Nat} {d : DataW H} {ps : List MemPlace}
    (h : DataW.Trod enc Try.prog W base sp held 44 (.slice a len cap) d ps) :
    ∃ l : List S58, Kd.C k58 W a l.length l ∧ l.length = len ∧ l.length ≤ cap ∧ l.length ≤ maxLen ∧ ((∀ x ∈ l, (Lit.int .i64 x.f0).wf = true ∧ (Lit.int .i64 x.f1).wf = true)) ∧ ((∀ n ∈ d.weights Try.prog 44, n ≤ reachBytes) → l.length * 16 ≤ reachBytes) := by
  obtain ⟨fuel, hf⟩ := h
  rcases open_slice_pairs Try.underlying44 Try.underlying58 (by kernel_rfl) rfl rfl (by kernel_rfl) (by kernel_rfl) hf with ⟨hcs, _⟩ | ⟨x, l, c, m, n, V0, V1, D0, D1, P0, P1, hcs, hb, hl, hm, hmm, hd, hx⟩
  · simp [Value.cells] at hcs
    obtain ⟨rfl, rfl, rfl⟩ := hcs
    exact ⟨[], ⟨rfl, by decide, fun h => absurd h (Nat.lt_irrefl _)⟩, rfl, Nat.le_refl _, by decide, by simp, fun _ => by simp⟩
  · simp [Value.cells] at hcs
    obtain ⟨rfl, rfl, rfl⟩ := hcs
    have hlm : len ≤ m := by rw [hmm]; split <;> omega
    have each : ∀ i, i < len → ∃ q : S58, V0 i = .int .i64 q.f0 ∧ V1 i = .int .i64 q.f1 ∧ (Lit.int .i64 q.f0).wf = true ∧ (Lit.int .i64 q.f1).wf = true := by
      intro i hi
      obtain ⟨h1, h2, h3, h4⟩ := hx i (by omega)
      obtain ⟨n0, e0, _, w0⟩ := DataW.trod_int Try.underlying3 h3
      obtain ⟨n1, e1, _, w1⟩ := DataW.trod_int Try.underlying3 h4
      exact ⟨⟨n0, n1⟩, by simpa using e0, by simpa using e1, w0, w1⟩
    haveI : Inhabited S58 := ⟨⟨0, 0⟩⟩
    obtain ⟨q, hq⟩ := choose_lt each
    have hlen : ((List.range len).map q).length = len := by simp
    refine ⟨(List.range len).map q, ⟨rfl, ?_, fun _ => ⟨x, rfl, fun j p hj => ?_⟩⟩, hlen, by rw [hlen]; exact hl, by rw [hlen]; exact Nat.le_trans hl hm, fun y hy => ?_, fun hw => ?_⟩
    · rw [hlen]; exact Nat.le_trans (Nat.le_trans hl hm) (by decide)
    · have hj' : j < len := by
        have := (List.getElem?_eq_some_iff.1 hj).1
        simpa using this
      have hp : p = q j := by
        rw [List.getElem?_map, List.getElem?_range hj'] at hj
        simpa using hj.symm
      subst hp
      obtain ⟨h1, h2, _, _⟩ := hx j (by omega)
      obtain ⟨e0, e1, _, _⟩ := hq j hj'
      refine ⟨[.int .i64 (q j).f0, .int .i64 (q j).f1], rfl, k58_mk W (q j), fun i u hu => ?_⟩
      match i, hu with
      | 0, hu =>
        obtain rfl : Value.int .i64 (q j).f0 = u := by simpa using hu
        rw [← e0]; exact h1
      | 1, hu =>
        obtain rfl : Value.int .i64 (q j).f1 = u := by simpa using hu
        rw [← e1]; exact h2
      | i + 2, hu => simp at hu
    · obtain ⟨j, hj, rfl⟩ := List.mem_map.1 hy
      obtain ⟨_, _, w0, w1⟩ := hq j (List.mem_range.1 hj)
      exact ⟨w0, w1⟩
    · obtain ⟨hd, _⟩ := Prod.mk.inj hd
      subst hd
      have hby : Try.prog.bytesOf 58 = 16 := by kernel_rfl
      have h1 := hw ((((List.range len).map fun i => (DataW.agg [D0 i, D1 i] : DataW H)).length + ((List.range (m - len)).map fun j => (DataW.agg [D0 (len + j), D1 (len + j)] : DataW H)).length) * Try.prog.bytesOf 58) (by simp only [DataW.weights, Try.underlying44]; exact List.mem_cons_self)
      rw [hby] at h1
      simp only [List.length_map, List.length_range] at h1
      rw [hlen]
      omega
/-- One of the seven lists. -/
def One (W : World) (a : Option Addr) (c : Nat) (l : List S58) : Prop := Kd.C k58 W a l.length l ∧ l.length ≤ c ∧ ∀ x ∈ l, (Lit.int .i64 x.f0).wf = true ∧ (Lit.int .i64 x.f1).wf = true
theorem opened_parts {H : Type} {enc : TypeId × Value → H} {W : World} {base : Nat} {sp : Nat → Bool} {held : Bool} {r : Reach} {b0 : Nat} {v : Value} {d : DataW H} {ps : List MemPlace}
    (hv : Value.okWide Try.prog W r b0 46 v) (h : DataW.Trod enc Try.prog W base sp held 46 v d ps) :
    ∃ (A0 A1 A2 A3 A4 A5 A6 : Option Addr) (c0 c1 c2 c3 c4 c5 c6 : Nat) (l0 l1 l2 l3 l4 l5 l6 : List S58),
      v = .agg #[.slice A0 l0.length c0, .slice A1 l1.length c1, .slice A2 l2.length c2, .slice A3 l3.length c3, .slice A4 l4.length c4, .slice A5 l5.length c5, .slice A6 l6.length c6] ∧
      One W A0 c0 l0 ∧ One W A1 c1 l1 ∧ One W A2 c2 l2 ∧ One W A3 c3 l3 ∧ One W A4 c4 l4 ∧ One W A5 c5 l5 ∧ One W A6 c6 l6 ∧ ((∀ n ∈ d.weights Try.prog 46, n ≤ reachBytes) → l0.length * 16 ≤ reachBytes ∧ l1.length * 16 ≤ reachBytes ∧ l2.length * 16 ≤ reachBytes ∧ l3.length * 16 ≤ reachBytes ∧ l4.length * 16 ≤ reachBytes ∧ l5.length * 16 ≤ reachBytes ∧ l6.length * 16 ≤ reachBytes) := by
  have hs := Try.underlying46
  obtain ⟨cs, rfl, hsz⟩ := okWide_struct hs hv
  obtain ⟨v0, v1, v2, v3, v4, v5, v6, rfl⟩ := array7 (hsz.trans (by kernel_rfl))
  obtain ⟨fuel, hf⟩ := h
  obtain ⟨xs, n, _, hd, hl, hlen, hg⟩ := DataW.trod_struct hs hf
  obtain ⟨y0, y1, y2, y3, y4, y5, y6, rfl⟩ := list7 hlen
  have hcl : (Try.prog.cellsOf 44) = 1 := by kernel_rfl
  have one : ∀ (u : Value) (y : DataW H × List MemPlace), DataW.trod enc Try.prog W base sp held n 44 [u] = some y → ∃ (A : Option Addr) (c : Nat) (l : List S58), u = .slice A l.length c ∧ One W A c l ∧ ((∀ n ∈ y.1.weights Try.prog 44, n ≤ reachBytes) → l.length * 16 ≤ reachBytes) := by
    intro u y h1
    obtain ⟨A, len, c, he⟩ := slice_form Try.underlying44 h1
    obtain rfl : u = .slice A len c := by simpa using he
    obtain ⟨l, h2, h3, h4, h5, h6, h7⟩ := opened_piece (a := A) (len := len) (cap := c) ⟨n, by simpa [Value.cells] using h1⟩
    subst h3
    exact ⟨A, c, l, rfl, ⟨h2, h4, h6⟩, h7⟩
  have g0 : DataW.trod enc Try.prog W base sp held n 44 [v0] = some y0 := by
    have h := hg 0 _ rfl
    simpa [Value.cells, hcl] using h
  obtain ⟨A0, c0, l0, rfl, o0, s0⟩ := one v0 y0 g0
  have g1 : DataW.trod enc Try.prog W base sp held n 44 [v1] = some y1 := by
    have h := hg 1 _ rfl
    simpa [Value.cells, hcl] using h
  obtain ⟨A1, c1, l1, rfl, o1, s1⟩ := one v1 y1 g1
  have g2 : DataW.trod enc Try.prog W base sp held n 44 [v2] = some y2 := by
    have h := hg 2 _ rfl
    simpa [Value.cells, hcl] using h
  obtain ⟨A2, c2, l2, rfl, o2, s2⟩ := one v2 y2 g2
  have g3 : DataW.trod enc Try.prog W base sp held n 44 [v3] = some y3 := by
    have h := hg 3 _ rfl
    simpa [Value.cells, hcl] using h
  obtain ⟨A3, c3, l3, rfl, o3, s3⟩ := one v3 y3 g3
  have g4 : DataW.trod enc Try.prog W base sp held n 44 [v4] = some y4 := by
    have h := hg 4 _ rfl
    simpa [Value.cells, hcl] using h
  obtain ⟨A4, c4, l4, rfl, o4, s4⟩ := one v4 y4 g4
  have g5 : DataW.trod enc Try.prog W base sp held n 44 [v5] = some y5 := by
    have h := hg 5 _ rfl
    simpa [Value.cells, hcl] using h
  obtain ⟨A5, c5, l5, rfl, o5, s5⟩ := one v5 y5 g5
  have g6 : DataW.trod enc Try.prog W base sp held n 44 [v6] = some y6 := by
    have h := hg 6 _ rfl
    simpa [Value.cells, hcl] using h
  obtain ⟨A6, c6, l6, rfl, o6, s6⟩ := one v6 y6 g6
  refine ⟨A0, A1, A2, A3, A4, A5, A6, c0, c1, c2, c3, c4, c5, c6, l0, l1, l2, l3, l4, l5, l6, rfl, o0, o1, o2, o3, o4, o5, o6, fun hw => ?_⟩
  obtain ⟨hd, _⟩ := Prod.mk.inj hd
  subst hd
  have hsub : ∀ (j : Nat) (y : DataW H × List MemPlace), j < 7 → [y0, y1, y2, y3, y4, y5, y6][j]? = some y → ∀ n ∈ y.1.weights Try.prog 44, n ≤ reachBytes := by
    intro j y hj hy n hn
    refine hw n ?_
    simp only [DataW.weights, hs]
    refine DataW.weights_mem_each (j := j) (t := 44) (d := y.1) ?_ (by rw [List.getElem?_map, hy]; rfl) n hn
    match j, hj with
    | 0, _ => rfl
    | 1, _ => rfl
    | 2, _ => rfl
    | 3, _ => rfl
    | 4, _ => rfl
    | 5, _ => rfl
    | 6, _ => rfl
  exact ⟨s0 (hsub 0 y0 (by omega) rfl), s1 (hsub 1 y1 (by omega) rfl), s2 (hsub 2 y2 (by omega) rfl), s3 (hsub 3 y3 (by omega) rfl), s4 (hsub 4 y4 (by omega) rfl), s5 (hsub 5 y5 (by omega) rfl), s6 (hsub 6 y6 (by omega) rfl)⟩
end Go.Proofs.Ythbknmblehecaaa
