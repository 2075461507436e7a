/- The statements' Made, and what Kind, Whole, Words, All answer of what it makes: contracts. No statement is proved here. -/
import Derived.Test.YthbknmblehecaaaSeven
import Derived.Test.YthbknmblehecaaaPartBase
import Derived.Test.YthbknmblehecaaaMadePure
import Derived.Test.YthbknmblehecaaaPrx35
import Derived.Test.YthbknmblehecaaaPrx29
namespace Go.Proofs.Ythbknmblehecaaa
set_option linter.unusedVariables false
set_option linter.unusedSimpArgs false
open Go.RowKit Go.Proofs.YthbknmblehecaaaW.PrintWords Go.Proofs.YthbknmblehecaaaW.PrintLast Go.Proofs.YthbknmblehecaaaW.PrintMore Pr Go.Proofs.Ythbknmblehecaaa.Pure

theorem made_any (A : Option Addr) (c : Nat) (ns : List Int) (w : World) (hr : Kd.C (Kd.int .u8) w A ns.length ns) (hc : ns.length ≤ c) (hw : ∀ x ∈ ns, (Lit.int .u8 x).wf = true) (hy : ns.length * 1 ≤ 140737488351232) :
    Calls Try.prog 38 #[.slice A ns.length c] w fun e w' => ∃ (A0 A1 A2 A3 A4 A5 A6 : Option Addr) (c0 c1 c2 c3 c4 c5 c6 : Nat) (l0 l1 l2 l3 l4 l5 l6 : List Pc),
      e = .returned (.tuple #[.agg #[.slice A0 l0.length c0, .slice A1 l1.length c1, .slice A2 l2.length c2, .slice A3 l3.length c3, .slice A4 l4.length c4, .slice A5 l5.length c5, .slice A6 l6.length c6], .int .i64 (endP (pcs ns) 0)]) ∧
      Seven w' A0 A1 A2 A3 A4 A5 A6 c0 c1 c2 c3 c4 c5 c6 l0 l1 l2 l3 l4 l5 l6 ∧ (flat7 l0 l1 l2 l3 l4 l5 l6).length ≤ 100 ∧ sortP (flat7 l0 l1 l2 l3 l4 l5 l6) = (pcs ns).map (·.2) ∧ (∀ a, kindP [l0, l1, l2, l3, l4, l5, l6] a 0 = kOf (pcs ns) a) ∧ Below w.heap.size w w' := by
  obtain ⟨k, hk⟩ := (made_ev ns (rd_u8 hw) (by omega)).rounds
  have hcont : cont (pcs ns) 0 := pcsN_cont ns (fun i => (rd_u8 hw i).1) _ _ _
  have hlen : (pcs ns).length ≤ 100 := by unfold pcs; rw [pcsN_len]; omega
  refine (rickyardlaw26_Made.calls k A c ns _ _ _ _ _ _ _ _ w hr hc hk).mono ?_
  rintro e w' ⟨v0, v1, v2, v3, v4, v5, v6, rfl, r0, r1, r2, r3, r4, r5, r6, hB⟩
  obtain ⟨A0, c0, rfl, e0, C0⟩ := Kd.R_reads r0
  obtain ⟨A1, c1, rfl, e1, C1⟩ := Kd.R_reads r1
  obtain ⟨A2, c2, rfl, e2, C2⟩ := Kd.R_reads r2
  obtain ⟨A3, c3, rfl, e3, C3⟩ := Kd.R_reads r3
  obtain ⟨A4, c4, rfl, e4, C4⟩ := Kd.R_reads r4
  obtain ⟨A5, c5, rfl, e5, C5⟩ := Kd.R_reads r5
  obtain ⟨A6, c6, rfl, e6, C6⟩ := Kd.R_reads r6
  refine ⟨A0, A1, A2, A3, A4, A5, A6, c0, c1, c2, c3, c4, c5, c6, _, _, _, _, _, _, _, rfl, ⟨⟨C0, e0⟩, ⟨C1, e1⟩, ⟨C2, e2⟩, ⟨C3, e3⟩, ⟨C4, e4⟩, ⟨C5, e5⟩, ⟨C6, e6⟩⟩, ?_, flatS_sort hcont, fun a => kind_sel (Int.le_refl 0) (by omega) hcont a, hB⟩
  show (flatS (pcs ns)).length ≤ 100
  rw [flatS_len _ (fun p hp => (cont_ge _ _ hcont p hp).2.2.2)]
  exact hlen
theorem wh_cont (P : List (Int × Pc)) (w : Int) : ∀ e : Int, 0 ≤ e → e + 40 * (P.length : Int) ≤ 2147483648 → cont P e → wh (P.map (·.2)) e w = (decide (endP P e = w) && decide (w ≤ 2147483648)) := by
  induction P with
  | nil => intro e _ _ _; rfl
  | cons p P ih =>
    intro e h0 hb h
    obtain ⟨h1, h2, h3, h4⟩ := h
    simp only [List.length_cons] at hb
    have hm : mayB p.2 = true := by simp [mayB]; omega
    rw [List.map_cons, wh, hm, decide_eq_true h1, ih _ (by omega) (by omega) h4]
    rfl
/-- What Kind and Whole answer of seven lists. -/
theorem kind_of {A0 A1 A2 A3 A4 A5 A6 : Option Addr} {c0 c1 c2 c3 c4 c5 c6 : Nat} {l0 l1 l2 l3 l4 l5 l6 : List Pc} {w : World} (h : Seven w A0 A1 A2 A3 A4 A5 A6 c0 c1 c2 c3 c4 c5 c6 l0 l1 l2 l3 l4 l5 l6) (hl : (flat7 l0 l1 l2 l3 l4 l5 l6).length ≤ 100000) (a : Int) :
    Calls Try.prog 32 #[.agg #[.slice A0 l0.length c0, .slice A1 l1.length c1, .slice A2 l2.length c2, .slice A3 l3.length c3, .slice A4 l4.length c4, .slice A5 l5.length c5, .slice A6 l6.length c6], .int .i64 a] w fun e w' => e = .returned (.int .i64 (kindP [l0, l1, l2, l3, l4, l5, l6] a 0)) ∧ Below w.heap.size w w' :=
  part_Kind.calls A0 c0 l0 A1 c1 l1 A2 c2 l2 A3 c3 l3 A4 c4 l4 A5 c5 l5 A6 c6 l6 a _ w h.h0.1 h.h0.2 h.h1.1 h.h1.2 h.h2.1 h.h2.2 h.h3.1 h.h3.2 h.h4.1 h.h4.2 h.h5.1 h.h5.2 h.h6.1 h.h6.2 (kind_f hl a)
theorem whole_of {A0 A1 A2 A3 A4 A5 A6 : Option Addr} {c0 c1 c2 c3 c4 c5 c6 : Nat} {l0 l1 l2 l3 l4 l5 l6 : List Pc} {w : World} (h : Seven w A0 A1 A2 A3 A4 A5 A6 c0 c1 c2 c3 c4 c5 c6 l0 l1 l2 l3 l4 l5 l6) (hl : (flat7 l0 l1 l2 l3 l4 l5 l6).length ≤ 100000) (a : Int) :
    Calls Try.prog 34 #[.agg #[.slice A0 l0.length c0, .slice A1 l1.length c1, .slice A2 l2.length c2, .slice A3 l3.length c3, .slice A4 l4.length c4, .slice A5 l5.length c5, .slice A6 l6.length c6], .int .i64 a] w fun e w' => e = .returned (.bool (wh (sortP (flat7 l0 l1 l2 l3 l4 l5 l6)) 0 a)) ∧ Below w.heap.size w w' := by
  obtain ⟨k, hk⟩ := (whole_ev hl a).rounds
  exact part_Whole.calls k A0 c0 l0 A1 c1 l1 A2 c2 l2 A3 c3 l3 A4 c4 l4 A5 c5 l5 A6 c6 l6 a _ w h.h0.1 h.h0.2 h.h1.1 h.h1.2 h.h2.1 h.h2.2 h.h3.1 h.h3.2 h.h4.1 h.h4.2 h.h5.1 h.h5.2 h.h6.1 h.h6.2 hk
theorem awake_any (w : World) : Calls Try.prog 28 #[] w fun e w' => e = .returned (.bool true) ∧ Below w.heap.size w w' := by
  obtain ⟨k, hk⟩ := awake_ev.rounds
  exact rickyardlaw26_awake.calls k true w hk
end Go.Proofs.Ythbknmblehecaaa
