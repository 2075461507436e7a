/- The statements' Made, and what Kind, Whole, Words, All answer of what it makes: contracts. No statement is proved here. -/
import Derived.Test.YthbknmblehecaaaSeven
import Derived.Test.YthbknmblehecaaaPartBase
import Derived.Test.YthbknmblehecaaaMadePure
import Derived.Test.YthbknmblehecaaaPrx35
import Derived.Test.YthbknmblehecaaaPrx29
namespace Go.Proofs.Ythbknmblehecaaa
set_option linter.unusedVariables false
set_option linter.unusedSimpArgs false
open Go.RowKit Go.Proofs.YthbknmblehecaaaW.PrintWords Go.Proofs.YthbknmblehecaaaW.PrintLast Go.Proofs.YthbknmblehecaaaW.PrintMore Pr Go.Proofs.Ythbknmblehecaaa.Pure

theorem wh_cont (P : List (Int × Pc)) (w : Int) : ∀ e : Int, 0 ≤ e → e + 40 * (P.length : Int) ≤ 2147483648 → cont P e → wh (P.map (·.2)) e w = (decide (endP P e = w) && decide (w ≤ 2147483648)) := by
  induction P with
  | nil => intro e _ _ _; rfl
  | cons p P ih =>
    intro e h0 hb h
    obtain ⟨h1, h2, h3, h4⟩ := h
    simp only [List.length_cons] at hb
    have hm : mayB p.2 = true := by simp [mayB]; omega
    rw [List.map_cons, wh, hm, decide_eq_true h1, ih _ (by omega) (by omega) h4]
    rfl
/-- What Kind and Whole answer of seven lists. -/
theorem whole_of {A0 A1 A2 A3 A4 A5 A6 : Option Addr} {c0 c1 c2 c3 c4 c5 c6 : Nat} {l0 l1 l2 l3 l4 l5 l6 : List Pc} {w : World} (h : Seven w A0 A1 A2 A3 A4 A5 A6 c0 c1 c2 c3 c4 c5 c6 l0 l1 l2 l3 l4 l5 l6) (hl : (flat7 l0 l1 l2 l3 l4 l5 l6).length ≤ 100000) (a : Int) :
    Calls Try.prog 34 #[.agg #[.slice A0 l0.length c0, .slice A1 l1.length c1, .slice A2 l2.length c2, .slice A3 l3.length c3, .slice A4 l4.length c4, .slice A5 l5.length c5, .slice A6 l6.length c6], .int .i64 a] w fun e w' => e = .returned (.bool (wh (sortP (flat7 l0 l1 l2 l3 l4 l5 l6)) 0 a)) ∧ Below w.heap.size w w' := by
  obtain ⟨k, hk⟩ := (whole_ev hl a).rounds
  exact part_Whole.calls k A0 c0 l0 A1 c1 l1 A2 c2 l2 A3 c3 l3 A4 c4 l4 A5 c5 l5 A6 c6 l6 a _ w h.h0.1 h.h0.2 h.h1.1 h.h1.2 h.h2.1 h.h2.2 h.h3.1 h.h3.2 h.h4.1 h.h4.2 h.h5.1 h.h5.2 h.h6.1 h.h6.2 hk
theorem awake_any (w : World) : Calls Try.prog 28 #[] w fun e w' => e = .returned (.bool true) ∧ Below w.heap.size w w' := by
  obtain ⟨k, hk⟩ := awake_ev.rounds
  exact rickyardlaw26_awake.calls k true w hk
end Go.Proofs.Ythbknmblehecaaa
