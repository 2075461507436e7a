/- The document's Free and Find: contracts that read. No statement is proved here. -/
import Derived.Test.YtflhbakjlbmfbaaModelCalls
import Derived.Test.YtflhbakjlbmfbaaModelRef1
namespace Go.Proofs.Ytflhbakjlbmfbaa
set_option linter.unusedVariables false
set_option linter.unusedSimpArgs false
open Go.RowKit Go.Proofs.YtflhbakjlbmfbaaW.PrintWords Go.Proofs.YtflhbakjlbmfbaaW.PrintLast Go.Proofs.YtflhbakjlbmfbaaW.PrintMore Pr Go.Proofs.Ytflhbakjlbmfbaa.Pure

section
variable {m : Int} {v : Value} {l : List Lv} {w : World}
theorem rfree_any (hr : rtL m l) (hl : l.length ≤ 1000) (h : Rd w v l) (a : Int) :
    Calls Try.prog 63 #[.agg #[.int .i64 m, v], .int .i64 a] w fun e w' => ∃ u, e = .returned (.tuple #[.agg #[.int .i64 (freeR m l a).1, u], .int .i64 (freeR m l a).2.2]) ∧ Rd w' u (freeR m l a).2.1 ∧ Below w.heap.size w w' := by
  obtain ⟨A, c, rfl, h2, h3⟩ := h
  obtain ⟨k, hk⟩ := (rfree_ev hr hl a).rounds
  exact (rickyardref13_Free.calls k m A c l a _ _ _ w h3 h2 hk).mono (fun e w' ⟨u, h4, h5, h6⟩ => ⟨u, h4, Rd.ofR h5, h6⟩)
theorem rfind_any (hr : rtL m l) (hl : l.length ≤ 1000) (h : Rd w v l) (a : Int) :
    Calls Try.prog 64 #[.agg #[.int .i64 m, v], .int .i64 a] w fun e w' => e = .returned (.tuple #[.agg #[.int .i64 (findR l a).1, .int .i64 (findR l a).2.1, .int .i64 (findR l a).2.2.1], .bool (findR l a).2.2.2]) ∧ Below w.heap.size w w' := by
  obtain ⟨A, c, rfl, h2, h3⟩ := h
  obtain ⟨k, hk⟩ := (rfindm_ev hr hl a).rounds
  exact rickyardref13_Find.calls k m A c l a _ _ _ _ w h3 h2 hk
end
end Go.Proofs.Ytflhbakjlbmfbaa
