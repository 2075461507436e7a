/- Both Mays: contracts that read. No statement is proved here. -/
import Derived.Test.YtflhbakjlbmfbaaModelCalls
import Derived.Test.YtflhbakjlbmfbaaModelMayL
namespace Go.Proofs.Ytflhbakjlbmfbaa
set_option linter.unusedVariables false
set_option linter.unusedSimpArgs false
open Go.RowKit Go.Proofs.YtflhbakjlbmfbaaW.PrintWords Go.Proofs.YtflhbakjlbmfbaaW.PrintLast Go.Proofs.YtflhbakjlbmfbaaW.PrintMore Pr Go.Proofs.Ytflhbakjlbmfbaa.Pure

section
variable {m : Int} {v : Value} {l : List Lv} {w : World}
theorem may_any (hl : l.length < 9223372036854775807) (h : Rd w v l) :
    Calls Try.prog 29 #[.agg #[.int .i64 m, v]] w fun e w' => e = .returned (.bool (mayL m l)) ∧ Below w.heap.size w w' := by
  obtain ⟨A, c, rfl, h2, h3⟩ := h
  obtain ⟨k, hk⟩ := (may_ev m l hl).rounds
  exact model_May.calls k m A c l _ w h3 h2 hk
theorem rmay_anyR (hl : l.length ≤ 17592186044416) (h : Rd w v l) :
    Calls Try.prog 30 #[.agg #[.int .i64 m, v]] w fun e w' => e = .returned (.bool (mayL m l)) ∧ Below w.heap.size w w' := by
  obtain ⟨A, c, rfl, h2, h3⟩ := h
  exact rmay_any m A c l w h3 h2 hl
end
end Go.Proofs.Ytflhbakjlbmfbaa
