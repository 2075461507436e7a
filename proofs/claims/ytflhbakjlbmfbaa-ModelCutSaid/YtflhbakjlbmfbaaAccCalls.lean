/- Accepts: a contract that reads. No statement is proved here. -/
import Derived.Test.YtflhbakjlbmfbaaModelCalls
import Derived.Test.YtflhbakjlbmfbaaAccepts
namespace Go.Proofs.Ytflhbakjlbmfbaa
set_option linter.unusedVariables false
set_option linter.unusedSimpArgs false
open Go.RowKit Go.Proofs.YtflhbakjlbmfbaaW.PrintWords Go.Proofs.YtflhbakjlbmfbaaW.PrintLast Go.Proofs.YtflhbakjlbmfbaaW.PrintMore Pr Go.Proofs.Ytflhbakjlbmfbaa.Pure

section
variable {m : Int} {v : Value} {l : List Lv} {w : World}
theorem accepts_anyR (hm : mOk m) (hr : rtL m l) {D : List De} (hlen : l.length + D.length ≤ 1000) (h : Rd w v l) {B : Option Addr} {cd : Nat} (hD : Kd.C k71 w B D.length D) (hcd : D.length ≤ cd) :
    Calls Try.prog 35 #[.agg #[.int .i64 m, v], .slice B D.length cd] w fun e w' => ∃ u, e = .returned (.tuple #[.agg #[.int .i64 m, u], .int .i64 ((accsL m l D).2.1 : Nat), .bool (accsL m l D).2.2]) ∧ Rd w' u (accsL m l D).1 ∧ Below w.heap.size w w' := by
  obtain ⟨A, c, rfl, h2, h3⟩ := h
  exact (accepts_any m A c l B cd D w hm hr hlen h3 h2 hD hcd).mono (fun e w' ⟨A', c', h4, h5, h6, h7⟩ => ⟨_, h4, Rd.ofF h5 h6, h7⟩)
end
end Go.Proofs.Ytflhbakjlbmfbaa
