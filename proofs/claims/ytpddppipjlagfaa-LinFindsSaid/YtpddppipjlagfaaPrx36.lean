-- Printed by a program of this session (wip/tools/myprint.py) that runs the kit's print with contracts of this session's own.
import Derived.Test.YtpddppipjlagfaaPrx0
import Derived.Test.YtpddppipjlagfaaLinSorted
namespace Go.Proofs.Ytpddppipjlagfaa.Pr
open Go.RowKit Go.Proofs.YtpddppipjlagfaaW.PrintWords Go.Proofs.YtpddppipjlagfaaW.PrintLast Go.Proofs.YtpddppipjlagfaaW.PrintMore
attribute [local go_sem] max2_int min2_int max_two min_two max_three min_three max_four min_four   -- for this text's walks alone
set_option linter.unusedVariables false
set_option linter.unusedSimpArgs false

/-! ### rickyardlaw27_Sorted: function 15 (a contract of this session's own) -/
def rickyardlaw27_Sorted.f (l0 : List S40) : Option (List Int) := if l0.length ≤ 500 then some (Pure.sortF l0) else none
theorem rickyardlaw27_Sorted.calls (A0 : Option Addr) (c0 : Nat) (l0 : List S40) (r : List Int) (w : World) (hr0 : Kd.C k40 w A0 l0.length l0) (hc0 : l0.length ≤ c0) (h : rickyardlaw27_Sorted.f l0 = some r) :
  Calls Try.prog 15 #[.slice A0 l0.length c0] w fun e w' => ∃ v0_ : Value, e = .returned (v0_) ∧ Kd.R (Kd.int .i64) 3 w' w.heap.size (fun _ => True) v0_ r ∧ Below w.heap.size w w' := by
 unfold rickyardlaw27_Sorted.f at h
 split at h
 next hl =>
  cases h
  exact sorted_any A0 c0 l0 w hr0 hc0 hl
 next => cases h

end Go.Proofs.Ytpddppipjlagfaa.Pr
