-- Printed by a program of this session (wip/tools/myprint.py) that runs the kit's print with contracts of this session's own.
import Derived.Test.YtpddppipjlagfaaPrx0
import Derived.Test.YtpddppipjlagfaaLinGiven
import Derived.Test.YtpddppipjlagfaaLinOrder
namespace Go.Proofs.Ytpddppipjlagfaa.Pr
open Go.RowKit Go.Proofs.YtpddppipjlagfaaW.PrintWords Go.Proofs.YtpddppipjlagfaaW.PrintLast Go.Proofs.YtpddppipjlagfaaW.PrintMore
attribute [local go_sem] max2_int min2_int max_two min_two max_three min_three max_four min_four   -- for this text's walks alone
set_option linter.unusedVariables false
set_option linter.unusedSimpArgs false

/-! ### lin_Fits: function 14 (a contract of this session's own) -/
def lin_Fits.f (a0 : Int) (l1 : List S40) (l2 : List Int) : Option Bool := if (0 ≤ a0 ∧ a0 ≤ 16384) ∧ l1.length ≤ 500 ∧ l2.length ≤ 1000 then some (fitsB a0 l1 l2) else none
theorem lin_Fits.calls (a0 : Int) (A1 : Option Addr) (c1 : Nat) (l1 : List S40) (A2 : Option Addr) (c2 : Nat) (l2 : List Int) (r : Bool) (w : World) (hr1 : Kd.C k40 w A1 l1.length l1) (hc1 : l1.length ≤ c1) (hr2 : Kd.C (Kd.int .i64) w A2 l2.length l2) (hc2 : l2.length ≤ c2) (h : lin_Fits.f a0 l1 l2 = some r) :
  Calls Try.prog 14 #[.int .i64 a0, .slice A1 l1.length c1, .slice A2 l2.length c2] w fun e w' => e = .returned (.bool r) ∧ Below w.heap.size w w' := by
 unfold lin_Fits.f at h
 split at h
 next hl =>
  cases h
  exact fits_any a0 A1 c1 l1 A2 c2 l2 w ⟨hl.1.1, hl.1.2⟩ hr1 hc1 hr2 hc2 hl.2.1 hl.2.2
 next => cases h

end Go.Proofs.Ytpddppipjlagfaa.Pr
