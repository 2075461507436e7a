/- Several texts in one: Prx4, Prx6. -/
import Derived.Test.YtpddppipjlagfaaPrx0
import Derived.Test.YtpddppipjlagfaaSizeOver
import Derived.Test.YtpddppipjlagfaaOver
-- Printed by a program of this session (wip/tools/myprint.py) that runs the kit's print with contracts of this session's own.
namespace Go.Proofs.Ytpddppipjlagfaa.Pr
open Go.RowKit Go.Proofs.YtpddppipjlagfaaW.PrintWords Go.Proofs.YtpddppipjlagfaaW.PrintLast Go.Proofs.YtpddppipjlagfaaW.PrintMore
attribute [local go_sem] max2_int min2_int max_two min_two max_three min_three max_four min_four   -- for this text's walks alone
set_option linter.unusedVariables false
set_option linter.unusedSimpArgs false

/-! ### size_of: function 53 (a contract of this session's own) -/
def size_of.f (a0 : Int) : Option (Int × Int × Int × Int) := some (sizeRow a0)
theorem size_of.calls (a0 : Int) (r1 r2 r3 r4 : Int) (w : World) (h : size_of.f a0 = some (r1, r2, r3, r4)) :
  Calls Try.prog 53 #[.int .i64 a0] w fun e w' => e = .returned (.agg #[.int .i64 r1, .int .i64 r2, .int .i64 r3, .int .i64 r4]) ∧ Below w.heap.size w w' := by
 have h1 := Option.some.inj h
 have h2 := size_any a0 w
 unfold SizePost at h2
 rw [h1] at h2
 exact h2

end Go.Proofs.Ytpddppipjlagfaa.Pr

-- Printed by a program of this session (wip/tools/myprint.py) that runs the kit's print with contracts of this session's own.
namespace Go.Proofs.Ytpddppipjlagfaa.Pr
open Go.RowKit Go.Proofs.YtpddppipjlagfaaW.PrintWords Go.Proofs.YtpddppipjlagfaaW.PrintLast Go.Proofs.YtpddppipjlagfaaW.PrintMore
attribute [local go_sem] max2_int min2_int max_two min_two max_three min_three max_four min_four   -- for this text's walks alone
set_option linter.unusedVariables false
set_option linter.unusedSimpArgs false

/-! ### num_Over: function 66 (a contract of this session's own) -/
def num_Over.f (a0 a1 a2 a3 : Int) : Option (Bool) := some (overS a0 a1 a2 a3)
theorem num_Over.calls (a0 a1 a2 a3 : Int) (r : Bool) (w : World) (h : num_Over.f a0 a1 a2 a3 = some r) :
  Calls Try.prog 66 #[.int .i64 a0, .int .i64 a1, .int .i64 a2, .int .i64 a3] w fun e w' => e = .returned (.bool r) ∧ Drawn0 w w' := by
 obtain rfl := Option.some.inj h
 exact over_any a0 a1 a2 a3 w

end Go.Proofs.Ytpddppipjlagfaa.Pr
