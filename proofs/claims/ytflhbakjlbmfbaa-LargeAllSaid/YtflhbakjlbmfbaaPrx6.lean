-- Printed by a program of this session (wip/tools/myprint.py) that runs the kit's print with contracts of this session's own.
import Derived.Test.YtflhbakjlbmfbaaPrx0
import Derived.Test.YtflhbakjlbmfbaaShort
import Derived.Test.YtflhbakjlbmfbaaSizeOver
namespace Go.Proofs.Ytflhbakjlbmfbaa.Pr
open Go.RowKit Go.Proofs.YtflhbakjlbmfbaaW.PrintWords Go.Proofs.YtflhbakjlbmfbaaW.PrintLast Go.Proofs.YtflhbakjlbmfbaaW.PrintMore
attribute [local go_sem] max2_int min2_int max_two min_two max_three min_three max_four min_four   -- for this text's walks alone
set_option linter.unusedVariables false
set_option linter.unusedSimpArgs false

/-! ### size_of: function 81 (a contract of this session's own) -/
def size_of.f (a0 : Int) : Option (Int × Int × Int × Int) := some (sizeRow a0)
theorem size_of.calls (a0 : Int) (r1 r2 r3 r4 : Int) (w : World) (h : size_of.f a0 = some (r1, r2, r3, r4)) :
  Calls Try.prog 81 #[.int .i64 a0] w fun e w' => e = .returned (.agg #[.int .i64 r1, .int .i64 r2, .int .i64 r3, .int .i64 r4]) ∧ Below w.heap.size w w' := by
 have h1 := Option.some.inj h
 have h2 := size_any a0 w
 unfold SizePost at h2
 rw [h1] at h2
 exact h2

end Go.Proofs.Ytflhbakjlbmfbaa.Pr
