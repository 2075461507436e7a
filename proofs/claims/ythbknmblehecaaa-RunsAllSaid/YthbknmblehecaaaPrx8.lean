-- Printed by a program of this session (wip/tools/myprint.py) that runs the kit's print with contracts of this session's own.
import Derived.Test.YthbknmblehecaaaPrx0
import Derived.Test.YthbknmblehecaaaRunHas
namespace Go.Proofs.Ythbknmblehecaaa.Pr
open Go.RowKit Go.Proofs.YthbknmblehecaaaW.PrintWords Go.Proofs.YthbknmblehecaaaW.PrintLast Go.Proofs.YthbknmblehecaaaW.PrintMore
attribute [local go_sem] max2_int min2_int max_two min_two max_three min_three max_four min_four   -- for this text's walks alone
set_option linter.unusedVariables false
set_option linter.unusedSimpArgs false

/-! ### runs_Has: function 19 (a contract of this session's own) -/
def runs_Has.f (l0 : List (S32)) (a1 : Int) : Option (Bool) := if l0.length ≤ 17592186044416 then some (l0.any (inRun a1)) else none
theorem runs_Has.calls (A0 : Option Addr) (c0 : Nat) (l0 : List (S32)) (a1 : Int) (r : Bool) (w : World) (hr0 : Kd.C k32 w A0 l0.length l0) (hc0 : l0.length ≤ c0) (h : runs_Has.f l0 a1 = some r) :
  Calls Try.prog 19 #[.slice A0 l0.length c0, .int .i64 a1] w fun e w' => e = .returned (.bool r) ∧ Below w.heap.size w w' := by
 unfold runs_Has.f at h
 split at h
 next hl =>
  obtain rfl := Option.some.inj h
  exact has_any A0 c0 l0 a1 w hr0 hl
 next => cases h

end Go.Proofs.Ythbknmblehecaaa.Pr
