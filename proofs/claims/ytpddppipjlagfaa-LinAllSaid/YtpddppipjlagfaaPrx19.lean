-- Printed by a program of this session (wip/tools/myprint.py) that runs the kit's print with contracts of this session's own.
import Derived.Test.YtpddppipjlagfaaPrx0
import Derived.Test.YtpddppipjlagfaaRefAlloc
namespace Go.Proofs.Ytpddppipjlagfaa.Pr
open Go.RowKit Go.Proofs.YtpddppipjlagfaaW.PrintWords Go.Proofs.YtpddppipjlagfaaW.PrintLast Go.Proofs.YtpddppipjlagfaaW.PrintMore
attribute [local go_sem] max2_int min2_int max_two min_two max_three min_three max_four min_four   -- for this text's walks alone
set_option linter.unusedVariables false
set_option linter.unusedSimpArgs false

/-! ### rickyardref13_Alloc: function 39 (a contract of this session's own) -/
def rickyardref13_Alloc.f (a0_0 : Int) (l0_1 : List S59) (a1 a2 : Int) : Option (Int × List S59 × Bool) := if l0_1.length ≤ 1000 then some (rallocG a0_0 l0_1 a1 a2) else none
theorem rickyardref13_Alloc.calls (a0_0 : Int) (A0_1 : Option Addr) (c0_1 : Nat) (l0_1 : List S59) (a1 a2 : Int) (r1 : Int) (r2 : List S59) (r3 : Bool) (w : World) (hr0_1 : Kd.C k59 w A0_1 l0_1.length l0_1) (hc0_1 : l0_1.length ≤ c0_1) (h : rickyardref13_Alloc.f a0_0 l0_1 a1 a2 = some (r1, r2, r3)) :
  Calls Try.prog 39 #[.agg #[.int .i64 a0_0, .slice A0_1 l0_1.length c0_1], .int .i64 a1, .int .i64 a2] w fun e w' => ∃ v1_ : Value, e = .returned (.tuple #[.agg #[.int .i64 r1, v1_], .bool r3]) ∧ Kd.R k59 59 w' w.heap.size (fun _ => True) v1_ r2 ∧ Below w.heap.size w w' := by
 unfold rickyardref13_Alloc.f at h
 split at h
 next hl =>
  have h1 := Option.some.inj h
  have h2 := ralloc_any a0_0 A0_1 c0_1 l0_1 a1 a2 w hr0_1 hc0_1 hl
  unfold RAllocPost at h2
  rw [h1] at h2
  exact h2
 next => cases h

end Go.Proofs.Ytpddppipjlagfaa.Pr
