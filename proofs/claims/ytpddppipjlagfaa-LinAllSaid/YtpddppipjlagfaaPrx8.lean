/- Several texts in one: Prx8, Prx11. -/
import Derived.Test.YtpddppipjlagfaaPrx0
import Derived.Test.YtpddppipjlagfaaModelClo
-- Printed by a program of this session (wip/tools/myprint.py) that runs the kit's print with contracts of this session's own.
namespace Go.Proofs.Ytpddppipjlagfaa.Pr
open Go.RowKit Go.Proofs.YtpddppipjlagfaaW.PrintWords Go.Proofs.YtpddppipjlagfaaW.PrintLast Go.Proofs.YtpddppipjlagfaaW.PrintMore
attribute [local go_sem] max2_int min2_int max_two min_two max_three min_three max_four min_four   -- for this text's walks alone
set_option linter.unusedVariables false
set_option linter.unusedSimpArgs false

/-! ### model_place: function 54 (a contract of this session's own) -/
def model_place.f (l0 : List (S59)) (a1 : Int) : Option (Int × Bool) := if l0.length ≤ 17592186044416 then some ((bsI (liveAt a1) l0 0 l0.length : Nat), bsB (liveAt a1) l0) else none
theorem model_place.calls (A0 : Option Addr) (c0 : Nat) (l0 : List (S59)) (a1 : Int) (r1 : Int) (r2 : Bool) (w : World) (hr0 : Kd.C k59 w A0 l0.length l0) (hc0 : l0.length ≤ c0) (h : model_place.f l0 a1 = some (r1, r2)) :
  Calls Try.prog 54 #[.slice A0 l0.length c0, .int .i64 a1] w fun e w' => e = .returned (.tuple #[.int .i64 r1, .bool r2]) ∧ Below w.heap.size w w' := by
 unfold model_place.f at h
 split at h
 next hl =>
  have h2 := place_any A0 c0 l0 a1 w hr0 hl
  cases h
  exact h2
 next => cases h

end Go.Proofs.Ytpddppipjlagfaa.Pr

-- Printed by a program of this session (wip/tools/myprint.py) that runs the kit's print with contracts of this session's own.
namespace Go.Proofs.Ytpddppipjlagfaa.Pr
open Go.RowKit Go.Proofs.YtpddppipjlagfaaW.PrintWords Go.Proofs.YtpddppipjlagfaaW.PrintLast Go.Proofs.YtpddppipjlagfaaW.PrintMore
attribute [local go_sem] max2_int min2_int max_two min_two max_three min_three max_four min_four   -- for this text's walks alone
set_option linter.unusedVariables false
set_option linter.unusedSimpArgs false

/-! ### api_Live_56_57: function 56 with 57 (a contract of this session's own) -/
def api_Live_56_57.f (l0 : List (S59)) (a1_0 a1_1 a1_2 : Int) : Option (Bool) := if l0.length ≤ 17592186044416 then some (l0.any (liveOver ⟨a1_0, a1_1, a1_2⟩)) else none
theorem api_Live_56_57.calls (A0 : Option Addr) (c0 : Nat) (l0 : List (S59)) (g1_ : Nat) (a1_0 a1_1 a1_2 : Int) (r : Bool) (w : World) (hr0 : Kd.C k59 w A0 l0.length l0) (hc0 : l0.length ≤ c0) (hk1 : w.heap[g1_]? = some (.cells #[.int .i64 a1_0, .int .i64 a1_1, .int .i64 a1_2] 59 (0, 0))) (h : api_Live_56_57.f l0 a1_0 a1_1 a1_2 = some r) :
  Calls Try.prog 56 #[.slice A0 l0.length c0, .func (.func 57) #[] #[.pointer (some ⟨g1_, 0, none⟩)]] w fun e w' => e = .returned (.bool r) ∧ Below w.heap.size w w' := by
 unfold api_Live_56_57.f at h
 split at h
 next hl =>
  obtain rfl := Option.some.inj h
  exact contains_liveAlloc A0 c0 l0 g1_ a1_0 a1_1 a1_2 w hr0 hl hk1
 next => cases h

end Go.Proofs.Ytpddppipjlagfaa.Pr
