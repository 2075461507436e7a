/- Several texts in one: Prx10, Prx13. -/
import Derived.Test.YtpddppipjlagfaaPrx0
import Derived.Test.YtpddppipjlagfaaLiveRows
-- Printed by a program of this session (wip/tools/myprint.py) that runs the kit's print with contracts of this session's own.
namespace Go.Proofs.Ytpddppipjlagfaa.Pr
open Go.RowKit Go.Proofs.YtpddppipjlagfaaW.PrintWords Go.Proofs.YtpddppipjlagfaaW.PrintLast Go.Proofs.YtpddppipjlagfaaW.PrintMore
attribute [local go_sem] max2_int min2_int max_two min_two max_three min_three max_four min_four   -- for this text's walks alone
set_option linter.unusedVariables false
set_option linter.unusedSimpArgs false

/-! ### api_Live_59: function 59 (a contract of this session's own) -/
def api_Live_59.f (l0 : List (S59)) (a1 : Int) (l2 : List (S59)) : Option (List (S59)) := ins_live l0 a1 l2
theorem api_Live_59.calls (P0_ : Nat → Prop) (u0_ : Value) (l0 : List (S59)) (a1 : Int) (P2_ : Nat → Prop) (u2_ : Value) (l2 : List (S59)) (r : List (S59)) (w0 w : World) (hB : Below w0.heap.size w0 w) (ho0 : Kd.R k59 59 w w0.heap.size P0_ u0_ l0) (hp0_2 : ∀ k_, P0_ k_ → ¬ P2_ k_) (ho2 : Kd.R k59 59 w w0.heap.size P2_ u2_ l2) (hp2_0 : ∀ k_, P2_ k_ → ¬ P0_ k_) (h : api_Live_59.f l0 a1 l2 = some r) :
  Calls Try.prog 59 #[u0_, .int .i64 a1, u2_] w fun e w' => ∃ v0_ : Value, e = .returned (v0_) ∧ Kd.R k59 59 w' w0.heap.size (fun k_ => ((P0_ k_ ∨ P2_ k_) ∨ w.heap.size ≤ k_)) v0_ r ∧ Below w0.heap.size w0 w' ∧ Kept w w' (fun k_ => P0_ k_ ∨ P2_ k_) :=
 insertOwn_live P0_ u0_ l0 a1 P2_ u2_ l2 r w0 w hB ho0 hp0_2 ho2 h

end Go.Proofs.Ytpddppipjlagfaa.Pr

-- Printed by a program of this session (wip/tools/myprint.py) that runs the kit's print with contracts of this session's own.
namespace Go.Proofs.Ytpddppipjlagfaa.Pr
open Go.RowKit Go.Proofs.YtpddppipjlagfaaW.PrintWords Go.Proofs.YtpddppipjlagfaaW.PrintLast Go.Proofs.YtpddppipjlagfaaW.PrintMore
attribute [local go_sem] max2_int min2_int max_two min_two max_three min_three max_four min_four   -- for this text's walks alone
set_option linter.unusedVariables false
set_option linter.unusedSimpArgs false

/-! ### api_Live_60: function 60 (a contract of this session's own) -/
def api_Live_60.f (l0 : List (S59)) (a1 a2 : Int) : Option (List (S59)) := del_live l0 a1 a2
theorem api_Live_60.calls (P0_ : Nat → Prop) (u0_ : Value) (l0 : List (S59)) (a1 a2 : Int) (r : List (S59)) (w0 w : World) (hB : Below w0.heap.size w0 w) (ho0 : Kd.R k59 59 w w0.heap.size P0_ u0_ l0) (h : api_Live_60.f l0 a1 a2 = some r) :
  Calls Try.prog 60 #[u0_, .int .i64 a1, .int .i64 a2] w fun e w' => ∃ v0_ : Value, e = .returned (v0_) ∧ Kd.R k59 59 w' w0.heap.size (fun k_ => (P0_ k_ ∨ w.heap.size ≤ k_)) v0_ r ∧ Below w0.heap.size w0 w' ∧ Kept w w' (fun k_ => P0_ k_) :=
 deleteOwn_live P0_ u0_ l0 a1 a2 r w0 w hB ho0 h

end Go.Proofs.Ytpddppipjlagfaa.Pr
