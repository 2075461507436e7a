/- Several texts in one: Prx10, Prx15. -/
import Derived.Test.YtflhbakjlbmfbaaPrx0
import Derived.Test.YtflhbakjlbmfbaaShort
import Derived.Test.YtflhbakjlbmfbaaBigRows
-- Printed by a program of this session (wip/tools/myprint.py) that runs the kit's print with contracts of this session's own.
namespace Go.Proofs.Ytflhbakjlbmfbaa.Pr
open Go.RowKit Go.Proofs.YtflhbakjlbmfbaaW.PrintWords Go.Proofs.YtflhbakjlbmfbaaW.PrintLast Go.Proofs.YtflhbakjlbmfbaaW.PrintMore
attribute [local go_sem] max2_int min2_int max_two min_two max_three min_three max_four min_four   -- for this text's walks alone
set_option linter.unusedVariables false
set_option linter.unusedSimpArgs false

/-! ### api_Big_45: function 45 (a contract of this session's own) -/
def api_Big_45.f (l0 : List (S29)) (a1 : Int) (l2 : List (S29)) : Option (List (S29)) := ins_big l0 a1 l2
theorem api_Big_45.calls (P0_ : Nat → Prop) (u0_ : Value) (l0 : List (S29)) (a1 : Int) (P2_ : Nat → Prop) (u2_ : Value) (l2 : List (S29)) (r : List (S29)) (w0 w : World) (hB : Below w0.heap.size w0 w) (ho0 : Kd.R k29 29 w w0.heap.size P0_ u0_ l0) (hp0_2 : ∀ k_, P0_ k_ → ¬ P2_ k_) (ho2 : Kd.R k29 29 w w0.heap.size P2_ u2_ l2) (hp2_0 : ∀ k_, P2_ k_ → ¬ P0_ k_) (h : api_Big_45.f l0 a1 l2 = some r) :
  Calls Try.prog 45 #[u0_, .int .i64 a1, u2_] w fun e w' => ∃ v0_ : Value, e = .returned (v0_) ∧ Kd.R k29 29 w' w0.heap.size (fun k_ => ((P0_ k_ ∨ P2_ k_) ∨ w.heap.size ≤ k_)) v0_ r ∧ Below w0.heap.size w0 w' ∧ Kept w w' (fun k_ => P0_ k_ ∨ P2_ k_) :=
 insertOwn_big P0_ u0_ l0 a1 P2_ u2_ l2 r w0 w hB ho0 hp0_2 ho2 h

end Go.Proofs.Ytflhbakjlbmfbaa.Pr

-- Printed by a program of this session (wip/tools/myprint.py) that runs the kit's print with contracts of this session's own.
namespace Go.Proofs.Ytflhbakjlbmfbaa.Pr
open Go.RowKit Go.Proofs.YtflhbakjlbmfbaaW.PrintWords Go.Proofs.YtflhbakjlbmfbaaW.PrintLast Go.Proofs.YtflhbakjlbmfbaaW.PrintMore
attribute [local go_sem] max2_int min2_int max_two min_two max_three min_three max_four min_four   -- for this text's walks alone
set_option linter.unusedVariables false
set_option linter.unusedSimpArgs false

/-! ### api_Big_49: function 49 (a contract of this session's own) -/
def api_Big_49.f (l0 : List (S29)) (a1 a2 : Int) : Option (List (S29)) := del_big l0 a1 a2
theorem api_Big_49.calls (P0_ : Nat → Prop) (u0_ : Value) (l0 : List (S29)) (a1 a2 : Int) (r : List (S29)) (w0 w : World) (hB : Below w0.heap.size w0 w) (ho0 : Kd.R k29 29 w w0.heap.size P0_ u0_ l0) (h : api_Big_49.f l0 a1 a2 = some r) :
  Calls Try.prog 49 #[u0_, .int .i64 a1, .int .i64 a2] w fun e w' => ∃ v0_ : Value, e = .returned (v0_) ∧ Kd.R k29 29 w' w0.heap.size (fun k_ => (P0_ k_ ∨ w.heap.size ≤ k_)) v0_ r ∧ Below w0.heap.size w0 w' ∧ Kept w w' (fun k_ => P0_ k_) :=
 deleteOwn_big P0_ u0_ l0 a1 a2 r w0 w hB ho0 h

end Go.Proofs.Ytflhbakjlbmfbaa.Pr
