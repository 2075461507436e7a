-- Printed by a program of this session (wip/tools/myprint.py) that runs the kit's print with contracts of this session's own.
import Derived.Test.YtpddppipjlagfaaPrx0
import Derived.Test.YtpddppipjlagfaaLinOpsCall
namespace Go.Proofs.Ytpddppipjlagfaa.Pr
open Go.RowKit Go.Proofs.YtpddppipjlagfaaW.PrintWords Go.Proofs.YtpddppipjlagfaaW.PrintLast Go.Proofs.YtpddppipjlagfaaW.PrintMore
attribute [local go_sem] max2_int min2_int max_two min_two max_three min_three max_four min_four   -- for this text's walks alone
set_option linter.unusedVariables false
set_option linter.unusedSimpArgs false

/-! ### rickyardlaw27_Ops: function 12 (a contract of this session's own) -/
def rickyardlaw27_Ops.f (k : Nat) (a0 : Int) (l1 l2 : List Int) : Option (List S40) := if (0 ≤ a0 ∧ a0 ≤ 16384) ∧ l1.length ≤ 140737488351232 ∧ l1.all (fun x => (Lit.int .u8 x).wf) = true ∧ l2.all (fun x => (Lit.int .u8 x).wf) = true then some (Pure.opsF a0 l1 l2) else none
theorem rickyardlaw27_Ops.mono : ∀ a0 a1 a2 k, LeO (rickyardlaw27_Ops.f k a0 a1 a2) (rickyardlaw27_Ops.f (k + 1) a0 a1 a2) := fun _ _ _ _ => LeO.refl _
theorem rickyardlaw27_Ops.calls (k : Nat) (a0 : Int) (A1 : Option Addr) (c1 : Nat) (l1 : List Int) (A2 : Option Addr) (c2 : Nat) (l2 : List Int) (r : List S40) (w : World) (hr1 : Kd.C (Kd.int .u8) w A1 l1.length l1) (hc1 : l1.length ≤ c1) (hr2 : Kd.C (Kd.int .u8) w A2 l2.length l2) (hc2 : l2.length ≤ c2) (h : rickyardlaw27_Ops.f k a0 l1 l2 = some r) :
  Calls Try.prog 12 #[.int .i64 a0, .slice A1 l1.length c1, .slice A2 l2.length c2] w fun e w' => ∃ v0_ : Value, e = .returned (v0_) ∧ Kd.R k40 40 w' w.heap.size (fun _ => True) v0_ r ∧ Below w.heap.size w w' := by
 unfold rickyardlaw27_Ops.f at h
 split at h
 next hl =>
  cases h
  exact ops_any a0 A1 c1 l1 A2 c2 l2 w ⟨hl.1.1, hl.1.2⟩ hr1 hc1 (List.all_eq_true.1 hl.2.2.1) hl.2.1 hr2 (List.all_eq_true.1 hl.2.2.2)
 next => cases h

end Go.Proofs.Ytpddppipjlagfaa.Pr
