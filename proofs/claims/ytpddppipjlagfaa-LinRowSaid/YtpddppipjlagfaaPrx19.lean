-- Printed by a program of this session (wip/tools/myprint.py) that runs the kit's print with contracts of this session's own.
import Derived.Test.YtpddppipjlagfaaPrx0
import Derived.Test.YtpddppipjlagfaaPrx26
namespace Go.Proofs.Ytpddppipjlagfaa.Pr
open Go.RowKit Go.Proofs.YtpddppipjlagfaaW.PrintWords Go.Proofs.YtpddppipjlagfaaW.PrintLast Go.Proofs.YtpddppipjlagfaaW.PrintMore
attribute [local go_sem] max2_int min2_int max_two min_two max_three min_three max_four min_four   -- for this text's walks alone
set_option linter.unusedVariables false
set_option linter.unusedSimpArgs false

/-! ### model_Accepts: function 16 (a contract of this session's own) -/
def model_Accepts.f (a0_0 : Int) (l0_1 : List S59) (l1 : List S38) : Option (Int × List S59 × Int × Bool) := if (0 ≤ a0_0 ∧ a0_0 ≤ 16384) ∧ l0_1.length = 0 ∧ l1.length ≤ 1000 then some (a0_0, (Pure.accsL a0_0 [] l1).1, ((Pure.accsL a0_0 [] l1).2.1 : Nat), (Pure.accsL a0_0 [] l1).2.2) else none
theorem model_Accepts.calls (a0_0 : Int) (A0_1 : Option Addr) (c0_1 : Nat) (l0_1 : List S59) (A1 : Option Addr) (c1 : Nat) (l1 : List S38) (r1 : Int) (r2 : List S59) (r3 : Int) (r4 : Bool) (w : World) (hr0_1 : Kd.C k59 w A0_1 l0_1.length l0_1) (hc0_1 : l0_1.length ≤ c0_1) (hr1 : Kd.C k38 w A1 l1.length l1) (hc1 : l1.length ≤ c1) (h : model_Accepts.f a0_0 l0_1 l1 = some (r1, r2, r3, r4)) :
  Calls Try.prog 16 #[.agg #[.int .i64 a0_0, .slice A0_1 l0_1.length c0_1], .slice A1 l1.length c1] w fun e w' => ∃ v1_ : Value, e = .returned (.tuple #[.agg #[.int .i64 r1, v1_], .int .i64 r3, .bool r4]) ∧ Kd.V k59 59 w' w.heap.size (fun k_ => (w.heap.size ≤ k_)) v1_ r2 ∧ Below w.heap.size w w' := by
 unfold model_Accepts.f at h
 split at h
 next hl =>
  obtain ⟨⟨h1, h2⟩, h3, h4⟩ := hl
  cases h
  obtain rfl := List.eq_nil_of_length_eq_zero h3
  refine (accepts_any a0_0 A0_1 c0_1 [] A1 c1 l1 w ⟨h1, h2⟩ (by trivial) (by simpa using h4) hr0_1 hc0_1 hr1 hc1).mono (fun e w' h => ?_)
  unfold AccPost at h
  obtain ⟨A', c', h5, h6, h7, h8⟩ := h
  exact ⟨_, h5, ⟨A', c', rfl, h6, h7⟩, h8⟩
 next => cases h

end Go.Proofs.Ytpddppipjlagfaa.Pr
