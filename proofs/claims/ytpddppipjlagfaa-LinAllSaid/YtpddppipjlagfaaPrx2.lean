-- Printed by a program of this session (wip/tools/myprint.py) that runs the kit's print with contracts of this session's own.
import Derived.Test.YtpddppipjlagfaaPrx0
import Derived.Test.YtpddppipjlagfaaOpFunc
import Derived.Test.YtpddppipjlagfaaPrx1
namespace Go.Proofs.Ytpddppipjlagfaa.Pr
open Go.RowKit Go.Proofs.YtpddppipjlagfaaW.PrintWords Go.Proofs.YtpddppipjlagfaaW.PrintLast Go.Proofs.YtpddppipjlagfaaW.PrintMore
attribute [local go_sem] max2_int min2_int max_two min_two max_three min_three max_four min_four   -- for this text's walks alone
set_option linter.unusedVariables false
set_option linter.unusedSimpArgs false

/-! ### api_Op_31_32: function 31 with 32 (a contract of this session's own) -/
def api_Op_31_32.bad (x : S40) : Bool := decide (x.f1 < 0) || (decide (2147483648 < x.f1) || (decide (x.f2 ≠ -1) && (decide (x.f2 < x.f1) || decide (2147483648 < x.f2))))
theorem api_Op_31_32.bad_is (x : S40) : lin_May_1.f x.f0.f0 x.f0.f1 x.f0.f2 x.f0.f3 x.f1 x.f2 = some (api_Op_31_32.bad x) := by
 unfold lin_May_1.f api_Op_31_32.bad
 by_cases c1 : x.f1 < 0
 ·rw [if_pos c1, decide_eq_true c1, Bool.true_or]
 ·rw [if_neg c1, decide_eq_false c1, Bool.false_or]
  by_cases c2 : x.f1 > 2147483648
  ·rw [if_pos c2, decide_eq_true (show 2147483648 < x.f1 from c2), Bool.true_or]
  ·rw [if_neg c2, decide_eq_false (show ¬ 2147483648 < x.f1 from c2), Bool.false_or]
   unfold lin_ended.f
   rw [Option.bind_some]
   by_cases c3 : x.f2 = -1
   ·rw [if_neg (by simp [c3]), decide_eq_false (by simp [c3]), Bool.false_and]
   ·rw [if_pos (by simp [c3]), decide_eq_true c3, Bool.true_and]
    by_cases c4 : x.f2 < x.f1
    ·rw [if_pos c4, decide_eq_true c4, Bool.true_or]
    ·rw [if_neg c4, decide_eq_false c4, Bool.false_or]
def api_Op_31_32.f (l0 : List (S40)) : Option (Bool) := if l0.length ≤ 17592186044416 then some (l0.any api_Op_31_32.bad) else none
theorem api_Op_31_32.calls (A0 : Option Addr) (c0 : Nat) (l0 : List (S40)) (r : Bool) (w : World) (hr0 : Kd.C k40 w A0 l0.length l0) (hc0 : l0.length ≤ c0) (h : api_Op_31_32.f l0 = some r) :
  Calls Try.prog 31 #[.slice A0 l0.length c0, .func (.func 32) #[] #[]] w fun e w' => e = .returned (.bool r) ∧ Below w.heap.size w w' := by
 unfold api_Op_31_32.f at h
 split at h
 next hl =>
  obtain rfl := Option.some.inj h
  exact contains_op api_Op_31_32.bad 32 #[] A0 c0 l0 w (enters_of Try.func32 (by kernel_rfl) rfl) hr0 hl (fun W hW x => by simpa using lin_May_1.calls _ _ _ _ _ _ _ W (api_Op_31_32.bad_is x))
 next => cases h

end Go.Proofs.Ytpddppipjlagfaa.Pr
