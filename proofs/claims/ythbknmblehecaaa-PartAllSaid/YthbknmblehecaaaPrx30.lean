-- Printed by a program of this session (wip/tools/myprint.py) that runs the kit's print with contracts of this session's own.
import Derived.Test.YthbknmblehecaaaPrx0
import Derived.Test.YthbknmblehecaaaPartSort
namespace Go.Proofs.Ythbknmblehecaaa.Pr
open Go.RowKit Go.Proofs.YthbknmblehecaaaW.PrintWords Go.Proofs.YthbknmblehecaaaW.PrintLast Go.Proofs.YthbknmblehecaaaW.PrintMore
attribute [local go_sem] max2_int min2_int max_two min_two max_three min_three max_four min_four   -- for this text's walks alone
set_option linter.unusedVariables false
set_option linter.unusedSimpArgs false

/-! ### rickyardref13_Sort: function 60 (a contract of this session's own) -/
def rickyardref13_Sort.f (l0 : List S58) : Option (List S58) := if l0.length ≤ 100000 then some (Pure.sortP l0) else none
theorem rickyardref13_Sort.calls (A0 : Option Addr) (c0 : Nat) (l0 : List S58) (r : List S58) (w : World) (hr0 : Kd.C k58 w A0 l0.length l0) (hc0 : l0.length ≤ c0) (h : rickyardref13_Sort.f l0 = some r) :
  Calls Try.prog 60 #[.slice A0 l0.length c0] w fun e w' => ∃ v0_ : Value, e = .returned (v0_) ∧ Kd.R k58 58 w' w.heap.size (fun _ => True) v0_ r ∧ Below w.heap.size w w' := by
 unfold rickyardref13_Sort.f at h
 split at h
 next hl =>
  cases h
  exact sort_any A0 c0 l0 w hr0 hc0 hl
 next => cases h

end Go.Proofs.Ythbknmblehecaaa.Pr
