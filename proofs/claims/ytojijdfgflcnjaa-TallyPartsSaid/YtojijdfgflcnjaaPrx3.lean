-- Printed by a program of this session (wip/tools/myprint.py) that runs the kit's print with contracts of this session's own.
import Derived.Test.YtojijdfgflcnjaaPrx0
import Derived.Test.YtojijdfgflcnjaaConcat
namespace Go.Proofs.Ytojijdfgflcnjaa.Pr
open Go.RowKit Go.Proofs.YtojijdfgflcnjaaW.PrintWords Go.Proofs.YtojijdfgflcnjaaW.PrintLast Go.Proofs.YtojijdfgflcnjaaW.PrintMore
attribute [local go_sem] max2_int min2_int max_two min_two max_three min_three max_four min_four   -- for this text's walks alone
set_option linter.unusedVariables false
set_option linter.unusedSimpArgs false

/-! ### api_Piece: function 58 (a contract of this session's own) -/
def api_Piece.f (l0 : List (List S78)) : Option (List S78) := if l0.length ≤ 1000000 ∧ l0.flatten.length * 16 ≤ 140737488355328 then some l0.flatten else none
theorem api_Piece.calls (A0 : Option Addr) (c0 : Nat) (l0 : List (List S78)) (r : List S78) (w : World) (hr0 : Kd.C (Kd.slice 78 k78) w A0 l0.length l0) (hc0 : l0.length ≤ c0) (h : api_Piece.f l0 = some r) :
  Calls Try.prog 58 #[.slice A0 l0.length c0] w fun e w' => ∃ v0_ : Value, e = .returned (v0_) ∧ Kd.R k78 78 w' w.heap.size (fun _ => True) v0_ r ∧ Below w.heap.size w w' := by
 unfold api_Piece.f at h
 split at h
 next hl =>
  cases h
  exact concat_any A0 c0 l0 w hr0 hc0 hl.1 hl.2
 next => cases h

end Go.Proofs.Ytojijdfgflcnjaa.Pr
