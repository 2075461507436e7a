/- Several texts in one: Prx12, Prx13, Prx16, Prx32. -/
import Derived.Test.YtflhbakjlbmfbaaPrx0
import Derived.Test.YtflhbakjlbmfbaaShort
import Derived.Test.YtflhbakjlbmfbaaLargeClo
-- Printed by a program of this session (wip/tools/myprint.py) that runs the kit's print with contracts of this session's own.
namespace Go.Proofs.Ytflhbakjlbmfbaa.Pr
open Go.RowKit Go.Proofs.YtflhbakjlbmfbaaW.PrintWords Go.Proofs.YtflhbakjlbmfbaaW.PrintLast Go.Proofs.YtflhbakjlbmfbaaW.PrintMore
attribute [local go_sem] max2_int min2_int max_two min_two max_three min_three max_four min_four   -- for this text's walks alone
set_option linter.unusedVariables false
set_option linter.unusedSimpArgs false

/-! ### api_Big_40_41: function 40 with 41 (a contract of this session's own) -/
def api_Big_40_41.f (l0 : List (S29)) (a1_0 a1_1 : Int) : Option (Bool) := if l0.length ≤ 17592186044416 then some (l0.any (bigOver ⟨a1_0, a1_1⟩)) else none
theorem api_Big_40_41.calls (A0 : Option Addr) (c0 : Nat) (l0 : List (S29)) (g1_ : Nat) (a1_0 a1_1 : Int) (r : Bool) (w : World) (hr0 : Kd.C k29 w A0 l0.length l0) (hc0 : l0.length ≤ c0) (hk1 : w.heap[g1_]? = some (.cells #[.int .i64 a1_0, .int .i64 a1_1] 29 (0, 0))) (h : api_Big_40_41.f l0 a1_0 a1_1 = some r) :
  Calls Try.prog 40 #[.slice A0 l0.length c0, .func (.func 41) #[] #[.pointer (some ⟨g1_, 0, none⟩)]] w fun e w' => e = .returned (.bool r) ∧ Below w.heap.size w w' := by
 unfold api_Big_40_41.f at h
 split at h
 next hl =>
  obtain rfl := Option.some.inj h
  exact contains_bigPut A0 c0 l0 g1_ a1_0 a1_1 w hr0 hl hk1
 next => cases h

end Go.Proofs.Ytflhbakjlbmfbaa.Pr

-- Printed by a program of this session (wip/tools/myprint.py) that runs the kit's print with contracts of this session's own.
namespace Go.Proofs.Ytflhbakjlbmfbaa.Pr
open Go.RowKit Go.Proofs.YtflhbakjlbmfbaaW.PrintWords Go.Proofs.YtflhbakjlbmfbaaW.PrintLast Go.Proofs.YtflhbakjlbmfbaaW.PrintMore
attribute [local go_sem] max2_int min2_int max_two min_two max_three min_three max_four min_four   -- for this text's walks alone
set_option linter.unusedVariables false
set_option linter.unusedSimpArgs false

/-! ### api_Big_43_44: function 43 with 44 (a contract of this session's own) -/
def api_Big_43_44.f (l0 : List (S29)) (a1_0 a1_1 : Int) : Option (Int × Bool) := if l0.length ≤ 17592186044416 then some ((bsI (bigOrder ⟨a1_0, a1_1⟩) l0 0 l0.length : Nat), bsB (bigOrder ⟨a1_0, a1_1⟩) l0) else none
theorem api_Big_43_44.calls (A0 : Option Addr) (c0 : Nat) (l0 : List (S29)) (a1_0 a1_1 : Int) (r1 : Int) (r2 : Bool) (w : World) (hr0 : Kd.C k29 w A0 l0.length l0) (hc0 : l0.length ≤ c0) (h : api_Big_43_44.f l0 a1_0 a1_1 = some (r1, r2)) :
  Calls Try.prog 43 #[.slice A0 l0.length c0, .agg #[.int .i64 a1_0, .int .i64 a1_1], .func (.func 44) #[] #[]] w fun e w' => e = .returned (.tuple #[.int .i64 r1, .bool r2]) ∧ Below w.heap.size w w' := by
 unfold api_Big_43_44.f at h
 split at h
 next hl =>
  have h1 := Option.some.inj h
  have h2 := search_bigOrder A0 c0 l0 a1_0 a1_1 w hr0 hl
  cases h1
  exact h2
 next => cases h

end Go.Proofs.Ytflhbakjlbmfbaa.Pr

-- Printed by a program of this session (wip/tools/myprint.py) that runs the kit's print with contracts of this session's own.
namespace Go.Proofs.Ytflhbakjlbmfbaa.Pr
open Go.RowKit Go.Proofs.YtflhbakjlbmfbaaW.PrintWords Go.Proofs.YtflhbakjlbmfbaaW.PrintLast Go.Proofs.YtflhbakjlbmfbaaW.PrintMore
attribute [local go_sem] max2_int min2_int max_two min_two max_three min_three max_four min_four   -- for this text's walks alone
set_option linter.unusedVariables false
set_option linter.unusedSimpArgs false

/-! ### api_Big_47_48: function 47 with 48 (a contract of this session's own) -/
def api_Big_47_48.f (l0 : List (S29)) (a1 : Int) : Option (Int) := if l0.length ≤ 17592186044416 then some (idxB (fun x : S29 => decide (x.f1 = a1)) l0 0) else none
theorem api_Big_47_48.calls (A0 : Option Addr) (c0 : Nat) (l0 : List (S29)) (g1_ : Nat) (a1 : Int) (r : Int) (w : World) (hr0 : Kd.C k29 w A0 l0.length l0) (hc0 : l0.length ≤ c0) (hk1 : w.heap[g1_]? = some (.cells #[.int .i64 a1] 3 (0, 0))) (h : api_Big_47_48.f l0 a1 = some r) :
  Calls Try.prog 47 #[.slice A0 l0.length c0, .func (.func 48) #[] #[.pointer (some ⟨g1_, 0, none⟩)]] w fun e w' => e = .returned (.int .i64 r) ∧ Below w.heap.size w w' := by
 unfold api_Big_47_48.f at h
 split at h
 next hl =>
  obtain rfl := Option.some.inj h
  exact index_bigTake A0 c0 l0 g1_ a1 w hr0 hl hk1
 next => cases h

end Go.Proofs.Ytflhbakjlbmfbaa.Pr

-- Printed by a program of this session (wip/tools/myprint.py) that runs the kit's print with contracts of this session's own.
namespace Go.Proofs.Ytflhbakjlbmfbaa.Pr
open Go.RowKit Go.Proofs.YtflhbakjlbmfbaaW.PrintWords Go.Proofs.YtflhbakjlbmfbaaW.PrintLast Go.Proofs.YtflhbakjlbmfbaaW.PrintMore
attribute [local go_sem] max2_int min2_int max_two min_two max_three min_three max_four min_four   -- for this text's walks alone
set_option linter.unusedVariables false
set_option linter.unusedSimpArgs false

/-! ### api_Big_40_61: function 40 with 61 (a contract of this session's own) -/
def api_Big_40_61.f (l0 : List (S29)) (a1_0 a1_1 : Int) : Option (Bool) := if l0.length ≤ 17592186044416 then some (l0.any (bigOver ⟨a1_0, a1_1⟩)) else none
theorem api_Big_40_61.calls (A0 : Option Addr) (c0 : Nat) (l0 : List (S29)) (g1_ : Nat) (a1_0 a1_1 : Int) (r : Bool) (w : World) (hr0 : Kd.C k29 w A0 l0.length l0) (hc0 : l0.length ≤ c0) (hk1 : w.heap[g1_]? = some (.cells #[.int .i64 a1_0, .int .i64 a1_1] 29 (0, 0))) (h : api_Big_40_61.f l0 a1_0 a1_1 = some r) :
  Calls Try.prog 40 #[.slice A0 l0.length c0, .func (.func 61) #[] #[.pointer (some ⟨g1_, 0, none⟩)]] w fun e w' => e = .returned (.bool r) ∧ Below w.heap.size w w' := by
 unfold api_Big_40_61.f at h
 split at h
 next hl =>
  obtain rfl := Option.some.inj h
  exact contains_bigRight A0 c0 l0 g1_ a1_0 a1_1 w hr0 hl hk1
 next => cases h

end Go.Proofs.Ytflhbakjlbmfbaa.Pr
