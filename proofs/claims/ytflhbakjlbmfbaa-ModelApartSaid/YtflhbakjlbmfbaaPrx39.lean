-- Printed by a program of this session (wip/tools/myprint.py) that runs the kit's print with contracts of this session's own.
import Derived.Test.YtflhbakjlbmfbaaPrx0
import Derived.Test.YtflhbakjlbmfbaaRefFind
import Derived.Test.YtflhbakjlbmfbaaPrx38
namespace Go.Proofs.Ytflhbakjlbmfbaa.Pr
open Go.RowKit Go.Proofs.YtflhbakjlbmfbaaW.PrintWords Go.Proofs.YtflhbakjlbmfbaaW.PrintLast Go.Proofs.YtflhbakjlbmfbaaW.PrintMore
attribute [local go_sem] max2_int min2_int max_two min_two max_three min_three max_four min_four   -- for this text's walks alone
set_option linter.unusedVariables false
set_option linter.unusedSimpArgs false

/-! ### rickyardref13_Find: function 64 (a contract of this session's own) -/
def rickyardref13_Find.f (k : Nat) (a0_0 : Int) (l0_1 : List S48) (a1 : Int) : Option (Int × Int × Int × Bool) := (rickyardref13_find.f k l0_1 a1).bind fun t => if t < l0_1.length then (if t < 0 then some (0, 0, 0, false) else some ((rd_T48 l0_1 t).f0, (rd_T48 l0_1 t).f1, (rd_T48 l0_1 t).f2, true)) else none
theorem rickyardref13_Find.mono : ∀ a0 a1 a2 k, LeO (rickyardref13_Find.f k a0 a1 a2) (rickyardref13_Find.f (k + 1) a0 a1 a2) := by
 intro a0 a1 a2 k
 unfold rickyardref13_Find.f
 exact LeO.bind (rickyardref13_find.mono _ _ _) (fun _ => LeO.refl _)
theorem rickyardref13_Find.calls (k : Nat) (a0_0 : Int) (A0_1 : Option Addr) (c0_1 : Nat) (l0_1 : List S48) (a1 : Int) (r1 r2 r3 : Int) (r4 : Bool) (w : World) (hr0_1 : Kd.C k48 w A0_1 l0_1.length l0_1) (hc0_1 : l0_1.length ≤ c0_1) (h : rickyardref13_Find.f k a0_0 l0_1 a1 = some (r1, r2, r3, r4)) :
  Calls Try.prog 64 #[.agg #[.int .i64 a0_0, .slice A0_1 l0_1.length c0_1], .int .i64 a1] w fun e w' => e = .returned (.tuple #[.agg #[.int .i64 r1, .int .i64 r2, .int .i64 r3], .bool r4]) ∧ Below w.heap.size w w' := by
 unfold rickyardref13_Find.f at h
 obtain ⟨t, h1, h2⟩ := Option.bind_eq_some_iff.1 h
 split at h2
 next ht =>
  have h3 := rfind13_any k a0_0 A0_1 c0_1 l0_1 a1 t w hr0_1 hc0_1 h1 ht
  unfold RFindPost at h3
  split at h2
  next hn =>
   cases h2
   rw [if_pos hn] at h3
   exact h3
  next hn =>
   cases h2
   rw [if_neg hn] at h3
   exact h3
 next => cases h2

end Go.Proofs.Ytflhbakjlbmfbaa.Pr
