-- Printed by a program of this session (wip/tools/myprint.py) that runs the kit's print with contracts of this session's own.
import Derived.Test.YthbknmblehecaaaPrx0
import Derived.Test.YthbknmblehecaaaPartKind
namespace Go.Proofs.Ythbknmblehecaaa.Pr
open Go.RowKit Go.Proofs.YthbknmblehecaaaW.PrintWords Go.Proofs.YthbknmblehecaaaW.PrintLast Go.Proofs.YthbknmblehecaaaW.PrintMore
attribute [local go_sem] max2_int min2_int max_two min_two max_three min_three max_four min_four   -- for this text's walks alone
set_option linter.unusedVariables false
set_option linter.unusedSimpArgs false

/-! ### part_Kind: function 32 (a contract of this session's own) -/
def part_Kind.f (l0_0 : List S58) (l0_1 : List S58) (l0_2 : List S58) (l0_3 : List S58) (l0_4 : List S58) (l0_5 : List S58) (l0_6 : List S58) (a1 : Int) : Option Int := if ([l0_0, l0_1, l0_2, l0_3, l0_4, l0_5, l0_6] : List (List S58)).flatten.length ≤ 100000 then some (Pure.kindP ([l0_0, l0_1, l0_2, l0_3, l0_4, l0_5, l0_6] : List (List S58)) a1 0) else none
theorem part_Kind.calls (A0_0 : Option Addr) (c0_0 : Nat) (l0_0 : List S58) (A0_1 : Option Addr) (c0_1 : Nat) (l0_1 : List S58) (A0_2 : Option Addr) (c0_2 : Nat) (l0_2 : List S58) (A0_3 : Option Addr) (c0_3 : Nat) (l0_3 : List S58) (A0_4 : Option Addr) (c0_4 : Nat) (l0_4 : List S58) (A0_5 : Option Addr) (c0_5 : Nat) (l0_5 : List S58) (A0_6 : Option Addr) (c0_6 : Nat) (l0_6 : List S58) (a1 : Int) (r : Int) (w : World) (hr0_0 : Kd.C k58 w A0_0 l0_0.length l0_0) (hc0_0 : l0_0.length ≤ c0_0) (hr0_1 : Kd.C k58 w A0_1 l0_1.length l0_1) (hc0_1 : l0_1.length ≤ c0_1) (hr0_2 : Kd.C k58 w A0_2 l0_2.length l0_2) (hc0_2 : l0_2.length ≤ c0_2) (hr0_3 : Kd.C k58 w A0_3 l0_3.length l0_3) (hc0_3 : l0_3.length ≤ c0_3) (hr0_4 : Kd.C k58 w A0_4 l0_4.length l0_4) (hc0_4 : l0_4.length ≤ c0_4) (hr0_5 : Kd.C k58 w A0_5 l0_5.length l0_5) (hc0_5 : l0_5.length ≤ c0_5) (hr0_6 : Kd.C k58 w A0_6 l0_6.length l0_6) (hc0_6 : l0_6.length ≤ c0_6) (h : part_Kind.f l0_0 l0_1 l0_2 l0_3 l0_4 l0_5 l0_6 a1 = some r) :
  Calls Try.prog 32 #[.agg #[.slice A0_0 l0_0.length c0_0, .slice A0_1 l0_1.length c0_1, .slice A0_2 l0_2.length c0_2, .slice A0_3 l0_3.length c0_3, .slice A0_4 l0_4.length c0_4, .slice A0_5 l0_5.length c0_5, .slice A0_6 l0_6.length c0_6], .int .i64 a1] w fun e w' => e = .returned (.int .i64 r) ∧ Below w.heap.size w w' := by
 unfold part_Kind.f at h
 split at h
 next hl =>
  cases h
  exact kind_any A0_0 A0_1 A0_2 A0_3 A0_4 A0_5 A0_6 c0_0 c0_1 c0_2 c0_3 c0_4 c0_5 c0_6 l0_0 l0_1 l0_2 l0_3 l0_4 l0_5 l0_6 a1 w ⟨⟨hr0_0, hc0_0⟩, ⟨hr0_1, hc0_1⟩, ⟨hr0_2, hc0_2⟩, ⟨hr0_3, hc0_3⟩, ⟨hr0_4, hc0_4⟩, ⟨hr0_5, hc0_5⟩, ⟨hr0_6, hc0_6⟩⟩ hl
 next => cases h

end Go.Proofs.Ythbknmblehecaaa.Pr
