/- Several texts in one: Prx2, Prx24, Prx25, Prx28. -/
import Derived.Test.YtflhbakjlbmfbaaPrx0
import Derived.Test.YtflhbakjlbmfbaaShort
import Derived.Test.YtflhbakjlbmfbaaLiveRows
-- Printed by a program of this session (wip/tools/myprint.py) that runs the kit's print with contracts of this session's own.
namespace Go.Proofs.Ytflhbakjlbmfbaa.Pr
open Go.RowKit Go.Proofs.YtflhbakjlbmfbaaW.PrintWords Go.Proofs.YtflhbakjlbmfbaaW.PrintLast Go.Proofs.YtflhbakjlbmfbaaW.PrintMore
attribute [local go_sem] max2_int min2_int max_two min_two max_three min_three max_four min_four   -- for this text's walks alone
set_option linter.unusedVariables false
set_option linter.unusedSimpArgs false

theorem eqA48 (d : Nat) (w : World) (x0 y0 : Int) (x1 y1 : Int) (x2 y2 : Int) :
  (Op.equalIn (d + 2) 48 (.agg #[.int .i64 x0, .int .i64 x1, .int .i64 x2]) (.agg #[.int .i64 y0, .int .i64 y1, .int .i64 y2])).run Try.prog w = .ok (x0 == y0 && (x1 == y1 && (x2 == y2))) w := by
 refine eqA_of Try.underlying48 (by kernel_rfl) ?_
 refine eqf_cons (by rfl) (by go_simp; rfl) (by go_simp; rfl) (by go_simp) ?_
 refine eqf_cons (by rfl) (by go_simp; rfl) (by go_simp; rfl) (by go_simp) ?_
 exact eqf_last (by rfl) (by go_simp; rfl) (by go_simp; rfl) (by go_simp)
end Go.Proofs.Ytflhbakjlbmfbaa.Pr

-- Printed by a program of this session (wip/tools/myprint.py) that runs the kit's print with contracts of this session's own.
namespace Go.Proofs.Ytflhbakjlbmfbaa.Pr
open Go.RowKit Go.Proofs.YtflhbakjlbmfbaaW.PrintWords Go.Proofs.YtflhbakjlbmfbaaW.PrintLast Go.Proofs.YtflhbakjlbmfbaaW.PrintMore
attribute [local go_sem] max2_int min2_int max_two min_two max_three min_three max_four min_four   -- for this text's walks alone
set_option linter.unusedVariables false
set_option linter.unusedSimpArgs false

/-! ### api_Live_57: function 57 (a contract of this session's own) -/
def api_Live_57.f (l0 : List (S48)) (a1 : Int) (l2 : List (S48)) : Option (List (S48)) := ins_live l0 a1 l2
theorem api_Live_57.calls (P0_ : Nat → Prop) (u0_ : Value) (l0 : List (S48)) (a1 : Int) (P2_ : Nat → Prop) (u2_ : Value) (l2 : List (S48)) (r : List (S48)) (w0 w : World) (hB : Below w0.heap.size w0 w) (ho0 : Kd.R k48 48 w w0.heap.size P0_ u0_ l0) (hp0_2 : ∀ k_, P0_ k_ → ¬ P2_ k_) (ho2 : Kd.R k48 48 w w0.heap.size P2_ u2_ l2) (hp2_0 : ∀ k_, P2_ k_ → ¬ P0_ k_) (h : api_Live_57.f l0 a1 l2 = some r) :
  Calls Try.prog 57 #[u0_, .int .i64 a1, u2_] w fun e w' => ∃ v0_ : Value, e = .returned (v0_) ∧ Kd.R k48 48 w' w0.heap.size (fun k_ => ((P0_ k_ ∨ P2_ k_) ∨ w.heap.size ≤ k_)) v0_ r ∧ Below w0.heap.size w0 w' ∧ Kept w w' (fun k_ => P0_ k_ ∨ P2_ k_) :=
 insertOwn_live P0_ u0_ l0 a1 P2_ u2_ l2 r w0 w hB ho0 hp0_2 ho2 h

end Go.Proofs.Ytflhbakjlbmfbaa.Pr

-- Printed by a program of this session (wip/tools/myprint.py) that runs the kit's print with contracts of this session's own.
namespace Go.Proofs.Ytflhbakjlbmfbaa.Pr
open Go.RowKit Go.Proofs.YtflhbakjlbmfbaaW.PrintWords Go.Proofs.YtflhbakjlbmfbaaW.PrintLast Go.Proofs.YtflhbakjlbmfbaaW.PrintMore
attribute [local go_sem] max2_int min2_int max_two min_two max_three min_three max_four min_four   -- for this text's walks alone
set_option linter.unusedVariables false
set_option linter.unusedSimpArgs false

/-! ### api_Live_58: function 58 (a contract of this session's own) -/
def api_Live_58.f (l0 : List (S48)) : Option (List (S48)) := if l0.length < 5864062014805 then some l0 else none
set_option maxHeartbeats 1000000 in
theorem api_Live_58.calls (A0 : Option Addr) (c0 : Nat) (l0 : List (S48)) (r : List (S48)) (w : World) (hr0 : Kd.C k48 w A0 l0.length l0) (hc0 : l0.length ≤ c0) (h : api_Live_58.f l0 = some r) :
  Calls Try.prog 58 #[.slice A0 l0.length c0] w fun e w' => ∃ v0_ : Value, e = .returned (v0_) ∧ Kd.R k48 48 w' w.heap.size (fun _ => True) v0_ r ∧ Below w.heap.size w w' := by
 have hlim : l0.length < 5864062014805 ∧ l0 = r := by
  unfold api_Live_58.f at h
  by_cases hl : l0.length < 5864062014805
  ·rw [if_pos hl] at h
   exact ⟨hl, Option.some.inj h⟩
  ·rw [if_neg hl] at h
   cases h
 obtain ⟨hl, he⟩ := hlim
 clear h
 subst he
 have HR0 := aM hr0
 have HL0 := aM hl
 have HB := aM (Below.refl w.heap.size w)
 clear hl hc0
 rcases A0 with _ | ad
 ·have h00 : l0 = [] := by
   rcases Nat.eq_zero_or_pos l0.length with h1 | h1
   ·exact List.eq_nil_of_length_eq_zero h1
   ·obtain ⟨ad, h2, _⟩ := hr0.2.2 h1
    cases h2
  clear hr0 HR0 HL0
  subst h00
  have h0 := fun (w : World) => Lib.run_eql_slice_nil (P := Try.prog) w 39 48 none 0 c0 0 0 Try.underlying39
  go_enter Try.func58, Try.ntmps58
  go_wp2
  go_ret
  exact ⟨_, rfl, Kd.R_nil _ _ _ _ _, Below.refl _ _⟩
 ·clear hr0
  have h0 := fun (w : World) => Lib.run_eql_slice_nil (P := Try.prog) w 39 48 (some ad) l0.length c0 0 0 Try.underlying39
  go_enter Try.func58, Try.ntmps58
  go_wp2_with (first|((with_reducible refine gate_builtin (b:=.append) (xs:=#[.tmp 5,.tmp 6]) rfl ?_);at_builtin;refine Kd.R_append_rows k48 (w0:=w) w.heap.size rfl (.tmp 5) (.tmp 6) 39 48 (.agg #[(.int .i64 0),(.int .i64 0),(.int .i64 0)]) 24 rfl Try.underlying39 info48 rfl (by decide) (by omega) (.slice (some ⟨w.heap.size,0,none⟩) 0 0) [] l0 _ _ _ (fun _ => True) (fun _ => False) rfl rfl ?aO ?aR (fun _ _ h => h) (fun _ h => h.elim) ?aF ?aB ?aS ?aL ?_;(case aO => exact ⟨fun _ _ => trivial,[],World.ownsRow_made w #[] 0 (Nat.le_refl _) (by simp [maxLen]) (by rfl),Reps.none _ _⟩);(case aR => exact cA HR0.out _);(case aF => exact fun _ _ => trivial);(case aB => exact wA HB.out _);(case aS => simp);(case aL => have:=HL0.out;simp only [List.length_nil];omega);intro v1 w1 ho hb hg hat;have HO:=aM ho;have HB1:=aM hb;clear ho hb hg hat))
  go_ret
  exact ⟨_, rfl, by simpa using HO.out, HB1.out⟩

end Go.Proofs.Ytflhbakjlbmfbaa.Pr

-- Printed by a program of this session (wip/tools/myprint.py) that runs the kit's print with contracts of this session's own.
namespace Go.Proofs.Ytflhbakjlbmfbaa.Pr
open Go.RowKit Go.Proofs.YtflhbakjlbmfbaaW.PrintWords Go.Proofs.YtflhbakjlbmfbaaW.PrintLast Go.Proofs.YtflhbakjlbmfbaaW.PrintMore
attribute [local go_sem] max2_int min2_int max_two min_two max_three min_three max_four min_four   -- for this text's walks alone
set_option linter.unusedVariables false
set_option linter.unusedSimpArgs false

/-! ### api_Live_59: function 59 (a contract of this session's own) -/
def api_Live_59.f (l0 : List (S48)) (a1 a2 : Int) : Option (List (S48)) := del_live l0 a1 a2
theorem api_Live_59.calls (P0_ : Nat → Prop) (u0_ : Value) (l0 : List (S48)) (a1 a2 : Int) (r : List (S48)) (w0 w : World) (hB : Below w0.heap.size w0 w) (ho0 : Kd.R k48 48 w w0.heap.size P0_ u0_ l0) (h : api_Live_59.f l0 a1 a2 = some r) :
  Calls Try.prog 59 #[u0_, .int .i64 a1, .int .i64 a2] w fun e w' => ∃ v0_ : Value, e = .returned (v0_) ∧ Kd.R k48 48 w' w0.heap.size (fun k_ => (P0_ k_ ∨ w.heap.size ≤ k_)) v0_ r ∧ Below w0.heap.size w0 w' ∧ Kept w w' (fun k_ => P0_ k_) :=
 deleteOwn_live P0_ u0_ l0 a1 a2 r w0 w hB ho0 h

end Go.Proofs.Ytflhbakjlbmfbaa.Pr
