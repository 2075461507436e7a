-- Printed by a program of this session (wip/tools/myprint.py) that runs the kit's print with contracts of this session's own.
import Derived.Test.YtflhbakjlbmfbaaPrx0
import Derived.Test.YtflhbakjlbmfbaaShort
namespace Go.Proofs.Ytflhbakjlbmfbaa.Pr
open Go.RowKit Go.Proofs.YtflhbakjlbmfbaaW.PrintWords Go.Proofs.YtflhbakjlbmfbaaW.PrintLast Go.Proofs.YtflhbakjlbmfbaaW.PrintMore
attribute [local go_sem] max2_int min2_int max_two min_two max_three min_three max_four min_four   -- for this text's walks alone
set_option linter.unusedVariables false
set_option linter.unusedSimpArgs false

/-! ### api_Big_46: function 46 (a contract of this session's own) -/
def api_Big_46.f (l0 : List (S29)) : Option (List (S29)) := if l0.length < 8796093022208 then some l0 else none
set_option maxHeartbeats 1000000 in
theorem api_Big_46.calls (A0 : Option Addr) (c0 : Nat) (l0 : List (S29)) (r : List (S29)) (w : World) (hr0 : Kd.C k29 w A0 l0.length l0) (hc0 : l0.length ≤ c0) (h : api_Big_46.f l0 = some r) :
  Calls Try.prog 46 #[.slice A0 l0.length c0] w fun e w' => ∃ v0_ : Value, e = .returned (v0_) ∧ Kd.R k29 29 w' w.heap.size (fun _ => True) v0_ r ∧ Below w.heap.size w w' := by
 have hlim : l0.length < 8796093022208 ∧ l0 = r := by
  unfold api_Big_46.f at h
  by_cases hl : l0.length < 8796093022208
  ·rw [if_pos hl] at h
   exact ⟨hl, Option.some.inj h⟩
  ·rw [if_neg hl] at h
   cases h
 obtain ⟨hl, he⟩ := hlim
 clear h
 subst he
 have HR0 := aM hr0
 have HL0 := aM hl
 have HB := aM (Below.refl w.heap.size w)
 clear hl hc0
 rcases A0 with _ | ad
 ·have h00 : l0 = [] := by
   rcases Nat.eq_zero_or_pos l0.length with h1 | h1
   ·exact List.eq_nil_of_length_eq_zero h1
   ·obtain ⟨ad, h2, _⟩ := hr0.2.2 h1
    cases h2
  clear hr0 HR0 HL0
  subst h00
  have h0 := fun (w : World) => Lib.run_eql_slice_nil (P := Try.prog) w 23 29 none 0 c0 0 0 Try.underlying23
  go_enter Try.func46, Try.ntmps46
  go_wp2
  go_ret
  exact ⟨_, rfl, Kd.R_nil _ _ _ _ _, Below.refl _ _⟩
 ·clear hr0
  have h0 := fun (w : World) => Lib.run_eql_slice_nil (P := Try.prog) w 23 29 (some ad) l0.length c0 0 0 Try.underlying23
  go_enter Try.func46, Try.ntmps46
  go_wp2_with (first|((with_reducible refine gate_builtin (b:=.append) (xs:=#[.tmp 5,.tmp 6]) rfl ?_);at_builtin;refine Kd.R_append_rows k29 (w0:=w) w.heap.size rfl (.tmp 5) (.tmp 6) 23 29 (.agg #[(.int .i64 0),(.int .i64 0)]) 16 rfl Try.underlying23 info29 rfl (by decide) (by omega) (.slice (some ⟨w.heap.size,0,none⟩) 0 0) [] l0 _ _ _ (fun _ => True) (fun _ => False) rfl rfl ?aO ?aR (fun _ _ h => h) (fun _ h => h.elim) ?aF ?aB ?aS ?aL ?_;(case aO => exact ⟨fun _ _ => trivial,[],World.ownsRow_made w #[] 0 (Nat.le_refl _) (by simp [maxLen]) (by rfl),Reps.none _ _⟩);(case aR => exact cA HR0.out _);(case aF => exact fun _ _ => trivial);(case aB => exact wA HB.out _);(case aS => simp);(case aL => have:=HL0.out;simp only [List.length_nil];omega);intro v1 w1 ho hb hg hat;have HO:=aM ho;have HB1:=aM hb;clear ho hb hg hat))
  go_ret
  exact ⟨_, rfl, by simpa using HO.out, HB1.out⟩

end Go.Proofs.Ytflhbakjlbmfbaa.Pr
