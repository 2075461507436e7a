/- The walk of the statement TallyKinds: what kind any number is is the document's. -/
import Derived.Test.YtojijdfgflcnjaaFlAwake
namespace Go.Proofs.Ytojijdfgflcnjaa
set_option linter.unusedVariables false
open Go.RowKit Go.Proofs.YtojijdfgflcnjaaW.PrintWords Go.Proofs.YtojijdfgflcnjaaW.PrintLast Go.Proofs.YtojijdfgflcnjaaW.PrintMore Fl Pr

theorem u64_of {x : Int} (h : (Lit.int .u64 x).wf = true) : 0 ≤ x ∧ x < 18446744073709551616 := by
  simp only [Lit.wf, Bool.and_eq_true, decide_eq_true_eq] at h
  have h1 : IntKind.u64.min = 0 := by decide
  have h2 : IntKind.u64.max = 18446744073709551615 := by decide
  omega
set_option maxHeartbeats 1000000 in
theorem tallyKinds_walk (a : Int) (w : World) (h0 : (Lit.int .u64 a).wf = true) :
    Calls Try.prog 5 #[.int .u64 a] w fun e w' => e = .returned (.bool true) ∧ Below w.heap.size w w' := by
  obtain ⟨h1, h2⟩ := u64_of h0
  have hx : a.toNat < 18446744073709551616 := by omega
  have HX := Sh.mk hx
  clear h0 h1 h2 hx
  go_enter Try.func5, Try.ntmps5
  go_wp2_with fail
  (with_reducible refine (rnum_any _ _).mono ?_); rintro e w' ⟨rfl, rfl⟩
  go_wp2_with fail
  (with_reducible refine (kind_any _ HX.out _).mono ?_); rintro e w' ⟨rfl, rfl⟩
  go_wp2_with fail
  (with_reducible refine (rnum_any _ _).mono ?_); rintro e w' ⟨rfl, rfl⟩
  go_wp2_with fail
  (with_reducible refine (kinds_any _ HX.out _).mono ?_); rintro e w1 ⟨rfl, b1⟩
  have B1 := Sh.mk b1
  clear b1
  go_wp2_with fail
  (with_reducible refine (awake_any _).mono ?_); rintro e w2 ⟨rfl, b2⟩
  have B2 := Sh.mk b2
  clear b2
  go_wp2
  go_ret
  exact ⟨rfl, below_then B1.out B1.out.size B2.out⟩
end Go.Proofs.Ytojijdfgflcnjaa
