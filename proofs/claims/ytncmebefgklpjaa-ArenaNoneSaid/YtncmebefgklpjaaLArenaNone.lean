/- The walk of the statement ArenaNone: of no arena each call says so. -/
import Derived.Test.YtncmebefgklpjaaLaw3
namespace Go.Proofs.Ytncmebefgklpjaa
set_option linter.unusedVariables false
open Go.RowKit Go.Proofs.YtncmebefgklpjaaW.PrintWords Go.Proofs.YtncmebefgklpjaaW.PrintLast

set_option maxHeartbeats 1000000 in
theorem arenaNone_walk (a0 a1 a2 a3 : Int) (w : World) (w0 : (Lit.int .i64 a0).wf = true) (w1 : (Lit.int .i64 a1).wf = true) (w2 : (Lit.int .i64 a2).wf = true) (w3 : (Lit.int .u64 a3).wf = true) :
    Calls Try.prog 8 #[.int .i64 a0, .int .i64 a1, .int .i64 a2, .int .u64 a3] w fun e w' => e = .returned (.bool true) ∧ Below w.heap.size w w' := by
  clear w0 w1 w2 w3
  go_enter Try.func8, Try.ntmps8
  go_wp2_with fail
  (with_reducible refine (load_nil _ _).mono ?_); rintro e w' ⟨rfl, rfl⟩
  go_wp2_with fail
  (with_reducible refine (slice_nil _ _ _).mono ?_); rintro e w1 ⟨v, rfl, h1, h2⟩
  obtain ⟨A1, c1, rfl⟩ := Kd.R_slice h1
  have H2 := Sh.mk h2
  clear h1 h2
  go_wp2_with fail
  (with_reducible refine (pages_nil _).mono ?_); rintro e w' ⟨rfl, rfl⟩
  go_wp2_with fail
  (with_reducible refine (len_nil _).mono ?_); rintro e w' ⟨rfl, rfl⟩
  go_wp2_with fail
  (with_reducible refine (store_nil _ _ _).mono ?_); rintro e w' ⟨rfl, rfl⟩
  go_wp2_with fail
  (with_reducible refine (copy_nil _ _ _ _).mono ?_); rintro e w' ⟨rfl, rfl⟩
  go_wp2_with fail
  (with_reducible refine (fill_nil _ _ _ _).mono ?_); rintro e w' ⟨rfl, rfl⟩
  go_wp2_with fail
  (with_reducible refine (awake3 _).mono ?_); rintro e w2 ⟨rfl, h3⟩
  have H3 := Sh.mk h3
  clear h3
  go_wp2
  go_ret
  exact ⟨rfl, below_then H2.out H2.out.size H3.out⟩
end Go.Proofs.Ytncmebefgklpjaa
