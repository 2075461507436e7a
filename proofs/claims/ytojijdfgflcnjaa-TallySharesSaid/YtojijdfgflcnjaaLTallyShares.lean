/- The walk of the statement TallyShares: any whole numbers' share, and what kind it is, are the document's. -/
import Derived.Test.YtojijdfgflcnjaaFlAwake
namespace Go.Proofs.Ytojijdfgflcnjaa
set_option linter.unusedVariables false
open Go.RowKit Go.Proofs.YtojijdfgflcnjaaW.PrintWords Go.Proofs.YtojijdfgflcnjaaW.PrintLast Go.Proofs.YtojijdfgflcnjaaW.PrintMore Fl Pr

set_option maxHeartbeats 1000000 in
theorem tallyShares_walk (a b : Int) (w : World) (h0 : (Lit.int .i64 a).wf = true) (h1 : (Lit.int .i64 b).wf = true) :
    Calls Try.prog 6 #[.int .i64 a, .int .i64 b] w fun e w' => e = .returned (.bool true) ∧ Below w.heap.size w w' := by
  clear h0 h1
  go_enter Try.func6, Try.ntmps6
  go_wp2_with fail
  (with_reducible refine (share_any a b _).mono ?_); rintro e w1 ⟨r, rfl, h1, h2, h3⟩
  have E1 := Sh.mk h1
  have L1 := Sh.mk h2
  have B1 := Sh.mk h3
  clear h1 h2 h3
  go_wp2_with fail
  (with_reducible refine (rword_any r _).mono ?_); rintro e w' ⟨rfl, rfl⟩
  go_wp2_with fail
  (with_reducible refine (rshare_any a b _).mono ?_); rintro e w2 ⟨s, rfl, h1, h2, h3⟩
  have B2 : Sh (Below w.heap.size w w2) := ⟨below_then B1.out B1.out.size h3⟩
  have hw := E1.out.wd.trans h1.wd.symm
  have HW := Sh.mk hw
  clear h1 h2 h3 hw
  go_wp2_with fail
  (with_reducible refine (rword_any s _).mono ?_); rintro e w' ⟨rfl, rfl⟩
  rw [← HW.out]
  go_wp2_with fail
  (with_reducible refine (kind_any r L1.out _).mono ?_); rintro e w' ⟨rfl, rfl⟩
  go_wp2_with fail
  (with_reducible refine (kinds_any r L1.out _).mono ?_); rintro e w3 ⟨rfl, h3⟩
  have B3 : Sh (Below w.heap.size w w3) := ⟨below_then B2.out B2.out.size h3⟩
  clear h3
  go_wp2_with fail
  (with_reducible refine (awake_any _).mono ?_); rintro e w4 ⟨rfl, h3⟩
  have B4 : Sh (Below w.heap.size w w4) := ⟨below_then B3.out B3.out.size h3⟩
  clear h3
  go_wp2
  go_ret
  exact ⟨rfl, B4.out⟩
end Go.Proofs.Ytojijdfgflcnjaa
