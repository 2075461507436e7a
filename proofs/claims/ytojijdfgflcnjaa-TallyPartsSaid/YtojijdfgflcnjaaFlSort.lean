/- Sorting of floats: the closures, cmp.Compare: contracts. No statement is proved here. -/
import Derived.Test.YtojijdfgflcnjaaFlShare
import Derived.Shelf.SlSortCmp.Whole1
import Derived.Deep.RegionWith
namespace Go.Proofs.Ytojijdfgflcnjaa
set_option linter.unusedVariables false
set_option linter.unusedSimpArgs false
open Go.RowKit Go.Proofs.YtojijdfgflcnjaaW.PrintWords Go.Proofs.YtojijdfgflcnjaaW.PrintLast Go.Proofs.YtojijdfgflcnjaaW.PrintMore Fl Pr

theorem cmp_any (a b : Int) (w : World) : Calls Try.prog 55 #[.int .u64 a, .int .u64 b] w fun e w' => e = .returned (.int .i64 (Lib.compareInt a b)) ∧ w = w' := by
  unfold Lib.compareInt
  by_cases h1 : a < b
  · rw [if_pos h1]
    go_enter Try.func55, Try.ntmps55
    go_wp2
    go_ret
    exact ⟨rfl, rfl⟩
  · rw [if_neg h1]
    have h1' : b ≤ a := by omega
    by_cases h2 : a > b
    · rw [if_pos h2]
      have h2' : b < a := h2
      clear h2 h1
      go_enter Try.func55, Try.ntmps55
      go_wp2
      go_ret
      exact ⟨rfl, rfl⟩
    · rw [if_neg h2]
      obtain rfl : a = b := by omega
      clear h2 h1 h1'
      go_enter Try.func55, Try.ntmps55
      go_wp2
      go_ret
      exact ⟨rfl, rfl⟩
/-- The closure that ranks. -/
theorem clo1 (x : Nat) (hx : x < 18446744073709551616) (w : World) : Calls Try.prog 52 #[.float .f64 x] w fun e w' => e = .returned (.int .u64 (rk (wd x))) ∧ w = w' := by
  have h := wd_lt x hx
  have HR := Sh.mk (rank_any (wd x) h.1 h.2)
  clear h
  go_enter Try.func52, Try.ntmps52
  go_wp2_with fail
  (with_reducible refine (word_any x _).mono ?_); rintro e w' ⟨rfl, rfl⟩
  go_wp2_with fail
  (with_reducible refine (HR.out _).mono ?_); rintro e w' ⟨rfl, rfl⟩
  go_wp2
  go_ret
  exact ⟨rfl, rfl⟩
/-- The closure that compares. -/
theorem clo2 (x y : Nat) (hx : x < 18446744073709551616) (hy : y < 18446744073709551616) (B : Nat) (W : World) (hc : W.cell? ⟨B, 0, none⟩ = some (.func (.func 52) #[] #[])) :
    Calls Try.prog 54 #[.float .f64 x, .float .f64 y, .pointer (some ⟨B, 0, none⟩)] W fun e w' => e = .returned (.int .i64 (Lib.compareInt (rk (wd x)) (rk (wd y)))) ∧ ∃ q, w' = W.drewN q := by
  have HX := Sh.mk (clo1 x hx)
  have HY := Sh.mk (clo1 y hy)
  have eg : ∀ args w, (callFunc 52 args).run Try.prog w = .ok (.enter 52 args) w := enters_of Try.func52 (by kernel_rfl) rfl
  go_enter Try.func54, Try.ntmps54
  go_wp2_with fail
  go_quiet ((first
    | (go_at_fn 52; exact Calls.quiet_of_same ((HX.out _).mono (fun e w' h => ⟨h.1, h.2.symm⟩)))
    | (go_at_fn 52; exact Calls.quiet_of_same ((HY.out _).mono (fun e w' h => ⟨h.1, h.2.symm⟩)))
    | (go_at_call 55; exact Calls.quiet_of_same ((cmp_any _ _ _).mono (fun e w' h => ⟨h.1, h.2.symm⟩)))))
  go_wp2
  go_ret
  exact ⟨rfl, _, rfl⟩
end Go.Proofs.Ytojijdfgflcnjaa
