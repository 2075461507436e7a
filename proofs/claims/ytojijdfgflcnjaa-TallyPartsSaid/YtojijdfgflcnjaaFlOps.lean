/- Floats: contracts of the small functions on them. No statement is proved here. -/
import Derived.Test.YtojijdfgflcnjaaFlPlain
import Derived.Test.YtojijdfgflcnjaaBase
import Derived.Test.YtojijdfgflcnjaaPrx1
import Derived.Laws.Externs
namespace Go.Proofs.Ytojijdfgflcnjaa
set_option linter.unusedVariables false
set_option linter.unusedSimpArgs false
open Go.RowKit Go.Proofs.YtojijdfgflcnjaaW.PrintWords Go.Proofs.YtojijdfgflcnjaaW.PrintLast Fl

theorem xor_rung (x : Nat) : rung (x ^^^ 9223372036854775808) = rung x := by
  unfold rung
  have := Nat.xor_mod_two_pow (a := x) (b := 9223372036854775808) (n := 63)
  simpa using this
theorem xor_neg (x : Nat) : negB (x ^^^ 9223372036854775808) = !negB x := by
  unfold negB
  have h := Nat.xor_div_two_pow (a := x) (b := 9223372036854775808) (n := 63)
  have h2 := Nat.xor_mod_two_pow (a := x / 9223372036854775808) (b := 1) (n := 1)
  simp only [Nat.reducePow] at h h2
  rw [h]
  simp only [Nat.reduceDiv, h2]
  have : x / 9223372036854775808 % 2 = 0 ∨ x / 9223372036854775808 % 2 = 1 := by omega
  rcases this with e | e <;> rw [e] <;> rfl
theorem nan_xor (x : Nat) : nanB (x ^^^ 9223372036854775808) = nanB x := by unfold nanB; rw [xor_rung]

/-- What the walk's tests come to. -/
theorem t_ne (x : Nat) : (FloatKind.f64.format.order x x != some .eq) = nanB x := by
  have h : FloatKind.f64.format.order x x = if nanB x then none else some .eq := order_self x
  rw [h]; cases nanB x <;> rfl
theorem t_gt (x : Nat) : (FloatKind.f64.format.order x 9218868437227405311 == some .gt) = (!nanB x && decide (rung x = IR) && !negB x) := order_max x
theorem t_lt0 (x : Nat) : (FloatKind.f64.format.order x 0 == some .lt) = (!nanB x && !decide (rung x = 0) && negB x) := by
  have h : FloatKind.f64.format.order x 0 = sgn x := order_zero x
  rw [h]; unfold sgn
  cases nanB x
  · by_cases h : rung x = 0
    · simp [h]
    · cases negB x <;> simp [h]
  · rfl
theorem t_eq0 (x : Nat) : (FloatKind.f64.format.order x 0 == some .eq) = (!nanB x && decide (rung x = 0)) := by
  have h : FloatKind.f64.format.order x 0 = sgn x := order_zero x
  rw [h]; unfold sgn
  cases nanB x
  · by_cases h : rung x = 0
    · simp [h]
    · cases negB x <;> simp [h]
  · rfl
theorem t_ngt (x : Nat) : (FloatKind.f64.format.order (Op.negFloat .f64 x) 9218868437227405311 == some .gt) = (!nanB x && decide (rung x = IR) && negB x) := by
  have e : Op.negFloat .f64 x = x ^^^ 9223372036854775808 := rfl
  rw [e, t_gt, nan_xor, xor_rung, xor_neg, Bool.not_not]

@[local go_sem] theorem unary_negf (x : Nat) : Op.unary .neg (.float .f64 x) = pure (.float .f64 (Op.negFloat .f64 x)) := rfl
theorem isNaN_any (x : Nat) (w : World) : Calls Try.prog 39 #[.float .f64 x] w fun e w' => e = .returned (.bool (nanB x)) ∧ w = w' := by
  have h := t_ne x
  obtain ⟨b, hb⟩ : ∃ b, b = nanB x := ⟨_, rfl⟩
  rw [← hb] at h ⊢
  clear hb
  go_enter Try.func39, Try.ntmps39
  go_wp2
  go_ret
  exact ⟨rfl, rfl⟩
theorem isInf_neg (x : Nat) (w : World) : Calls Try.prog 40 #[.float .f64 x, .int .i64 (-1)] w fun e w' => e = .returned (.bool (!nanB x && decide (rung x = IR) && negB x)) ∧ w = w' := by
  have h := t_ngt x
  obtain ⟨b, hb⟩ : ∃ b, b = (!nanB x && decide (rung x = IR) && negB x) := ⟨_, rfl⟩
  rw [← hb] at h ⊢
  clear hb
  go_enter Try.func40, Try.ntmps40
  go_wp2
  go_ret
  exact ⟨rfl, rfl⟩
theorem isInf_pos (x : Nat) (w : World) : Calls Try.prog 40 #[.float .f64 x, .int .i64 1] w fun e w' => e = .returned (.bool (!nanB x && decide (rung x = IR) && !negB x)) ∧ w = w' := by
  have h := t_gt x
  obtain ⟨b, hb⟩ : ∃ b, b = (!nanB x && decide (rung x = IR) && !negB x) := ⟨_, rfl⟩
  rw [← hb] at h ⊢
  clear hb
  go_enter Try.func40, Try.ntmps40
  go_wp2
  go_ret
  exact ⟨rfl, rfl⟩
theorem bits_run (x : Nat) (w : World) : (callFunc 37 #[.float .f64 x]).run Try.prog w = .ok (.value (.int .u64 x)) w := by
  rw [run_callFunc_extern Try.func37 (by kernel_rfl) (by kernel_rfl) (by kernel_rfl) (e := Extern.MathFloatBits.float64bits) (by kernel_rfl)]
  rfl
theorem from_run (x : Int) (w : World) : (callFunc 38 #[.int .u64 x]).run Try.prog w = .ok (.value (.float .f64 x.toNat)) w := by
  rw [run_callFunc_extern Try.func38 (by kernel_rfl) (by kernel_rfl) (by kernel_rfl) (e := Extern.MathFloatBits.float64frombits) (by kernel_rfl)]
  rfl
theorem signbit_any (x : Nat) (hx : x < 18446744073709551616) (w : World) : Calls Try.prog 41 #[.float .f64 x] w fun e w' => e = .returned (.bool (negB x)) ∧ w = w' := by
  have e0 := bits_run x
  have h : decide (wrap64 (x : Int) < 0) = negB x := by
    unfold negB wrap64
    have : x / 9223372036854775808 = 0 ∨ x / 9223372036854775808 = 1 := by omega
    rcases this with e | e <;> rw [e] <;> simp <;> omega
  obtain ⟨b, hb⟩ : ∃ b, b = negB x := ⟨_, rfl⟩
  rw [← hb] at h ⊢
  clear hb
  go_enter Try.func41, Try.ntmps41
  go_wp2
  go_ret
  exact ⟨rfl, rfl⟩
end Go.Proofs.Ytojijdfgflcnjaa
