/- Floats: the document's kinds, shares, how broken up runs are: contracts. No statement is proved here. -/
import Derived.Test.YtojijdfgflcnjaaFlKind
import Derived.Test.YtojijdfgflcnjaaPrx1
import Derived.Test.YtojijdfgflcnjaaPrx2
import Derived.Laws.FloatArith
import Derived.Laws.NewFold
namespace Go.Proofs.Ytojijdfgflcnjaa
set_option linter.unusedVariables false
set_option linter.unusedSimpArgs false
open Go.RowKit Go.Proofs.YtojijdfgflcnjaaW.PrintWords Go.Proofs.YtojijdfgflcnjaaW.PrintLast Go.Proofs.YtojijdfgflcnjaaW.PrintMore Fl Pr

theorem wd_lt (x : Nat) (hx : x < 18446744073709551616) : 0 ≤ wd x ∧ wd x < 18446744073709551616 := by unfold wd; split <;> omega
section
attribute [local go_sem] unary_negf
set_option maxHeartbeats 1000000 in
theorem kinds_any (x : Nat) (hx : x < 18446744073709551616) (w : World) : Calls Try.prog 21 #[.float .f64 x] w fun e w' => e = .returned (.int .i64 (kindN x)) ∧ Below w.heap.size w w' := by
  have O1 := Sh.mk (fun w => rickyardref2_Odd.calls 1 9218868437227405312 w (by decide))
  have O2 := Sh.mk (fun w => rickyardref2_Odd.calls 2 18442240474082181120 w (by decide))
  have O3 := Sh.mk (fun w => rickyardref2_Odd.calls 3 9223372036854775808 w (by decide))
  obtain ⟨a, ha⟩ : ∃ a, a = wd x := ⟨_, rfl⟩
  have HW := Sh.mk (rword_any x)
  rw [← ha] at HW
  have k : (a = 9221120237041090560 ∧ kindN x = 0) ∨ (a = 18442240474082181120 ∧ kindN x = 1) ∨ (a = 9223372036854775808 ∧ kindN x = 3) ∨ (a = 0 ∧ kindN x = 4) ∨ (a = 9218868437227405312 ∧ kindN x = 6)
    ∨ (9223372036854775808 < a ∧ a < 18442240474082181120 ∧ kindN x = 2) ∨ (0 < a ∧ a < 9218868437227405312 ∧ kindN x = 5) := by
    rw [ha]
    unfold wd kindN nanB negB IR rung
    by_cases h1 : 9218868437227405312 < x % 9223372036854775808
    · rw [decide_eq_true h1]
      exact .inl ⟨rfl, rfl⟩
    · rw [decide_eq_false h1]
      simp only [Bool.false_eq_true, if_false, beq_iff_eq]
      have hq : x / 9223372036854775808 = 0 ∨ x / 9223372036854775808 = 1 := by omega
      rcases hq with c | c <;> simp only [c]
      · by_cases h2 : x % 9223372036854775808 = 9218868437227405312
        · rw [if_pos h2]; exact .inr (.inr (.inr (.inr (.inl ⟨by omega, rfl⟩))))
        · rw [if_neg h2]
          by_cases h3 : x % 9223372036854775808 = 0
          · rw [if_pos h3]; exact .inr (.inr (.inr (.inl ⟨by omega, rfl⟩)))
          · rw [if_neg h3]; exact .inr (.inr (.inr (.inr (.inr (.inr ⟨by omega, by omega, rfl⟩)))))
      · by_cases h2 : x % 9223372036854775808 = 9218868437227405312
        · rw [if_pos h2]; exact .inr (.inl ⟨by omega, rfl⟩)
        · rw [if_neg h2]
          by_cases h3 : x % 9223372036854775808 = 0
          · rw [if_pos h3]; exact .inr (.inr (.inl ⟨by omega, rfl⟩))
          · rw [if_neg h3]; exact .inr (.inr (.inr (.inr (.inr (.inl ⟨by omega, by omega, rfl⟩)))))
  clear ha
  have e1 : (a == 9221120237041090560) = decide (a = 9221120237041090560) := rfl
  rcases k with ⟨rfl, k⟩ | ⟨rfl, k⟩ | ⟨rfl, k⟩ | ⟨rfl, k⟩ | ⟨rfl, k⟩ | ⟨k1, k2, k⟩ | ⟨k1, k2, k⟩
  all_goals rw [k]
  all_goals clear k e1
  all_goals try (
    have b1 : (a == 9221120237041090560) = false := beq_eq_false_iff_ne.2 (by omega)
    have b2 : (a == 18442240474082181120) = false := beq_eq_false_iff_ne.2 (by omega)
    have b3 : (a == 9223372036854775808) = false := beq_eq_false_iff_ne.2 (by omega)
    have b4 : (a == 0) = false := beq_eq_false_iff_ne.2 (by omega)
    have b5 : (a == 9218868437227405312) = false := beq_eq_false_iff_ne.2 (by omega))
  all_goals try (
    have b6 : (a / 9223372036854775808 == 1) = true := beq_iff_eq.2 (by omega))
  all_goals try (
    have b6 : (a / 9223372036854775808 == 1) = false := beq_eq_false_iff_ne.2 (by omega))
  all_goals
    go_enter Try.func21, Try.ntmps21
    go_wp2_with fail
    (with_reducible refine (HW.out _).mono ?_); rintro e w' ⟨rfl, rfl⟩
  all_goals
    go_wp2_with (first
      | (go_at_call 42; (with_reducible refine (O2.out _).mono ?_); rintro e w2 ⟨rfl, h2⟩; have B2 := Sh.mk h2; clear h2)
      | (go_at_call 42; (with_reducible refine (O3.out _).mono ?_); rintro e w3 ⟨rfl, h3⟩; have B3 := Sh.mk h3; clear h3)
      | (go_at_call 42; (with_reducible refine (O1.out _).mono ?_); rintro e w4 ⟨rfl, h4⟩; have B4 := Sh.mk h4; clear h4))
    go_ret
    exact ⟨rfl, by first
      | exact Below.refl _ _
      | exact B2.out
      | exact below_then B2.out B2.out.size B3.out
      | exact below_then (below_then B2.out B2.out.size B3.out) (Nat.le_trans B2.out.size B3.out.size) B4.out⟩
end

/-- A number by another one: its bits (of no number one of all). -/
def quoN (x y : Nat) : Nat := (floatBits .quo .f64 x y).getD 9221120237041090560
def subN (x y : Nat) : Nat := (floatBits .sub .f64 x y).getD 9221120237041090560
def shN (a b : Int) : Nat := quoN (floatOfInt .f64 a) (floatOfInt .f64 b)
/-- The tape's answer. -/
def nanT (x y : Nat) (w : World) : Nat := (Question.nanBits .f64 x y).cut (w.tape w.drawn (.nanBits .f64 x y))
theorem nan_form (t z : Nat) (h2 : z < 4503599627370495) : decide (9218868437227405312 < (t % 2 * 9223372036854775808 + 9218868437227405312 + 1 + z) % 9223372036854775808) = true ∧ t % 2 * 9223372036854775808 + 9218868437227405312 + 1 + z < 18446744073709551616 := by
  have h1 : t % 2 = 0 ∨ t % 2 = 1 := by omega
  rcases h1 with e | e <;> rw [e] <;> simp <;> omega
theorem nanT_is (x y : Nat) (w : World) : nanB (nanT x y w) = true ∧ nanT x y w < 18446744073709551616 :=
  nan_form (w.tape w.drawn (.nanBits .f64 x y)) (w.tape w.drawn (.nanBits .f64 x y) / 2 % 4503599627370495) (Nat.mod_lt _ (by omega))
theorem nan_none : nanB 9221120237041090560 = true := by decide
theorem quo_run (x y : Nat) (w : World) : ∃ r n, (binOp .quo 25 (.float .f64 x) (.float .f64 y)).run Try.prog w = .ok (.float .f64 r) (w.drewN n) ∧ Eqv r (quoN x y) ∧ r < 18446744073709551616 := by
  cases h : floatBits .quo .f64 x y with
  | some r =>
    refine ⟨r, 0, run_float_arith w .quo _ .f64 x y r h, .inl (by unfold quoN; rw [h]; rfl), ?_⟩
    have := floatBits_wf h
    simpa [Lit.wf] using this
  | none =>
    refine ⟨nanT x y w, 1, ?_, .inr ⟨(nanT_is x y w).1, by unfold quoN; rw [h]; exact nan_none⟩, (nanT_is x y w).2⟩
    have h' : FloatKind.f64.format.div x y = none := h
    simp [binOp, Op.floatArith, h', Question.forced]
    exact ⟨rfl, rfl⟩
theorem sub_run (x y : Nat) (w : World) : ∃ r n, (binOp .sub 25 (.float .f64 x) (.float .f64 y)).run Try.prog w = .ok (.float .f64 r) (w.drewN n) ∧ Eqv r (subN x y) ∧ r < 18446744073709551616 := by
  cases h : floatBits .sub .f64 x y with
  | some r =>
    refine ⟨r, 0, run_float_arith w .sub _ .f64 x y r h, .inl (by unfold subN; rw [h]; rfl), ?_⟩
    have := floatBits_wf h
    simpa [Lit.wf] using this
  | none =>
    refine ⟨nanT x y w, 1, ?_, .inr ⟨(nanT_is x y w).1, by unfold subN; rw [h]; exact nan_none⟩, (nanT_is x y w).2⟩
    have h' : FloatKind.f64.format.sub x y = none := h
    simp [binOp, Op.floatArith, h', Question.forced]
    exact ⟨rfl, rfl⟩
theorem subN_eqv (x : Nat) {r s : Nat} (h : Eqv r s) : Eqv (subN x r) (subN x s) := by
  rcases h with rfl | ⟨h1, h2⟩
  · exact .inl rfl
  · have hn : ∀ r, nanB r = true → floatBits .sub .f64 x r = none := by
      intro r hr
      obtain ⟨f, hf⟩ := read_nan r hr
      show Option.map _ _ = none
      rw [show FloatKind.f64.format = Ieee.double from rfl, hf]
      cases Ieee.double.read x <;> rfl
    exact .inl (by unfold subN; rw [hn r h1, hn s h2])
/-- What a call hands back: a number (any one, if it is none). -/
def IsF (s : Nat) (w : World) (e : Ending) (w' : World) : Prop := ∃ r, e = .returned (.float .f64 r) ∧ Eqv r s ∧ r < 18446744073709551616 ∧ Below w.heap.size w w'
theorem share_any (a b : Int) (w : World) : Calls Try.prog 22 #[.int .i64 a, .int .i64 b] w (IsF (shN a b) w) := by
  obtain ⟨r, n, h, h1, h2⟩ := quo_run (floatOfInt .f64 a) (floatOfInt .f64 b) w
  have H1 : Sh (Eqv r (shN a b)) := ⟨h1⟩
  clear h1
  go_enter Try.func22, Try.ntmps22
  go_wp2
  go_ret
  exact ⟨r, rfl, H1.out, h2, pw_below_drewN (Below.refl _ _) n⟩
theorem rshare_any (a b : Int) (w : World) : Calls Try.prog 23 #[.int .i64 a, .int .i64 b] w (IsF (shN a b) w) := by
  obtain ⟨r, n, h, h1, h2⟩ := quo_run (floatOfInt .f64 a) (floatOfInt .f64 b) w
  have H1 : Sh (Eqv r (shN a b)) := ⟨h1⟩
  clear h1
  go_enter Try.func23, Try.ntmps23
  go_wp2
  go_ret
  exact ⟨r, rfl, H1.out, h2, pw_below_drewN (Below.refl _ _) n⟩
end Go.Proofs.Ytojijdfgflcnjaa

