/- Floats: words, ranks, kinds, shares: contracts. No statement is proved here. -/
import Derived.Test.YtojijdfgflcnjaaFlOps
import Derived.WalkLawsBesides
import Derived.Laws.BitsLemmas
import Derived.Laws.Bits64
namespace Go.Proofs.Ytojijdfgflcnjaa
set_option linter.unusedVariables false
set_option linter.unusedSimpArgs false
open Go.RowKit Go.Proofs.YtojijdfgflcnjaaW.PrintWords Go.Proofs.YtojijdfgflcnjaaW.PrintLast Fl

/-- A number's word; one of all that are no number. -/
def wd (x : Nat) : Int := if nanB x then 9221120237041090560 else (x : Int)
/-- Alike, but for which of those that are no number it is. -/
def Eqv (r s : Nat) : Prop := r = s ∨ (nanB r = true ∧ nanB s = true)
theorem Eqv.refl (r : Nat) : Eqv r r := .inl rfl
theorem Eqv.wd {r s : Nat} (h : Eqv r s) : wd r = wd s := by
  rcases h with rfl | ⟨h1, h2⟩
  · rfl
  · unfold Go.Proofs.Ytojijdfgflcnjaa.wd; rw [h1, h2]; rfl
theorem Eqv.kind {r s : Nat} (h : Eqv r s) : kindN r = kindN s := by
  rcases h with rfl | ⟨h1, h2⟩
  · rfl
  · unfold kindN; rw [h1, h2]; rfl
theorem Eqv.nan {r s : Nat} (h : Eqv r s) : nanB r = nanB s := by
  rcases h with rfl | ⟨h1, h2⟩
  · rfl
  · rw [h1, h2]

section
attribute [local go_sem] unary_negf
theorem nan_any (w : World) : Calls Try.prog 35 #[] w fun e w' => e = .returned (.float .f64 9221120237041090561) ∧ w = w' := by
  have e0 := from_run
  go_enter Try.func35, Try.ntmps35
  go_wp2
  go_ret
  exact ⟨rfl, rfl⟩
theorem num_any (x : Int) (w : World) : Calls Try.prog 27 #[.int .u64 x] w fun e w' => e = .returned (.float .f64 x.toNat) ∧ w = w' := by
  have e0 := from_run
  go_enter Try.func27, Try.ntmps27
  go_wp2
  go_ret
  exact ⟨rfl, rfl⟩
theorem rnum_any (x : Int) (w : World) : Calls Try.prog 18 #[.int .u64 x] w fun e w' => e = .returned (.float .f64 x.toNat) ∧ w = w' := by
  have e0 := from_run
  go_enter Try.func18, Try.ntmps18
  go_wp2
  go_ret
  exact ⟨rfl, rfl⟩
theorem word_any (x : Nat) (w : World) : Calls Try.prog 19 #[.float .f64 x] w fun e w' => e = .returned (.int .u64 (wd x)) ∧ w = w' := by
  have e0 := bits_run
  unfold wd
  cases hn : nanB x with
  | true =>
    rw [if_pos rfl]
    go_enter Try.func19, Try.ntmps19
    go_wp2_with (go_at_call 39; (with_reducible refine (isNaN_any x _).mono ?_); rintro e w' ⟨rfl, rfl⟩)
    go_ret
    exact ⟨rfl, rfl⟩
  | false =>
    rw [if_neg (by simp)]
    go_enter Try.func19, Try.ntmps19
    go_wp2_with (go_at_call 39; (with_reducible refine (isNaN_any x _).mono ?_); rintro e w' ⟨rfl, rfl⟩)
    go_ret
    exact ⟨rfl, rfl⟩
theorem rword_any (x : Nat) (w : World) : Calls Try.prog 14 #[.float .f64 x] w fun e w' => e = .returned (.int .u64 (wd x)) ∧ w = w' := by
  have e0 := bits_run
  have h := t_ne x
  unfold wd
  cases hn : nanB x with
  | true =>
    rw [hn] at h
    rw [if_pos rfl]
    go_enter Try.func14, Try.ntmps14
    go_wp2
    go_ret
    exact ⟨rfl, rfl⟩
  | false =>
    rw [hn] at h
    rw [if_neg (by simp)]
    go_enter Try.func14, Try.ntmps14
    go_wp2
    go_ret
    exact ⟨rfl, rfl⟩

/-- A word that rises with the number. -/
def rk (a : Int) : Int := if 9223372036854775808 ≤ a then 18446744073709551615 - a else a + 9223372036854775808
theorem wr64 (n : Int) (h0 : 0 ≤ n) (h1 : n < 2 ^ 64) : IntKind.u64.wrap n = n := by rw [IntKind.wrap_u64]; omega
theorem top_or (a : Int) (h0 : 0 ≤ a) (h1 : a < 9223372036854775808) : bits .or .u64 a 9223372036854775808 = a + 9223372036854775808 := by
  obtain ⟨n, rfl⟩ := Int.eq_ofNat_of_zero_le h0
  have h := (bits_nat .u64 64 (by decide) wr64 n 9223372036854775808 (by omega) (by omega)).2
  have h2 := Nat.two_pow_add_eq_or_of_lt (i := 63) (b := n) (by omega) 1
  rw [Nat.or_comm] at h2
  simp only [Nat.reducePow, Nat.mul_one] at h2
  rw [← h2] at h
  rw [show ((9223372036854775808 : Nat) : Int) = 9223372036854775808 from rfl] at h
  rw [h]; omega
theorem top_and (a : Int) (h0 : 0 ≤ a) (h1 : a < 18446744073709551616) : (bits .and .u64 a 9223372036854775808 != 0) = decide (9223372036854775808 ≤ a) := by
  obtain ⟨n, rfl⟩ := Int.eq_ofNat_of_zero_le h0
  have h := (bits_nat .u64 64 (by decide) wr64 n 9223372036854775808 (by omega) (by omega)).1
  have q1 := Nat.and_div_two_pow (a := n) (b := 9223372036854775808) (n := 63)
  have q2 := Nat.and_mod_two_pow (a := n) (b := 9223372036854775808) (n := 63)
  simp only [Nat.reducePow, Nat.reduceMod, Nat.reduceDiv, Nat.and_zero] at q1 q2
  rw [show ((9223372036854775808 : Nat) : Int) = 9223372036854775808 from rfl] at h
  rw [h]
  have hq : n / 9223372036854775808 = 0 ∨ n / 9223372036854775808 = 1 := by omega
  rcases hq with c | c
  · rw [c] at q1
    simp only [Nat.zero_and] at q1
    have e1 : n &&& 9223372036854775808 = 0 := by omega
    rw [e1, decide_eq_false (by omega)]
    rfl
  · rw [c] at q1
    simp only [Nat.and_self] at q1
    have e1 : n &&& 9223372036854775808 = 9223372036854775808 := by omega
    rw [e1, decide_eq_true (by omega)]
    rfl
theorem top_not (a : Int) (h0 : 0 ≤ a) (h1 : a < 18446744073709551616) : bits .xor .u64 IntKind.u64.max a = 18446744073709551615 - a := by
  obtain ⟨n, rfl⟩ := Int.eq_ofNat_of_zero_le h0
  show IntKind.u64.wrap ((BitVec.ofInt 64 (18446744073709551615) ^^^ BitVec.ofInt 64 (n : Int)).toNat : Int) = _
  have h1' : BitVec.ofInt 64 18446744073709551615 = BitVec.allOnes 64 := by decide
  have h2 : (BitVec.ofInt 64 (n : Int)).toNat = n := by
    rw [BitVec.ofInt_natCast, BitVec.toNat_ofNat]; exact Nat.mod_eq_of_lt (by omega)
  rw [h1', BitVec.allOnes_xor, BitVec.toNat_not, h2, IntKind.wrap_u64]
  omega
theorem rank_any (a : Int) (h0 : 0 ≤ a) (h1 : a < 18446744073709551616) (w : World) : Calls Try.prog 33 #[.int .u64 a] w fun e w' => e = .returned (.int .u64 (rk a)) ∧ w = w' := by
  have ha := top_and a h0 h1
  unfold rk
  by_cases h : 9223372036854775808 ≤ a
  · rw [if_pos h]
    have hx := top_not a h0 h1
    rw [decide_eq_true h] at ha
    go_enter Try.func33, Try.ntmps33
    go_wp2
    go_ret
    exact ⟨rfl, rfl⟩
  · rw [if_neg h]
    have hx := top_or a h0 (by omega)
    rw [decide_eq_false h] at ha
    go_enter Try.func33, Try.ntmps33
    go_wp2
    go_ret
    exact ⟨rfl, rfl⟩
theorem rrank_any (a : Int) (h0 : 0 ≤ a) (h1 : a < 18446744073709551616) (w : World) : Calls Try.prog 56 #[.int .u64 a] w fun e w' => e = .returned (.int .u64 (rk a)) ∧ w = w' := by
  unfold rk
  by_cases h : 9223372036854775808 ≤ a
  · rw [if_pos h]
    have hx := top_not a h0 h1
    have hd : (a / 9223372036854775808 == 1) = true := by rw [beq_iff_eq]; omega
    go_enter Try.func56, Try.ntmps56
    go_wp2
    go_ret
    exact ⟨rfl, rfl⟩
  · rw [if_neg h]
    have hx := top_or a h0 (by omega)
    have hd : (a / 9223372036854775808 == 1) = false := by rw [beq_eq_false_iff_ne]; omega
    go_enter Try.func56, Try.ntmps56
    go_wp2
    go_ret
    exact ⟨rfl, rfl⟩

theorem kind_any (x : Nat) (hx : x < 18446744073709551616) (w : World) : Calls Try.prog 20 #[.float .f64 x] w fun e w' => e = .returned (.int .i64 (kindN x)) ∧ w = w' := by
  have h1 := t_lt0 x
  have h2 := t_eq0 x
  have I1 := isInf_neg x
  have I2 := isInf_pos x
  unfold kindN
  obtain ⟨bi, hbi⟩ : ∃ b, b = decide (rung x = IR) := ⟨_, rfl⟩
  obtain ⟨bz, hbz⟩ : ∃ b, b = decide (rung x = 0) := ⟨_, rfl⟩
  have HS := Sh.mk (signbit_any x hx)
  have HN := Sh.mk (isNaN_any x)
  obtain ⟨s, hs⟩ : ∃ s, s = negB x := ⟨_, rfl⟩
  obtain ⟨n, hn⟩ : ∃ s, s = nanB x := ⟨_, rfl⟩
  have hiz : bi = true → bz = true → False := by
    rw [hbi, hbz]; simp only [decide_eq_true_eq]; intro a b; unfold IR at a; omega
  have e1 : (rung x = IR) ↔ bi = true := by rw [hbi]; simp
  have e2 : (rung x = 0) ↔ bz = true := by rw [hbz]; simp
  simp only [← hs, ← hn, ← hbi, ← hbz] at h1 h2 I1 I2 HS HN ⊢
  simp only [e1, e2]
  clear hbi hbz hs hn e1 e2
  have HI1 := Sh.mk I1
  have HI2 := Sh.mk I2
  clear I1 I2
  cases n <;> cases bi <;> cases bz <;> cases s
  all_goals (first | exact (hiz rfl rfl).elim | skip)
  all_goals clear hiz
  all_goals simp only [Bool.not_true, Bool.not_false, Bool.true_and, Bool.false_and, Bool.and_true, Bool.and_false, if_true, Bool.false_eq_true, if_false] at h1 h2 HI1 HI2 HS HN ⊢
  all_goals
    go_enter Try.func20, Try.ntmps20
    go_wp2_with (first
      | (go_at_call 39; (with_reducible refine (HN.out _).mono ?_); rintro e w' ⟨rfl, rfl⟩)
      | (go_at_call 40; (with_reducible refine (HI1.out _).mono ?_); rintro e w' ⟨rfl, rfl⟩)
      | (go_at_call 40; (with_reducible refine (HI2.out _).mono ?_); rintro e w' ⟨rfl, rfl⟩)
      | (go_at_call 41; (with_reducible refine (HS.out _).mono ?_); rintro e w' ⟨rfl, rfl⟩))
    go_ret
    exact ⟨rfl, rfl⟩
end
end Go.Proofs.Ytojijdfgflcnjaa
