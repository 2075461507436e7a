/- What kind of number a quotient of whole numbers is: plain laws. No statement is proved here. -/
import Derived.Test.YtojijdfgflcnjaaFlShare
namespace Go.Proofs.Ytojijdfgflcnjaa
set_option linter.unusedVariables false
set_option linter.unusedSimpArgs false
open Go.RowKit Fl Ieee

theorem log2_is {m k : Nat} (h1 : 2 ^ k ≤ m) (h2 : m < 2 ^ (k + 1)) : m.log2 = k := by
  have hm : m ≠ 0 := by have := Nat.two_pow_pos k; omega
  have a := (Nat.le_log2 hm).2 h1
  have b := (Nat.log2_lt hm).2 h2
  omega
theorem cut_zero (neg : Bool) (n : Nat) : Toward.even.cut neg n 0 = n := by
  simp [Toward.cut, Nat.mod_one]
theorem cut_le (neg : Bool) (n d : Nat) (hd : d ≤ n.log2 + 2) : Toward.even.cut neg n d ≤ n / 2 ^ d + 1 := by
  unfold Toward.cut
  simp only [Nat.min_eq_left hd, Nat.shiftLeft_eq, Nat.one_mul]
  have : ∀ b : Bool, b.toNat ≤ 1 := by decide
  have := this (decide (2 ^ d < 2 * (n % 2 ^ d)) || (2 ^ d == 2 * (n % 2 ^ d) && n / 2 ^ d % 2 == 1))
  omega
/-- A number of middling size is neither nought nor infinite. -/
theorem nearest_mid (neg : Bool) (mag : Nat) (place : Int) (hm : 0 < mag) (h1 : -900 ≤ place + mag.log2) (h2 : place + mag.log2 ≤ 900) :
    ∃ R, double.nearest neg mag place = double.word neg R ∧ 4503599627370496 * (place + mag.log2 + 1022).toNat ≤ R ∧ R ≤ 4503599627370496 * (place + mag.log2 + 1024).toNat ∧ R < 9218868437227405312 := by
  have hl1 : 2 ^ mag.log2 ≤ mag := Nat.log2_self_le (by omega)
  have hl2 : mag < 2 ^ (mag.log2 + 1) := Nat.lt_log2_self
  obtain ⟨L, hL⟩ : ∃ L, L = mag.log2 := ⟨_, rfl⟩
  obtain ⟨kept, hk⟩ : ∃ kept, kept = Toward.even.cut neg (mag <<< (place - (place + mag.log2 - 52)).toNat) (place + mag.log2 - 52 - place).toNat := ⟨_, rfl⟩
  have hkl : kept ≤ 9007199254740992 := by
    by_cases c : L ≤ 52
    · have e1 : (place + mag.log2 - 52 - place).toNat = 0 := by omega
      have e2 : (place - (place + mag.log2 - 52)).toNat = 52 - L := by omega
      rw [hk, e1, cut_zero, e2, Nat.shiftLeft_eq]
      have : mag * 2 ^ (52 - L) < 2 ^ (L + 1) * 2 ^ (52 - L) := Nat.mul_lt_mul_of_pos_right (by rw [hL]; exact hl2) (Nat.two_pow_pos _)
      rw [← Nat.pow_add, show L + 1 + (52 - L) = 53 by omega] at this
      omega
    · have e1 : (place + mag.log2 - 52 - place).toNat = L - 52 := by omega
      have e2 : (place - (place + mag.log2 - 52)).toNat = 0 := by omega
      rw [hk, e1, e2, Nat.shiftLeft_zero]
      have h3 := cut_le neg mag (L - 52) (by omega)
      have h4 : mag / 2 ^ (L - 52) < 2 ^ 53 := by
        rw [Nat.div_lt_iff_lt_mul (Nat.two_pow_pos _), ← Nat.pow_add, show 53 + (L - 52) = L + 1 by omega, hL]
        exact hl2
      omega
  refine ⟨min ((place + mag.log2 - 52 + 1074).toNat * 4503599627370496 + kept) 9218868437227405312, ?_, ?_, ?_, ?_⟩
  · unfold Format.nearest
    rw [if_neg (by omega)]
    simp only [lp, bn, ir]
    have e3 : (double.fractionBits : Int) = 52 := rfl
    have e4 : max (place + (mag.log2 : Int) - (double.fractionBits : Int)) (-1074) = place + mag.log2 - 52 := by rw [e3]; omega
    have e5 : (place + (mag.log2 : Int) - 52 - -1074).toNat = (place + mag.log2 - 52 + 1074).toNat := by omega
    rw [e4, ← hk, e5]
  all_goals clear hk hl1 hl2 hL
  all_goals generalize (mag.log2 : Int) = l at *
  all_goals omega
theorem word_rung (neg : Bool) (R : Nat) (h : R < 9223372036854775808) : rung (double.word neg R) = R ∧ negB (double.word neg R) = neg := by
  unfold Format.word rung negB
  rw [sw]
  cases neg
  · simp; omega
  · simp; omega
/-- A whole number that is not nought, as a float. -/
theorem of_int (n : Int) (h0 : n ≠ 0) (h1 : n.natAbs < 9223372036854775808) : ∃ m i, double.read (floatOfInt .f64 n) = .number (decide (n < 0)) m i ∧ 4503599627370496 ≤ m ∧ m < 9007199254740992 ∧ -60 ≤ i ∧ i ≤ 20 := by
  have hm : 0 < n.natAbs := by omega
  have hlg : n.natAbs.log2 < 63 := (Nat.log2_lt (by omega)).2 h1
  obtain ⟨R, e, r1, r2, r3⟩ := nearest_mid (decide (n < 0)) n.natAbs 0 hm (by omega) (by omega)
  have ef : floatOfInt .f64 n = double.word (decide (n < 0)) R := e
  obtain ⟨w1, w2⟩ := word_rung (decide (n < 0)) R (by omega)
  rw [ef, read_eq, w1, w2, if_neg (by omega), if_pos (by omega)]
  exact ⟨_, _, rfl, by omega, by omega, by omega, by omega⟩
theorem of_zero : double.read (floatOfInt .f64 0) = .number false 0 (-1074) := by decide +kernel
theorem quo_of (x y : Nat) (d : Datum) (h : Datum.quotient 54 (double.read x) (double.read y) = some d) : quoN x y = double.write d := by
  have : floatBits .quo .f64 x y = some (double.write d) := by
    show Option.map _ _ = _
    rw [show FloatKind.f64.format = double from rfl, show double.fractionBits + 2 = 54 from rfl, h]
    rfl
  unfold quoN
  rw [this]
  rfl
theorem quo_nan (x y : Nat) (h : Datum.quotient 54 (double.read x) (double.read y) = none) : quoN x y = 9221120237041090560 := by
  have : floatBits .quo .f64 x y = none := by
    show Option.map _ _ = _
    rw [show FloatKind.f64.format = double from rfl, show double.fractionBits + 2 = 54 from rfl, h]
    rfl
  unfold quoN
  rw [this]
  rfl
theorem kind_word (neg : Bool) (R : Nat) (h : R ≤ 9218868437227405312) : kindN (double.word neg R) = if R = 9218868437227405312 then (if neg then 1 else 6) else if R = 0 then (if neg then 3 else 4) else (if neg then 2 else 5) := by
  obtain ⟨w1, w2⟩ := word_rung neg R (by omega)
  unfold kindN nanB
  rw [w1, w2, decide_eq_false (by omega), if_neg (by simp)]
  rfl
/-- By nought. -/
theorem kind_by0 (a : Int) (h1 : a.natAbs < 9223372036854775808) : kindN (shN a 0) = if a < 0 then 1 else if a = 0 then 0 else 6 := by
  unfold shN
  by_cases h0 : a = 0
  · subst h0
    rw [quo_nan _ _ (by rw [of_zero]; rfl)]
    decide
  · obtain ⟨m, i, e, m1, m2, i1, i2⟩ := of_int a h0 h1
    rw [quo_of _ _ (.infinity (decide (a < 0) ^^ false)) (by rw [e, of_zero]; simp [Datum.quotient]; omega)]
    show kindN (double.word _ double.infRung) = _
    rw [ir, kind_word _ _ (Nat.le_refl _), if_pos rfl]
    by_cases c : a < 0 <;> simp [c, h0]
/-- Nought by it. -/
theorem kind_of0 (b : Int) (h1 : b.natAbs < 9223372036854775808) : kindN (shN 0 b) = if b < 0 then 3 else if b = 0 then 0 else 4 := by
  unfold shN
  by_cases h0 : b = 0
  · subst h0
    rw [quo_nan _ _ (by rw [of_zero]; rfl)]
    decide
  · obtain ⟨m, i, e, m1, m2, i1, i2⟩ := of_int b h0 h1
    rw [quo_of _ _ (.number (false ^^ decide (b < 0)) 0 (-1074 - i - (54 + m.log2 - 0) - 1)) (by rw [e, of_zero]; simp [Datum.quotient]; omega)]
    show kindN (double.nearest _ 0 _) = _
    unfold Format.nearest
    rw [if_pos rfl, kind_word _ _ (by omega)]
    by_cases c : b < 0 <;> simp [c, h0]
/-- One by the other. -/
theorem kind_quo (a b : Int) (ha : a ≠ 0) (hb : b ≠ 0) (h1 : a.natAbs < 9223372036854775808) (h2 : b.natAbs < 9223372036854775808) : kindN (shN a b) = if (a < 0 ↔ b < 0) then 5 else 2 := by
  obtain ⟨m, i, e, m1, m2, i1, i2⟩ := of_int a ha h1
  obtain ⟨n, j, e', n1, n2, j1, j2⟩ := of_int b hb h2
  have lm : m.log2 = 52 := log2_is (by omega) (by omega)
  have ln : n.log2 = 52 := log2_is (by omega) (by omega)
  obtain ⟨q, hq⟩ : ∃ q, q = m <<< 54 / n := ⟨_, rfl⟩
  have hq1 : 9007199254740992 ≤ q := by
    rw [hq, Nat.le_div_iff_mul_le (by omega), Nat.shiftLeft_eq]; omega
  have hq2 : q < 36028797018963968 := by
    rw [hq, Nat.div_lt_iff_lt_mul (by omega), Nat.shiftLeft_eq]; omega
  obtain ⟨t, ht⟩ : ∃ t, t = (m <<< 54 % n != 0).toNat := ⟨_, rfl⟩
  have ht1 : t ≤ 1 := by rw [ht]; generalize (m <<< 54 % n != 0) = z; revert z; decide
  unfold shN
  rw [quo_of _ _ (.number (decide (a < 0) ^^ decide (b < 0)) (2 * q + t) (i - j - 54 - 1)) (by
    rw [e, e']
    simp only [Datum.quotient, lm, ln]
    rw [if_neg (by omega)]
    simp [hq, ht])]
  show kindN (double.nearest _ _ _) = _
  have l1 : 54 ≤ (2 * q + t).log2 := (Nat.le_log2 (by omega)).2 (by omega)
  have l2 : (2 * q + t).log2 < 57 := (Nat.log2_lt (by omega)).2 (by omega)
  obtain ⟨R, eR, r1, r2, r3⟩ := nearest_mid (decide (a < 0) ^^ decide (b < 0)) (2 * q + t) (i - j - 54 - 1) (by omega) (by omega) (by omega)
  rw [eR, kind_word _ _ (by omega), if_neg (by omega), if_neg (by omega)]
  by_cases c : a < 0 <;> by_cases d : b < 0 <;> simp [c, d]
end Go.Proofs.Ytojijdfgflcnjaa
