/- Floats by their bits: plain laws. No statement is proved here. -/
import Derived.Laws.FloatArith
set_option linter.unusedSimpArgs false
namespace Go.Proofs.Ytojijdfgflcnjaa.Fl
open Ieee

/-- A word's rung: without its sign. -/
def rung (x : Nat) : Nat := x % 9223372036854775808
def negB (x : Nat) : Bool := x / 9223372036854775808 % 2 == 1
/-- Is it no number? -/
def nanB (x : Nat) : Bool := decide (9218868437227405312 < rung x)
def IR : Nat := 9218868437227405312

theorem sw : double.signWeight = 9223372036854775808 := by decide
theorem bn : double.binade = 4503599627370496 := by decide
theorem ir : double.infRung = 9218868437227405312 := by decide
theorem lp : double.leastPlace = -1074 := by decide

theorem read_eq (x : Nat) : double.read x =
    if rung x < 4503599627370496 then .number (negB x) (rung x) (-1074)
    else if rung x < 9218868437227405312 then .number (negB x) (4503599627370496 + rung x % 4503599627370496) (-1074 + (rung x / 4503599627370496 - 1 : Nat))
    else if rung x = 9218868437227405312 then .infinity (negB x)
    else .nan (negB x) (rung x - 9218868437227405312) := by
  unfold Format.read
  simp only [sw, bn, ir, lp]
  rfl

theorem cmp_int_refl (a : Int) : compare a a = .eq := by
  simp [compare, compareOfLessAndEq]
theorem cmp_nat_refl (a : Nat) : compare a a = .eq := by
  simp [compare, compareOfLessAndEq]
theorem cmp_int (a b : Int) : compare a b = if a < b then .lt else if a = b then .eq else .gt := rfl

theorem order_self (x : Nat) : double.order x x = if nanB x then none else some .eq := by
  unfold Format.order nanB
  rw [read_eq]
  by_cases h1 : rung x < 4503599627370496
  · rw [if_pos h1, if_neg (by simp; omega)]
    simp [Datum.order, cmp_int_refl]
  · rw [if_neg h1]
    by_cases h2 : rung x < 9218868437227405312
    · rw [if_pos h2, if_neg (by simp; omega)]
      simp [Datum.order, cmp_int_refl]
    · rw [if_neg h2]
      by_cases h3 : rung x = 9218868437227405312
      · rw [if_pos h3, if_neg (by simp; omega)]
        simp [Datum.order, cmp_nat_refl]
      · rw [if_neg h3, if_pos (by simp; omega)]
        simp [Datum.order]

/-- How it stands to nought. -/
def sgn (x : Nat) : Option Ordering := if nanB x then none else if rung x = 0 then some .eq else if negB x then some .lt else some .gt
theorem shl_pos (m k : Nat) (h : 0 < m) : 0 < m <<< k := by
  rw [Nat.shiftLeft_eq]
  exact Nat.mul_pos h (Nat.two_pow_pos _)
theorem cmp_signed (s : Bool) (m k : Nat) (h : 0 < m) : compare (signed s m k) 0 = if s then .lt else .gt := by
  have := shl_pos m k h
  rw [cmp_int]
  unfold signed
  cases s
  · simp only [Bool.false_eq_true, if_false]
    rw [if_neg (by omega), if_neg (by omega)]
  · simp only [if_true]
    rw [if_pos (by omega)]
theorem signed_zero (s : Bool) (k : Nat) : signed s 0 k = 0 := by
  unfold signed; cases s <;> simp
theorem order_zero (x : Nat) : double.order x 0 = sgn x := by
  unfold Format.order sgn nanB
  have h0 : double.read 0 = .number false 0 (-1074) := by decide
  rw [read_eq, h0]
  by_cases h1 : rung x < 4503599627370496
  · rw [if_pos h1, if_neg (by simp; omega)]
    by_cases hz : rung x = 0
    · rw [if_pos hz]
      simp [Datum.order, hz, signed_zero, cmp_int_refl]
    · rw [if_neg hz]
      simp [Datum.order, signed_zero, cmp_signed _ _ _ (show 0 < rung x by omega)]
      split <;> rfl
  · rw [if_neg h1]
    by_cases h2 : rung x < 9218868437227405312
    · rw [if_pos h2, if_neg (by simp; omega), if_neg (by omega)]
      simp only [Datum.order, signed_zero]
      rw [cmp_signed _ _ _ (by omega)]
      cases negB x <;> rfl
    · rw [if_neg h2]
      by_cases h3 : rung x = 9218868437227405312
      · rw [if_pos h3, if_neg (by simp; omega), if_neg (by omega)]
        simp only [Datum.order]
        cases negB x <;> rfl
      · rw [if_neg h3, if_pos (by simp; omega)]
        simp [Datum.order]
theorem order_swap_zero (x : Nat) : double.order 0 x = (sgn x).map Ordering.swap := by
  rw [← order_zero]
  unfold Format.order
  have h0 : double.read 0 = .number false 0 (-1074) := by decide
  rw [h0]
  cases double.read x with
  | nan => rfl
  | infinity s => cases s <;> rfl
  | number s m i =>
    simp only [Datum.order, Option.map_some]
    rw [Int.min_comm]
    congr 1
    simp only [signed_zero]
    by_cases h : m = 0
    · subst h
      rw [signed_zero, cmp_int_refl]
      rfl
    · rw [cmp_signed _ _ _ (by omega)]
      have : compare (0 : Int) (signed s m ((i - min i (-1074)).toNat)) = (compare (signed s m ((i - min i (-1074)).toNat)) 0).swap := by
        rw [cmp_int, cmp_int]
        generalize signed s m _ = z
        by_cases a : z < 0
        · rw [if_pos a, if_neg (by omega), if_neg (by omega)]; rfl
        · rw [if_neg a]
          by_cases b : z = 0
          · subst b; rfl
          · rw [if_neg b, if_pos (by omega)]; rfl
      rw [this, cmp_signed _ _ _ (by omega)]

theorem read_fin (x : Nat) (h : rung x < IR) : ∃ m i, double.read x = .number (negB x) m i ∧ m ≤ 9007199254740991 ∧ i ≤ 971 ∧ (m = 0 ↔ rung x = 0) := by
  unfold IR at h
  rw [read_eq]
  by_cases h1 : rung x < 4503599627370496
  · rw [if_pos h1]
    exact ⟨_, _, rfl, by omega, by omega, Iff.rfl⟩
  · rw [if_neg h1, if_pos h]
    exact ⟨_, _, rfl, by omega, by omega, by constructor <;> intro h <;> omega⟩
theorem read_inf (x : Nat) (h : rung x = IR) : double.read x = .infinity (negB x) := by
  unfold IR at h
  rw [read_eq, if_neg (by omega), if_neg (by omega), if_pos h]
theorem read_nan (x : Nat) (h : nanB x = true) : ∃ f, double.read x = .nan (negB x) f := by
  have h : 9218868437227405312 < rung x := by simpa [nanB] using h
  rw [read_eq, if_neg (by omega), if_neg (by omega), if_neg (by omega)]
  exact ⟨_, rfl⟩
theorem nan_no (x : Nat) (h : rung x ≤ IR) : nanB x = false := by
  unfold IR at h
  simp [nanB]; omega
theorem nan_or (x : Nat) : nanB x = true ∨ rung x ≤ IR := by
  unfold nanB IR
  simp; omega
theorem shl_le (m k : Nat) : m ≤ m <<< k := by
  rw [Nat.shiftLeft_eq]
  exact Nat.le_mul_of_pos_right _ (Nat.two_pow_pos _)
theorem cmp_gt {a b : Int} (h : a ≤ b) : compare a b ≠ .gt := by
  rw [cmp_int]
  by_cases c : a < b
  · rw [if_pos c]; simp
  · rw [if_neg c, if_pos (by omega)]; simp
theorem cmp_lt {a b : Int} (h : b ≤ a) : compare a b ≠ .lt := by
  rw [cmp_int, if_neg (by omega)]
  split <;> simp
/-- Against the greatest number. -/
theorem order_max (x : Nat) : (double.order x 9218868437227405311 == some .gt) = (!nanB x && decide (rung x = IR) && !negB x) := by
  have h0 : double.read 9218868437227405311 = .number false 9007199254740991 971 := by decide
  unfold Format.order
  rw [h0]
  rcases nan_or x with hn | hr
  · obtain ⟨f, hf⟩ := read_nan x hn
    rw [hf, hn]
    simp [Datum.order]
  · rw [nan_no x hr]
    rcases Nat.lt_or_ge (rung x) IR with h | h
    · obtain ⟨m, i, hm, h1, h2, -⟩ := read_fin x h
      rw [hm, decide_eq_false (by omega)]
      simp only [Datum.order]
      have e : min i 971 = i := by omega
      have e0 : (i - i).toNat = 0 := by omega
      have h3 := shl_le 9007199254740991 (971 - i).toNat
      have : compare (signed (negB x) m 0) (signed false 9007199254740991 (971 - i).toNat) ≠ .gt := by
        apply cmp_gt
        unfold signed
        simp only [Nat.shiftLeft_zero, Bool.false_eq_true, if_false]
        split <;> omega
      rw [e, e0]
      simpa using this
    · rw [read_inf x (by omega), decide_eq_true (by omega)]
      cases negB x <;> rfl
theorem order_min (x : Nat) : (double.order x 18442240474082181119 == some .lt) = (!nanB x && decide (rung x = IR) && negB x) := by
  have h0 : double.read 18442240474082181119 = .number true 9007199254740991 971 := by decide
  unfold Format.order
  rw [h0]
  rcases nan_or x with hn | hr
  · obtain ⟨f, hf⟩ := read_nan x hn
    rw [hf, hn]
    simp [Datum.order]
  · rw [nan_no x hr]
    rcases Nat.lt_or_ge (rung x) IR with h | h
    · obtain ⟨m, i, hm, h1, h2, -⟩ := read_fin x h
      rw [hm, decide_eq_false (by omega)]
      simp only [Datum.order]
      have e : min i 971 = i := by omega
      have e0 : (i - i).toNat = 0 := by omega
      have h3 := shl_le 9007199254740991 (971 - i).toNat
      have : compare (signed (negB x) m 0) (signed true 9007199254740991 (971 - i).toNat) ≠ .lt := by
        apply cmp_lt
        unfold signed
        simp only [Nat.shiftLeft_zero, if_true]
        split <;> omega
      rw [e, e0]
      simpa using this
    · rw [read_inf x (by omega), decide_eq_true (by omega)]
      cases negB x <;> rfl

/-- What kind of number it is. -/
def kindN (x : Nat) : Int :=
  if nanB x then 0 else if rung x = IR then (if negB x then 1 else 6) else if rung x = 0 then (if negB x then 3 else 4) else (if negB x then 2 else 5)
end Go.Proofs.Ytojijdfgflcnjaa.Fl
