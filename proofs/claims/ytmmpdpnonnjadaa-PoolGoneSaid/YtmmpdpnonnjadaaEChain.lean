/- What the calls of a chain do to an arena: contracts. No statement is proved here. -/
import Derived.Test.YtmmpdpnonnjadaaENew
import Derived.Test.YtmmpdpnonnjadaaPrx
namespace Go.Proofs.Ytmmpdpnonnjadaa
set_option linter.unusedVariables false
set_option linter.unusedSimpArgs false
open Go.RowKit Go.Proofs.YtmmpdpnonnjadaaW.PrintWords Go.Proofs.YtmmpdpnonnjadaaW.PrintLast Go.Proofs.YtmmpdpnonnjadaaW.PrintMore

/-- The first of a chain that begins with h, in words m. -/
def popS (m : List Int) (h : Int) : Int × Int × Int :=
  if h = 0 then (0, 0, 2) else if h < 0 then (0, 0, 1) else if (m.length : Int) < h then (0, 0, 1) else if (m.length : Int) < rd0 m (h - 1).toNat then (0, 0, 6) else (h - 1, wrap64 (rd0 m (h - 1).toNat), 0)
/-- A word put ahead of a chain. -/
def pushS (m : List Int) (h a : Int) : List Int × Int × Int :=
  if h < 0 ∨ (m.length : Int) < h then (m, 0, 1) else if a < 0 ∨ (m.length : Int) ≤ a then (m, 0, 1) else (m.set a.toNat h, a + 1, 0)
/-- A walk that may tell n more. -/
def walkS (m : List Int) : Nat → Int → List Int → List Int × Int
  | 0, h, out => if h = 0 then (out, 0) else ([], 6)
  | n + 1, h, out => if h = 0 then (out, 0) else if (popS m h).2.2 = 0 then walkS m n (popS m h).2.1 (out ++ [(popS m h).1]) else ([], 6)
def walkT (m : List Int) (h most : Int) : List Int × Int := if h < 0 ∨ (m.length : Int) < h then ([], 1) else walkS m most.toNat h []

theorem pushS_len (m : List Int) (h a : Int) : (pushS m h a).1.length = m.length := by
  unfold pushS; split
  · rfl
  · split
    · rfl
    · simp
theorem popS_hi (m : List Int) (h : Int) : -9223372036854775808 ≤ (popS m h).2.1 ∧ (popS m h).2.1 ≤ 9223372036854775807 := by
  unfold popS
  repeat' split
  all_goals simp
  unfold wrap64; omega

theorem pop_nil (h : Int) (w : World) :
    Calls Try.prog 31 #[.pointer none, .int .i64 h] w fun e w' => e = .returned (.tuple #[.int .i64 0, .int .i64 0, .int .i64 2]) ∧ w = w' := by
  go_enter Try.func31, Try.ntmps31
  go_wp2
  go_ret3
  exact ⟨rfl, rfl⟩
set_option maxHeartbeats 1000000 in
theorem pop_any (ga gb : Nat) (m : List Int) (h : Int) (w : World) (ha : Ar w ga gb m) (h0 : -9223372036854775808 ≤ h) (h1 : h ≤ 9223372036854775807) :
    Calls Try.prog 31 #[.pointer (some ⟨ga, 0, none⟩), .int .i64 h] w fun e w' => e = .returned (.tuple #[.int .i64 (popS m h).1, .int .i64 (popS m h).2.1, .int .i64 (popS m h).2.2]) ∧ w = w' := by
  have hs := ha.small
  have HA := Sh.mk ha
  clear ha
  by_cases c0 : h = 0
  · subst h
    have e1 : popS m 0 = (0, 0, 2) := by unfold popS; rw [if_pos rfl]
    rw [e1]
    clear e1
    go_enter Try.func31, Try.ntmps31
    go_wp2
    go_ret3
    exact ⟨rfl, rfl⟩
  · have b0 : (h == 0) = false := beq_eq_false_iff_ne.mpr c0
    by_cases c1 : h < 0
    · have e1 : popS m h = (0, 0, 1) := by unfold popS; rw [if_neg c0, if_pos c1]
      rw [e1]
      clear e1 c0
      go_enter Try.func31, Try.ntmps31
      go_wp2
      go_ret3
      exact ⟨rfl, rfl⟩
    · by_cases c2 : (m.length : Int) < h
      · have e1 : popS m h = (0, 0, 1) := by unfold popS; rw [if_neg c0, if_neg c1, if_pos c2]
        rw [e1]
        have HT : Sh (¬ (0 ≤ h - 1 ∧ h - 1 < m.length)) := ⟨by omega⟩
        have c3 : 0 < h := by omega
        clear e1 c0 c1
        go_enter Try.func31, Try.ntmps31
        go_wp2_with fail
        (with_reducible refine (load_out ga gb m _ _ HA.out HT.out).mono ?_); rintro e w' ⟨rfl, rfl⟩
        go_wp2
        go_ret3
        exact ⟨rfl, rfl⟩
      · have c3 : 0 < h := by omega
        have c4 : h ≤ (m.length : Int) := by omega
        obtain ⟨x, hx⟩ : ∃ x, x = rd0 m (h - 1).toNat := ⟨_, rfl⟩
        have HX := Sh.mk hx
        by_cases c5 : (m.length : Int) < x
        · have e1 : popS m h = (0, 0, 6) := by unfold popS; rw [if_neg c0, if_neg c1, if_neg c2, if_pos (by rw [← hx]; exact c5)]
          rw [e1]
          clear e1 c0 c1 c2 hx
          have HT : Sh (0 ≤ h - 1 ∧ h - 1 < m.length) := ⟨by omega⟩
          go_enter Try.func31, Try.ntmps31
          go_wp2_with fail
          (with_reducible refine (load_in ga gb m _ _ HA.out HT.out.1 HT.out.2).mono ?_); rintro e w' ⟨rfl, rfl⟩
          rw [← HX.out]
          go_wp2_with fail
          (with_reducible refine (len_any ga gb m _ HA.out).mono ?_); rintro e w' ⟨rfl, rfl⟩
          go_wp2
          go_ret3
          exact ⟨rfl, rfl⟩
        · have e1 : popS m h = (h - 1, wrap64 x, 0) := by unfold popS; rw [if_neg c0, if_neg c1, if_neg c2, if_neg (by rw [← hx]; exact c5), ← hx]
          rw [e1]
          have c6 : x ≤ (m.length : Int) := by omega
          clear e1 c0 c1 c2 hx c5
          have HT : Sh (0 ≤ h - 1 ∧ h - 1 < m.length) := ⟨by omega⟩
          go_enter Try.func31, Try.ntmps31
          go_wp2_with fail
          (with_reducible refine (load_in ga gb m _ _ HA.out HT.out.1 HT.out.2).mono ?_); rintro e w' ⟨rfl, rfl⟩
          rw [← HX.out]
          go_wp2_with fail
          (with_reducible refine (len_any ga gb m _ HA.out).mono ?_); rintro e w' ⟨rfl, rfl⟩
          go_wp2
          go_ret3
          exact ⟨by first | rfl | (simp [IntKind.wrap, wrap64, IntKind.bits, IntKind.signed]; done), rfl⟩

theorem push_nil (h a : Int) (w : World) :
    Calls Try.prog 26 #[.pointer none, .int .i64 h, .int .i64 a] w fun e w' => e = .returned (.tuple #[.int .i64 0, .int .i64 2]) ∧ w = w' := by
  go_enter Try.func26, Try.ntmps26
  go_wp2
  go_ret2
  exact ⟨rfl, rfl⟩
set_option maxHeartbeats 1000000 in
theorem push_any (ga gb : Nat) (m : List Int) (h a : Int) (w : World) (ha : Ar w ga gb m) :
    Calls Try.prog 26 #[.pointer (some ⟨ga, 0, none⟩), .int .i64 h, .int .i64 a] w fun e w' => e = .returned (.tuple #[.int .i64 (pushS m h a).2.1, .int .i64 (pushS m h a).2.2]) ∧ Ar w' ga gb (pushS m h a).1 ∧ Kp [gb] w w' := by
  have hs := ha.small
  have HA := Sh.mk ha
  clear ha
  by_cases c1 : h < 0
  · have e1 : pushS m h a = (m, 0, 1) := by unfold pushS; rw [if_pos (.inl c1)]
    rw [e1]
    clear e1
    go_enter Try.func26, Try.ntmps26
    go_wp2
    go_ret2
    exact ⟨rfl, HA.out, Kp.refl _ _⟩
  · by_cases c2 : (m.length : Int) < h
    · have e1 : pushS m h a = (m, 0, 1) := by unfold pushS; rw [if_pos (.inr c2)]
      rw [e1]
      have c1' : 0 ≤ h := by omega
      clear e1 c1
      go_enter Try.func26, Try.ntmps26
      go_wp2_with fail
      (with_reducible refine (len_any ga gb m _ HA.out).mono ?_); rintro e w' ⟨rfl, rfl⟩
      go_wp2
      go_ret2
      exact ⟨rfl, HA.out, Kp.refl _ _⟩
    · have c1' : 0 ≤ h := by omega
      have c2' : h ≤ (m.length : Int) := by omega
      by_cases c3 : 0 ≤ a ∧ a < m.length
      · have e1 : pushS m h a = (m.set a.toNat h, a + 1, 0) := by unfold pushS; rw [if_neg (by omega), if_neg (by omega)]
        rw [e1]
        obtain ⟨c4, c5⟩ := c3
        clear e1 c1 c2
        go_enter Try.func26, Try.ntmps26
        go_wp2_with fail
        (with_reducible refine (len_any ga gb m _ HA.out).mono ?_); rintro e w' ⟨rfl, rfl⟩
        go_wp2_with fail
        (with_reducible refine (store_in ga gb m _ _ _ HA.out c4 c5).mono ?_); rintro e w2 ⟨rfl, g1, g2⟩
        have G1 := Sh.mk g1
        have G2 := Sh.mk g2
        clear g1 g2
        go_wp2
        go_ret2
        exact ⟨rfl, G1.out, G2.out⟩
      · have e1 : pushS m h a = (m, 0, 1) := by unfold pushS; rw [if_neg (by omega), if_pos (by omega)]
        rw [e1]
        have HT := Sh.mk c3
        clear e1 c1 c2 c3
        go_enter Try.func26, Try.ntmps26
        go_wp2_with fail
        (with_reducible refine (len_any ga gb m _ HA.out).mono ?_); rintro e w' ⟨rfl, rfl⟩
        go_wp2_with fail
        (with_reducible refine (store_out ga gb m _ _ _ HA.out HT.out).mono ?_); rintro e w2 ⟨rfl, rfl⟩
        go_wp2
        go_ret2
        exact ⟨rfl, HA.out, Kp.refl _ _⟩
end Go.Proofs.Ytmmpdpnonnjadaa
