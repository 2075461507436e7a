/- The walk of the statement TallyEdges: each kind is what it says: of a quotient of noughts, of one by nought, of a nought below nought, of all others by their signs. -/
import Derived.Test.YtojijdfgflcnjaaFlAwake
import Derived.Test.YtojijdfgflcnjaaFlDiv
import Derived.Test.YtojijdfgflcnjaaPrx2
namespace Go.Proofs.Ytojijdfgflcnjaa
set_option linter.unusedVariables false
open Go.RowKit Go.Proofs.YtojijdfgflcnjaaW.PrintWords Go.Proofs.YtojijdfgflcnjaaW.PrintLast Go.Proofs.YtojijdfgflcnjaaW.PrintMore Fl Pr

section
attribute [local go_sem] unary_negf
theorem neg0_any (w : World) : Calls Try.prog 28 #[.int .u64 0] w fun e w' => e = .returned (.int .u64 9223372036854775808) ∧ w = w' := by
  have e1 : Op.negFloat .f64 0 = 9223372036854775808 := by decide
  have e2 : wd 9223372036854775808 = 9223372036854775808 := by decide
  have E2 := Sh.mk e2
  clear e2
  go_enter Try.func28, Try.ntmps28
  go_wp2_with fail
  (with_reducible refine (num_any _ _).mono ?_); rintro e w' ⟨rfl, rfl⟩
  go_wp2_with fail
  (with_reducible refine (word_any _ _).mono ?_); rintro e w' ⟨rfl, rfl⟩
  rw [E2.out]
  go_wp2
  go_ret
  exact ⟨rfl, rfl⟩
end
/-- What a sign is. -/
def sgI (a s : Int) : Prop := rickyardlaw30_sign.f a = some s
theorem i32_of {x : Int} (h : (Lit.int .i32 x).wf = true) : -2147483648 ≤ x ∧ x ≤ 2147483647 := by
  simp only [Lit.wf, Bool.and_eq_true, decide_eq_true_eq] at h
  have h1 : IntKind.i32.min = -2147483648 := by decide
  have h2 : IntKind.i32.max = 2147483647 := by decide
  omega
theorem drawn_below {w w' : World} (h : Drawn0 w w') : Below w.heap.size w w' := by
  obtain ⟨n, rfl⟩ := h
  exact pw_below_drewN (Below.refl _ _) n
theorem bt {a b c : World} (h : Below a.heap.size a b) (k : Below b.heap.size b c) : Below a.heap.size a c := below_then h h.size k
set_option maxHeartbeats 8000000 in
/-- One way through: the signs, and the three kinds. -/
theorem edges_way (a b sa sb k1 k2 k3 : Int) (w : World) (ha : -2147483648 ≤ a ∧ a ≤ 2147483647) (hb : -2147483648 ≤ b ∧ b ≤ 2147483647)
    (hs : (sa = -1 ∧ k1 = 1) ∨ (sa = 0 ∧ k1 = 0) ∨ (sa = 1 ∧ k1 = 6)) (hs' : (sb = -1 ∧ k2 = 3) ∨ (sb = 0 ∧ k2 = 0) ∨ (sb = 1 ∧ k2 = 4)) (hz : (sa = 0 ↔ a = 0) ∧ (sb = 0 ↔ b = 0))
    (h3 : k3 = if sb = 0 then k1 else if sa = 0 then k2 else if sa = sb then 5 else 2)
    (S1 : Sh (∀ w, Calls Try.prog 26 #[.int .i64 a] w fun e w' => e = .returned (.int .i64 sa) ∧ Drawn0 w w')) (S2 : Sh (∀ w, Calls Try.prog 26 #[.int .i64 b] w fun e w' => e = .returned (.int .i64 sb) ∧ Drawn0 w w'))
    (K1 : Sh (kindN (shN a 0) = k1)) (K2 : Sh (kindN (shN 0 b) = k2)) (K3 : Sh (kindN (shN a b) = k3)) :
    Calls Try.prog 8 #[.int .i32 a, .int .i32 b] w fun e w' => e = .returned (.bool true) ∧ Below w.heap.size w w' := by
  obtain ⟨ha0, ha1⟩ := ha
  obtain ⟨hb0, hb1⟩ := hb
  have za : (a == 0) = decide (sa = 0) := by
    rw [Bool.eq_iff_iff, beq_iff_eq, decide_eq_true_eq]; exact hz.1.symm
  have zb : (b == 0) = decide (sb = 0) := by
    rw [Bool.eq_iff_iff, beq_iff_eq, decide_eq_true_eq]; exact hz.2.symm
  have kn : kindN 9223372036854775808 = 3 := by decide
  have k0 : kindN 0 = 4 := by decide
  have KN := Sh.mk kn
  have K0 := Sh.mk k0
  clear hz kn k0
  rcases hs with ⟨rfl, rfl⟩ | ⟨rfl, rfl⟩ | ⟨rfl, rfl⟩ <;> rcases hs' with ⟨rfl, rfl⟩ | ⟨rfl, rfl⟩ | ⟨rfl, rfl⟩
  all_goals simp only [Int.reduceNeg, Int.reduceEq, if_true, if_false, decide_true, decide_false, reduceCtorEq] at h3 za zb
  all_goals subst h3
  all_goals
    go_enter Try.func8, Try.ntmps8
    go_wp2_with fail
    (with_reducible refine (share_any a 0 _).mono ?_); rintro e w1 ⟨r1, rfl, h1, h2, h3⟩
    have E1 := Sh.mk (h1.kind.trans K1.out)
    have L1 := Sh.mk h2
    have B1 := Sh.mk h3
    clear h1 h2 h3
    go_wp2_with fail
    (with_reducible refine (share_any 0 b _).mono ?_); rintro e w2 ⟨r2, rfl, h1, h2, h3⟩
    have E2 := Sh.mk (h1.kind.trans K2.out)
    have L2 := Sh.mk h2
    have B2 : Sh (Below w.heap.size w w2) := ⟨below_then B1.out B1.out.size h3⟩
    clear h1 h2 h3
    go_wp2_with fail
    (with_reducible refine (S1.out _).mono ?_); rintro e w3 ⟨rfl, n3, rfl⟩
    go_wp2_with fail
    (with_reducible refine (S2.out _).mono ?_); rintro e w4 ⟨rfl, n4, rfl⟩
    go_wp2_with fail
    (with_reducible refine (share_any a b _).mono ?_); rintro e w5 ⟨r3, rfl, h1, h2, h3⟩
    have E3 := Sh.mk (h1.kind.trans K3.out)
    have L3 := Sh.mk h2
    have B5 : Sh (Below w.heap.size w w5) := ⟨bt (by repeat (first | exact B2.out | apply below_alloc | apply pw_below_drewN)) h3⟩
    clear h1 h2 h3
    go_wp2_with fail
    (with_reducible refine (S1.out _).mono ?_); rintro e w6 ⟨rfl, h6⟩
    have B6 : Sh (Below w.heap.size w w6) := ⟨bt B5.out (drawn_below h6)⟩
    clear h6
    go_wp2_with fail
    (with_reducible refine (S2.out _).mono ?_); rintro e w7 ⟨rfl, h7⟩
    have B7 : Sh (Below w.heap.size w w7) := ⟨bt B6.out (drawn_below h7)⟩
    clear h7
    go_wp2_with fail
    (with_reducible refine (kind_any r1 L1.out _).mono ?_); rintro e w' ⟨rfl, rfl⟩
    rw [E1.out]
    go_wp2_with fail
    (with_reducible refine (kind_any r2 L2.out _).mono ?_); rintro e w' ⟨rfl, rfl⟩
    rw [E2.out]
    go_wp2_with fail
    (with_reducible refine (kind_any r3 L3.out _).mono ?_); rintro e w' ⟨rfl, rfl⟩
    rw [E3.out]
    go_wp2_with fail
    (with_reducible refine (neg0_any _).mono ?_); rintro e w' ⟨rfl, rfl⟩
    go_wp2_with fail
    (with_reducible refine (num_any _ _).mono ?_); rintro e w' ⟨rfl, rfl⟩
    go_wp2_with fail
    refine (kind_any 9223372036854775808 (by decide) _).mono ?_; rintro e w' ⟨rfl, rfl⟩
    rw [KN.out]
    go_wp2_with fail
    refine (kind_any 0 (by decide) _).mono ?_; rintro e w' ⟨rfl, rfl⟩
    rw [K0.out]
    go_wp2_with fail
    (with_reducible refine (awake_any _).mono ?_); rintro e w8 ⟨rfl, h3⟩
    have B8 : Sh (Below w.heap.size w w8) := ⟨bt (by repeat (first | exact B7.out | apply below_alloc | apply pw_below_drewN)) h3⟩
    clear h3
    go_wp2
    go_ret
    exact ⟨rfl, B8.out⟩
set_option maxHeartbeats 1000000 in
theorem tallyEdges_walk (a b : Int) (w : World) (h0 : (Lit.int .i32 a).wf = true) (h1 : (Lit.int .i32 b).wf = true) :
    Calls Try.prog 8 #[.int .i32 a, .int .i32 b] w fun e w' => e = .returned (.bool true) ∧ Below w.heap.size w w' := by
  have ha := i32_of h0
  have hb := i32_of h1
  have q1 := kind_by0 a (by omega)
  have q2 := kind_of0 b (by omega)
  have q3 : kindN (shN a b) = if b = 0 then kindN (shN a 0) else if a = 0 then kindN (shN 0 b) else if (a < 0 ↔ b < 0) then 5 else 2 := by
    by_cases c : b = 0
    · rw [if_pos c, c]
    · rw [if_neg c]
      by_cases d : a = 0
      · rw [if_pos d, d]
      · rw [if_neg d]; exact kind_quo a b d c (by omega) (by omega)
  have S : ∀ x : Int, ∃ s : Int, rickyardlaw30_sign.f x = some s ∧ ((x < 0 ∧ s = -1) ∨ (x = 0 ∧ s = 0) ∨ (0 < x ∧ s = 1)) := by
    intro x
    unfold rickyardlaw30_sign.f
    by_cases c : x < 0
    · exact ⟨-1, by rw [if_pos c], .inl ⟨c, rfl⟩⟩
    · by_cases d : x > 0
      · exact ⟨1, by rw [if_neg c, if_pos d], .inr (.inr ⟨d, rfl⟩)⟩
      · exact ⟨0, by rw [if_neg c, if_neg d], .inr (.inl ⟨by omega, rfl⟩)⟩
  obtain ⟨sa, f1, g1⟩ := S a
  obtain ⟨sb, f2, g2⟩ := S b
  refine edges_way a b sa sb (kindN (shN a 0)) (kindN (shN 0 b)) (kindN (shN a b)) w ha hb ?_ ?_ ⟨by omega, by omega⟩ ?_ ⟨fun w => rickyardlaw30_sign.calls a sa w f1⟩ ⟨fun w => rickyardlaw30_sign.calls b sb w f2⟩ ⟨rfl⟩ ⟨rfl⟩ ⟨rfl⟩
  · rw [q1]
    rcases g1 with ⟨c, rfl⟩ | ⟨c, rfl⟩ | ⟨c, rfl⟩
    · simp [c]
    · simp [c]
    · rw [if_neg (by omega), if_neg (by omega)]; simp
  · rw [q2]
    rcases g2 with ⟨c, rfl⟩ | ⟨c, rfl⟩ | ⟨c, rfl⟩
    · simp [c]
    · simp [c]
    · rw [if_neg (by omega), if_neg (by omega)]; simp
  · rw [q3]
    generalize kindN (shN a 0) = x
    generalize kindN (shN 0 b) = y
    clear q1 q2 q3 S f1 f2
    rcases g1 with ⟨c, rfl⟩ | ⟨c, rfl⟩ | ⟨c, rfl⟩ <;> rcases g2 with ⟨d, rfl⟩ | ⟨d, rfl⟩ | ⟨d, rfl⟩
    all_goals (repeat' split) <;> first | rfl | omega
end Go.Proofs.Ytojijdfgflcnjaa
