/- The walk of the statement ChainNone: where there is no arena each call says so; what is refused turns no word. -/
import Derived.Test.YtncmebefgklpjaaLaw9
namespace Go.Proofs.Ytncmebefgklpjaa
set_option linter.unusedVariables false
open Go.RowKit Go.Proofs.YtncmebefgklpjaaW.PrintWords Go.Proofs.YtncmebefgklpjaaW.PrintLast Go.Proofs.YtncmebefgklpjaaW.PrintMore
attribute [local go_sem] max2_mx min2_mn max_two min_two

set_option maxRecDepth 100000 in
set_option maxHeartbeats 4000000 in
theorem chainNone_walk (a0 a1 a2 : Int) (A3 : Option Addr) (c3 : Nat) (l3 : List Int) (w : World) (w0 : (Lit.int .i64 a0).wf = true) (w1 : (Lit.int .i64 a1).wf = true) (w2 : (Lit.int .i64 a2).wf = true)
    (hr3 : Kd.C (Kd.int .u64) w A3 l3.length l3) (hc3 : l3.length ≤ c3) (hw3 : ∀ x ∈ l3, (Lit.int .u64 x).wf = true) (y3 : l3.length * 8 ≤ 140737488351232) :
    Calls Try.prog 14 #[.int .i64 a0, .int .i64 a1, .int .i64 a2, .slice A3 l3.length c3] w fun e w' => e = .returned (.bool true) ∧ Below w.heap.size w w' := by
  clear w0 w1 w2 hw3
  have hl : l3.length ≤ 17592186044416 := by omega
  have HR := Sh.mk hr3
  have q : ∀ a : Int, 0 ≤ (mx a 0).tmod 1000 ∧ (mx a 0).tmod 1000 < 1000 := fun a => by
    have h : 0 ≤ mx a 0 := by unfold mx; split <;> omega
    exact ⟨Int.tmod_nonneg _ h, Int.tmod_lt_of_pos _ (by omega)⟩
  obtain ⟨u1, hu1⟩ : ∃ u, u = (mx a1 0).tmod 1000 := ⟨_, rfl⟩
  obtain ⟨u0, hu0⟩ : ∃ u, u = (mx a0 0).tmod 1000 := ⟨_, rfl⟩
  obtain ⟨q1, q1'⟩ := q a1
  obtain ⟨q0, q0'⟩ := q a0
  rw [← hu1] at q1 q1'
  rw [← hu0] at q0 q0'
  have HU1 : Sh (wrap64 (64 + (mx a1 0).tmod 1000) = 64 + u1) := ⟨by rw [← hu1, wrap64_in _ (by omega) (by omega)]⟩
  have HU0 : Sh (wrap64 (65 + (mx a0 0).tmod 1000) = 65 + u0) := ⟨by rw [← hu0, wrap64_in _ (by omega) (by omega)]⟩
  clear hr3 hu0 hu1 q y3
  go_enter Try.func14, Try.ntmps14
  go_wp2_with fail
  (with_reducible refine (push_nil _ _ _).mono ?_); rintro e w' ⟨rfl, rfl⟩
  go_wp2_with fail
  (with_reducible refine (pop_nil _ _).mono ?_); rintro e w' ⟨rfl, rfl⟩
  go_wp2_with fail
  (with_reducible refine (walk_nil _ _ _).mono ?_); rintro e w' ⟨rfl, rfl⟩
  go_wp2_with fail
  (with_reducible refine (laid_any 1 A3 c3 l3 _ (by omega) (by omega) HR.out hl).mono ?_); rintro e w1 ⟨ga, gb, gm, rfl, h1, h2, h3, h4, h5, h6, h7⟩
  obtain ⟨m, hm⟩ : ∃ m, m = laidM ((1 : Int).toNat * 64) l3 (min l3.length ((1 : Int).toNat * 64)) := ⟨_, rfl⟩
  rw [← hm] at h1 h2
  have hml : m.length = 64 := by rw [hm, laidM_len]; rfl
  rw [← hm]
  have HA := Sh.mk h1
  have HM := Sh.mk h2
  have HB := Sh.mk h7
  have HE1 : Sh (∀ z, 0 ≤ z → pushS m 0 (64 + z) = (m, 0, 1)) := ⟨fun z hz => by unfold pushS; rw [if_neg (by omega), if_pos (by omega)]⟩
  have HE2 : Sh (∀ z, 0 ≤ z → pushS m (65 + z) 3 = (m, 0, 1)) := ⟨fun z hz => by unfold pushS; rw [if_pos (by omega)]⟩
  have HE3 : Sh (pushS m (-1) 3 = (m, 0, 1)) := ⟨by unfold pushS; rw [if_pos (by omega)]⟩
  have HML := Sh.mk hml
  clear h1 h2 h7 hm hml
  go_wp2_with fail
  rw [HU1.out]
  (with_reducible refine (push_any ga gb m 0 _ _ HA.out).mono ?_); rintro e w2 ⟨rfl, g1, g2⟩
  rw [HE1.out _ q1] at g1
  rw [HE1.out _ q1]
  have A2 := Sh.mk g1
  have K2 := Sh.mk g2
  clear g1 g2
  go_wp2_with fail
  rw [HU0.out]
  (with_reducible refine (push_any ga gb m _ _ _ A2.out).mono ?_); rintro e w3 ⟨rfl, g1, g2⟩
  rw [HE2.out _ q0] at g1
  rw [HE2.out _ q0]
  have A3 := Sh.mk g1
  have K3 := Sh.mk g2
  clear g1 g2
  go_wp2_with fail
  (with_reducible refine (push_any ga gb m _ _ _ A3.out).mono ?_); rintro e w4 ⟨rfl, g1, g2⟩
  rw [HE3.out] at g1
  rw [HE3.out]
  have A4 := Sh.mk g1
  have K4 := Sh.mk g2
  clear g1 g2
  have HK : Sh (Kp [gb] w1 w4) := ⟨(K2.out.trans K3.out).trans K4.out⟩
  have HC : Sh (Kd.C (Kd.int .u64) w4 (some ⟨gm, 0, none⟩) m.length m) := ⟨C_whole (HM.out.kp HK.out (by simp; exact h3)) (by have := HML.out; omega)⟩
  go_wp2_with fail
  (with_reducible refine (words_yes ga gb m _ m.length _ A4.out HC.out (Nat.le_refl _)).mono ?_); rintro e w5 ⟨rfl, g1⟩
  have K5 := Sh.mk g1
  clear g1
  go_wp2_with fail
  (with_reducible refine (awake9 _).mono ?_); rintro e w6 ⟨rfl, g1⟩
  have K6 := Sh.mk g1
  clear g1
  go_wp2
  go_ret
  have HB4 : Below w.heap.size w w4 := HB.out.trans (HK.out.toBelow HB.out.size (by simp; exact h5))
  exact ⟨rfl, below_then (below_then HB4 HB4.size K5.out) (Nat.le_trans HB4.size K5.out.size) K6.out⟩
end Go.Proofs.Ytncmebefgklpjaa
