/- num.Over: contract. No statement is proved here. -/
import Derived.Test.YtpddppipjlagfaaBase
namespace Go.Proofs.Ytpddppipjlagfaa
set_option linter.unusedVariables false
set_option linter.unusedSimpArgs false
open Go.RowKit Go.Proofs.YtpddppipjlagfaaW.PrintWords Go.Proofs.YtpddppipjlagfaaW.PrintLast Go.Proofs.YtpddppipjlagfaaW.PrintMore Pr

theorem idx2_0 (a b : Int) (w : World) : (Instr.index 99 (.agg #[.int .i64 a, .int .i64 b]) (.int .i64 0)).run Try.prog w = .ok (.int .i64 a) w := by
  obtain ⟨i0, hi0, hz0, hz1, hz2⟩ := info_parts (show (Try.prog.info? 3).map (fun i => (i.zero, i.size, i.bytes)) = some (some (.int .i64 0), 1, 8) from by kernel_rfl)
  simp [Instr.index, run_underlying Try.underlying99, asIntOf, sizeOf, typeInfo, hi0, hz1, part, go_sem]
theorem idx2_1 (a b : Int) (w : World) : (Instr.index 99 (.agg #[.int .i64 a, .int .i64 b]) (.int .i64 1)).run Try.prog w = .ok (.int .i64 b) w := by
  obtain ⟨i0, hi0, hz0, hz1, hz2⟩ := info_parts (show (Try.prog.info? 3).map (fun i => (i.zero, i.size, i.bytes)) = some (some (.int .i64 0), 1, 8) from by kernel_rfl)
  simp [Instr.index, run_underlying Try.underlying99, asIntOf, sizeOf, typeInfo, hi0, hz1, part, go_sem]
attribute [local go_sem ↓] idx2_0 idx2_1
/-- Whether words have one in common with others. -/
def overS (a n b m : Int) : Bool := decide ((0 ≤ a ∧ a ≤ 2305843009213693952) ∧ (0 ≤ b ∧ b ≤ 2305843009213693952) ∧ (1 ≤ n ∧ n ≤ 2305843009213693952) ∧ (1 ≤ m ∧ m ≤ 2305843009213693952) ∧ a < b + m ∧ b < a + n)
set_option maxRecDepth 1000000 in
set_option maxHeartbeats 4000000 in
theorem over_any (a n b m : Int) (w : World) : Calls Try.prog 66 #[.int .i64 a, .int .i64 n, .int .i64 b, .int .i64 m] w fun e w' => e = .returned (.bool (overS a n b m)) ∧ Drawn0 w w' := by
  have F1 : Sh (¬ (0 ≤ a ∧ a ≤ 2305843009213693952) → overS a n b m = false) := ⟨fun h => by unfold overS; rw [decide_eq_false]; exact fun h' => h h'.1⟩
  have F2 : Sh (¬ (0 ≤ b ∧ b ≤ 2305843009213693952) → overS a n b m = false) := ⟨fun h => by unfold overS; rw [decide_eq_false]; exact fun h' => h h'.2.1⟩
  have F3 : Sh (¬ (1 ≤ n ∧ n ≤ 2305843009213693952) → overS a n b m = false) := ⟨fun h => by unfold overS; rw [decide_eq_false]; exact fun h' => h h'.2.2.1⟩
  have F4 : Sh (¬ (1 ≤ m ∧ m ≤ 2305843009213693952) → overS a n b m = false) := ⟨fun h => by unfold overS; rw [decide_eq_false]; exact fun h' => h h'.2.2.2.1⟩
  have F5 : Sh ((0 ≤ a ∧ a ≤ 2305843009213693952) → (0 ≤ b ∧ b ≤ 2305843009213693952) → (1 ≤ n ∧ n ≤ 2305843009213693952) → (1 ≤ m ∧ m ≤ 2305843009213693952) → overS a n b m = decide (a < b + m ∧ b < a + n)) := ⟨fun h1 h2 h3 h4 => by unfold overS; simp [h1, h2, h3, h4]⟩
  obtain ⟨r, hr⟩ : ∃ r, r = overS a n b m := ⟨_, rfl⟩
  rw [← hr] at F1 F2 F3 F4 F5
  rw [← hr]
  clear hr
  go_enter Try.func66, Try.ntmps66
  go_wp2
  go_loop [16] (fun i => ∃ k : Nat, k ≤ 2 ∧ i = .int .i64 k ∧ Sh (0 < k → 0 ≤ a ∧ a ≤ 2305843009213693952) ∧ Sh (1 < k → 0 ≤ b ∧ b ≤ 2305843009213693952)) (fun i => 2 - (intOf i).toNat)
  case atStart => exact ⟨0, by omega, rfl, ⟨fun h => absurd h (by omega)⟩, ⟨fun h => absurd h (by omega)⟩⟩
  case round =>
    obtain ⟨k, hk, rfl, H1, H2⟩ := hrel
    rcases (show k = 0 ∨ k = 1 ∨ k = 2 by omega) with rfl | rfl | rfl
    · by_cases c1 : a < 0
      · have HV := Sh.mk (F1.out (fun h => by omega))
        have b1 : decide (a < 0) = true := decide_eq_true c1
        clear c1
        go_wp2
        go_ret
        exact ⟨by rw [HV.out]; rfl, Drawn0.refl _⟩
      · have b1 : decide (a < 0) = false := decide_eq_false c1
        by_cases c2 : 2305843009213693952 < a
        · have HV := Sh.mk (F1.out (fun h => by omega))
          have b2 : decide (2305843009213693952 < a) = true := decide_eq_true c2
          clear c1 c2
          go_wp2
          go_ret
          exact ⟨by rw [HV.out]; rfl, Drawn0.refl _⟩
        · have b2 : decide (2305843009213693952 < a) = false := decide_eq_false c2
          have HN : Sh (0 ≤ a ∧ a ≤ 2305843009213693952) := ⟨by omega⟩
          clear c1 c2
          go_wp2
          go_round
          case rel => exact ⟨1, by omega, rfl, ⟨fun _ => HN.out⟩, ⟨fun h => absurd h (by omega)⟩⟩
          case measure => simp [intOf]
    · have HA := Sh.mk (H1.out (by omega))
      by_cases c1 : b < 0
      · have HV := Sh.mk (F2.out (fun h => by omega))
        have b1 : decide (b < 0) = true := decide_eq_true c1
        clear c1
        go_wp2
        go_ret
        exact ⟨by rw [HV.out]; rfl, Drawn0.refl _⟩
      · have b1 : decide (b < 0) = false := decide_eq_false c1
        by_cases c2 : 2305843009213693952 < b
        · have HV := Sh.mk (F2.out (fun h => by omega))
          have b2 : decide (2305843009213693952 < b) = true := decide_eq_true c2
          clear c1 c2
          go_wp2
          go_ret
          exact ⟨by rw [HV.out]; rfl, Drawn0.refl _⟩
        · have b2 : decide (2305843009213693952 < b) = false := decide_eq_false c2
          have HN : Sh (0 ≤ b ∧ b ≤ 2305843009213693952) := ⟨by omega⟩
          clear c1 c2
          go_wp2
          go_round
          case rel => exact ⟨2, by omega, rfl, ⟨fun _ => HA.out⟩, ⟨fun _ => HN.out⟩⟩
          case measure => simp [intOf]
    · have HA := Sh.mk (H1.out (by omega))
      have HB := Sh.mk (H2.out (by omega))
      clear H1 H2
      go_wp2
      go_loop [29] (fun i => ∃ k : Nat, k ≤ 2 ∧ i = .int .i64 k ∧ Sh (0 < k → 1 ≤ n ∧ n ≤ 2305843009213693952) ∧ Sh (1 < k → 1 ≤ m ∧ m ≤ 2305843009213693952)) (fun i => 2 - (intOf i).toNat)
      case atStart => exact ⟨0, by omega, rfl, ⟨fun h => absurd h (by omega)⟩, ⟨fun h => absurd h (by omega)⟩⟩
      case round =>
        obtain ⟨k, hk, rfl, H1, H2⟩ := hrel
        rcases (show k = 0 ∨ k = 1 ∨ k = 2 by omega) with rfl | rfl | rfl
        · by_cases c1 : n < 1
          · have HV := Sh.mk (F3.out (fun h => by omega))
            have b1 : decide (n < 1) = true := decide_eq_true c1
            clear c1
            go_wp2
            go_ret
            exact ⟨by rw [HV.out]; rfl, Drawn0.refl _⟩
          · have b1 : decide (n < 1) = false := decide_eq_false c1
            by_cases c2 : 2305843009213693952 < n
            · have HV := Sh.mk (F3.out (fun h => by omega))
              have b2 : decide (2305843009213693952 < n) = true := decide_eq_true c2
              clear c1 c2
              go_wp2
              go_ret
              exact ⟨by rw [HV.out]; rfl, Drawn0.refl _⟩
            · have b2 : decide (2305843009213693952 < n) = false := decide_eq_false c2
              have HN : Sh (1 ≤ n ∧ n ≤ 2305843009213693952) := ⟨by omega⟩
              clear c1 c2
              go_wp2
              go_round
              case rel => exact ⟨1, by omega, rfl, ⟨fun _ => HN.out⟩, ⟨fun h => absurd h (by omega)⟩⟩
              case measure => simp [intOf]
        · have HC := Sh.mk (H1.out (by omega))
          by_cases c1 : m < 1
          · have HV := Sh.mk (F4.out (fun h => by omega))
            have b1 : decide (m < 1) = true := decide_eq_true c1
            clear c1
            go_wp2
            go_ret
            exact ⟨by rw [HV.out]; rfl, Drawn0.refl _⟩
          · have b1 : decide (m < 1) = false := decide_eq_false c1
            by_cases c2 : 2305843009213693952 < m
            · have HV := Sh.mk (F4.out (fun h => by omega))
              have b2 : decide (2305843009213693952 < m) = true := decide_eq_true c2
              clear c1 c2
              go_wp2
              go_ret
              exact ⟨by rw [HV.out]; rfl, Drawn0.refl _⟩
            · have b2 : decide (2305843009213693952 < m) = false := decide_eq_false c2
              have HN : Sh (1 ≤ m ∧ m ≤ 2305843009213693952) := ⟨by omega⟩
              clear c1 c2
              go_wp2
              go_round
              case rel => exact ⟨2, by omega, rfl, ⟨fun _ => HC.out⟩, ⟨fun _ => HN.out⟩⟩
              case measure => simp [intOf]
        · have HC := Sh.mk (H1.out (by omega))
          have HD := Sh.mk (H2.out (by omega))
          have HV := Sh.mk (F5.out HA.out HB.out HC.out HD.out)
          have e1 : Sh (wrap64 (b + m) = b + m) := ⟨by have := HB.out; have := HD.out; unfold wrap64; omega⟩
          have e2 : Sh (wrap64 (a + n) = a + n) := ⟨by have := HA.out; have := HC.out; unfold wrap64; omega⟩
          clear F1 F2 F3 F4 F5 H1 H2
          by_cases c1 : a < wrap64 (b + m)
          · have b1 : decide (a < wrap64 (b + m)) = true := decide_eq_true c1
            have HW : Sh (r = decide (b < wrap64 (a + n))) := ⟨by rw [HV.out, e2.out]; rw [e1.out] at c1; simp [c1]⟩
            clear c1
            go_wp2
            go_ret
            exact ⟨by rw [HW.out]; rfl, Drawn0.refl _⟩
          · have b1 : decide (a < wrap64 (b + m)) = false := decide_eq_false c1
            have HW : Sh (r = false) := ⟨by rw [HV.out]; rw [e1.out] at c1; simp [c1]⟩
            clear c1
            go_wp2
            go_ret
            exact ⟨by rw [HW.out]; rfl, Drawn0.refl _⟩
end Go.Proofs.Ytpddppipjlagfaa
