/- Several texts in one: Over, Ins3Live. -/
import Derived.Test.YtpddppipjlagfaaBase
import Derived.Test.YtpddppipjlagfaaInsLive
/- num.Over: contract. No statement is proved here. -/
namespace Go.Proofs.Ytpddppipjlagfaa
set_option linter.unusedVariables false
set_option linter.unusedSimpArgs false
open Go.RowKit Go.Proofs.YtpddppipjlagfaaW.PrintWords Go.Proofs.YtpddppipjlagfaaW.PrintLast Go.Proofs.YtpddppipjlagfaaW.PrintMore Pr

theorem idx2_0 (a b : Int) (w : World) : (Instr.index 99 (.agg #[.int .i64 a, .int .i64 b]) (.int .i64 0)).run Try.prog w = .ok (.int .i64 a) w := by
  obtain ⟨i0, hi0, hz0, hz1, hz2⟩ := info_parts (show (Try.prog.info? 3).map (fun i => (i.zero, i.size, i.bytes)) = some (some (.int .i64 0), 1, 8) from by kernel_rfl)
  simp [Instr.index, run_underlying Try.underlying99, asIntOf, sizeOf, typeInfo, hi0, hz1, part, go_sem]
theorem idx2_1 (a b : Int) (w : World) : (Instr.index 99 (.agg #[.int .i64 a, .int .i64 b]) (.int .i64 1)).run Try.prog w = .ok (.int .i64 b) w := by
  obtain ⟨i0, hi0, hz0, hz1, hz2⟩ := info_parts (show (Try.prog.info? 3).map (fun i => (i.zero, i.size, i.bytes)) = some (some (.int .i64 0), 1, 8) from by kernel_rfl)
  simp [Instr.index, run_underlying Try.underlying99, asIntOf, sizeOf, typeInfo, hi0, hz1, part, go_sem]
attribute [local go_sem ↓] idx2_0 idx2_1
/-- Whether words have one in common with others. -/
def overS (a n b m : Int) : Bool := decide ((0 ≤ a ∧ a ≤ 2305843009213693952) ∧ (0 ≤ b ∧ b ≤ 2305843009213693952) ∧ (1 ≤ n ∧ n ≤ 2305843009213693952) ∧ (1 ≤ m ∧ m ≤ 2305843009213693952) ∧ a < b + m ∧ b < a + n)
set_option maxRecDepth 1000000 in
set_option maxHeartbeats 4000000 in
theorem over_any (a n b m : Int) (w : World) : Calls Try.prog 66 #[.int .i64 a, .int .i64 n, .int .i64 b, .int .i64 m] w fun e w' => e = .returned (.bool (overS a n b m)) ∧ Drawn0 w w' := by
  have F1 : Sh (¬ (0 ≤ a ∧ a ≤ 2305843009213693952) → overS a n b m = false) := ⟨fun h => by unfold overS; rw [decide_eq_false]; exact fun h' => h h'.1⟩
  have F2 : Sh (¬ (0 ≤ b ∧ b ≤ 2305843009213693952) → overS a n b m = false) := ⟨fun h => by unfold overS; rw [decide_eq_false]; exact fun h' => h h'.2.1⟩
  have F3 : Sh (¬ (1 ≤ n ∧ n ≤ 2305843009213693952) → overS a n b m = false) := ⟨fun h => by unfold overS; rw [decide_eq_false]; exact fun h' => h h'.2.2.1⟩
  have F4 : Sh (¬ (1 ≤ m ∧ m ≤ 2305843009213693952) → overS a n b m = false) := ⟨fun h => by unfold overS; rw [decide_eq_false]; exact fun h' => h h'.2.2.2.1⟩
  have F5 : Sh ((0 ≤ a ∧ a ≤ 2305843009213693952) → (0 ≤ b ∧ b ≤ 2305843009213693952) → (1 ≤ n ∧ n ≤ 2305843009213693952) → (1 ≤ m ∧ m ≤ 2305843009213693952) → overS a n b m = decide (a < b + m ∧ b < a + n)) := ⟨fun h1 h2 h3 h4 => by unfold overS; simp [h1, h2, h3, h4]⟩
  obtain ⟨r, hr⟩ : ∃ r, r = overS a n b m := ⟨_, rfl⟩
  rw [← hr] at F1 F2 F3 F4 F5
  rw [← hr]
  clear hr
  go_enter Try.func66, Try.ntmps66
  go_wp2
  go_loop [16] (fun i => ∃ k : Nat, k ≤ 2 ∧ i = .int .i64 k ∧ Sh (0 < k → 0 ≤ a ∧ a ≤ 2305843009213693952) ∧ Sh (1 < k → 0 ≤ b ∧ b ≤ 2305843009213693952)) (fun i => 2 - (intOf i).toNat)
  case atStart => exact ⟨0, by omega, rfl, ⟨fun h => absurd h (by omega)⟩, ⟨fun h => absurd h (by omega)⟩⟩
  case round =>
    obtain ⟨k, hk, rfl, H1, H2⟩ := hrel
    rcases (show k = 0 ∨ k = 1 ∨ k = 2 by omega) with rfl | rfl | rfl
    · by_cases c1 : a < 0
      · have HV := Sh.mk (F1.out (fun h => by omega))
        have b1 : decide (a < 0) = true := decide_eq_true c1
        clear c1
        go_wp2
        go_ret
        exact ⟨by rw [HV.out]; rfl, Drawn0.refl _⟩
      · have b1 : decide (a < 0) = false := decide_eq_false c1
        by_cases c2 : 2305843009213693952 < a
        · have HV := Sh.mk (F1.out (fun h => by omega))
          have b2 : decide (2305843009213693952 < a) = true := decide_eq_true c2
          clear c1 c2
          go_wp2
          go_ret
          exact ⟨by rw [HV.out]; rfl, Drawn0.refl _⟩
        · have b2 : decide (2305843009213693952 < a) = false := decide_eq_false c2
          have HN : Sh (0 ≤ a ∧ a ≤ 2305843009213693952) := ⟨by omega⟩
          clear c1 c2
          go_wp2
          go_round
          case rel => exact ⟨1, by omega, rfl, ⟨fun _ => HN.out⟩, ⟨fun h => absurd h (by omega)⟩⟩
          case measure => simp [intOf]
    · have HA := Sh.mk (H1.out (by omega))
      by_cases c1 : b < 0
      · have HV := Sh.mk (F2.out (fun h => by omega))
        have b1 : decide (b < 0) = true := decide_eq_true c1
        clear c1
        go_wp2
        go_ret
        exact ⟨by rw [HV.out]; rfl, Drawn0.refl _⟩
      · have b1 : decide (b < 0) = false := decide_eq_false c1
        by_cases c2 : 2305843009213693952 < b
        · have HV := Sh.mk (F2.out (fun h => by omega))
          have b2 : decide (2305843009213693952 < b) = true := decide_eq_true c2
          clear c1 c2
          go_wp2
          go_ret
          exact ⟨by rw [HV.out]; rfl, Drawn0.refl _⟩
        · have b2 : decide (2305843009213693952 < b) = false := decide_eq_false c2
          have HN : Sh (0 ≤ b ∧ b ≤ 2305843009213693952) := ⟨by omega⟩
          clear c1 c2
          go_wp2
          go_round
          case rel => exact ⟨2, by omega, rfl, ⟨fun _ => HA.out⟩, ⟨fun _ => HN.out⟩⟩
          case measure => simp [intOf]
    · have HA := Sh.mk (H1.out (by omega))
      have HB := Sh.mk (H2.out (by omega))
      clear H1 H2
      go_wp2
      go_loop [29] (fun i => ∃ k : Nat, k ≤ 2 ∧ i = .int .i64 k ∧ Sh (0 < k → 1 ≤ n ∧ n ≤ 2305843009213693952) ∧ Sh (1 < k → 1 ≤ m ∧ m ≤ 2305843009213693952)) (fun i => 2 - (intOf i).toNat)
      case atStart => exact ⟨0, by omega, rfl, ⟨fun h => absurd h (by omega)⟩, ⟨fun h => absurd h (by omega)⟩⟩
      case round =>
        obtain ⟨k, hk, rfl, H1, H2⟩ := hrel
        rcases (show k = 0 ∨ k = 1 ∨ k = 2 by omega) with rfl | rfl | rfl
        · by_cases c1 : n < 1
          · have HV := Sh.mk (F3.out (fun h => by omega))
            have b1 : decide (n < 1) = true := decide_eq_true c1
            clear c1
            go_wp2
            go_ret
            exact ⟨by rw [HV.out]; rfl, Drawn0.refl _⟩
          · have b1 : decide (n < 1) = false := decide_eq_false c1
            by_cases c2 : 2305843009213693952 < n
            · have HV := Sh.mk (F3.out (fun h => by omega))
              have b2 : decide (2305843009213693952 < n) = true := decide_eq_true c2
              clear c1 c2
              go_wp2
              go_ret
              exact ⟨by rw [HV.out]; rfl, Drawn0.refl _⟩
            · have b2 : decide (2305843009213693952 < n) = false := decide_eq_false c2
              have HN : Sh (1 ≤ n ∧ n ≤ 2305843009213693952) := ⟨by omega⟩
              clear c1 c2
              go_wp2
              go_round
              case rel => exact ⟨1, by omega, rfl, ⟨fun _ => HN.out⟩, ⟨fun h => absurd h (by omega)⟩⟩
              case measure => simp [intOf]
        · have HC := Sh.mk (H1.out (by omega))
          by_cases c1 : m < 1
          · have HV := Sh.mk (F4.out (fun h => by omega))
            have b1 : decide (m < 1) = true := decide_eq_true c1
            clear c1
            go_wp2
            go_ret
            exact ⟨by rw [HV.out]; rfl, Drawn0.refl _⟩
          · have b1 : decide (m < 1) = false := decide_eq_false c1
            by_cases c2 : 2305843009213693952 < m
            · have HV := Sh.mk (F4.out (fun h => by omega))
              have b2 : decide (2305843009213693952 < m) = true := decide_eq_true c2
              clear c1 c2
              go_wp2
              go_ret
              exact ⟨by rw [HV.out]; rfl, Drawn0.refl _⟩
            · have b2 : decide (2305843009213693952 < m) = false := decide_eq_false c2
              have HN : Sh (1 ≤ m ∧ m ≤ 2305843009213693952) := ⟨by omega⟩
              clear c1 c2
              go_wp2
              go_round
              case rel => exact ⟨2, by omega, rfl, ⟨fun _ => HC.out⟩, ⟨fun _ => HN.out⟩⟩
              case measure => simp [intOf]
        · have HC := Sh.mk (H1.out (by omega))
          have HD := Sh.mk (H2.out (by omega))
          have HV := Sh.mk (F5.out HA.out HB.out HC.out HD.out)
          have e1 : Sh (wrap64 (b + m) = b + m) := ⟨by have := HB.out; have := HD.out; unfold wrap64; omega⟩
          have e2 : Sh (wrap64 (a + n) = a + n) := ⟨by have := HA.out; have := HC.out; unfold wrap64; omega⟩
          clear F1 F2 F3 F4 F5 H1 H2
          by_cases c1 : a < wrap64 (b + m)
          · have b1 : decide (a < wrap64 (b + m)) = true := decide_eq_true c1
            have HW : Sh (r = decide (b < wrap64 (a + n))) := ⟨by rw [HV.out, e2.out]; rw [e1.out] at c1; simp [c1]⟩
            clear c1
            go_wp2
            go_ret
            exact ⟨by rw [HW.out]; rfl, Drawn0.refl _⟩
          · have b1 : decide (a < wrap64 (b + m)) = false := decide_eq_false c1
            have HW : Sh (r = false) := ⟨by rw [HV.out]; rw [e1.out] at c1; simp [c1]⟩
            clear c1
            go_wp2
            go_ret
            exact ⟨by rw [HW.out]; rfl, Drawn0.refl _⟩
end Go.Proofs.Ytpddppipjlagfaa

/- slices.Insert of one element ahead of others where there is no room, at elements of 3 cells (live): a contract. No statement is proved here. -/
namespace Go.Proofs.Ytpddppipjlagfaa
set_option linter.unusedVariables false
set_option linter.unusedSimpArgs false
open Go.RowKit Go.Proofs.YtpddppipjlagfaaW.PrintWords Go.Proofs.YtpddppipjlagfaaW.PrintLast Go.Proofs.YtpddppipjlagfaaW.PrintMore

set_option maxRecDepth 100000 in
set_option maxHeartbeats 4000000 in
theorem insert_grow_live (base : Nat) (g cap n i : Nat) (xs ys zs : List Value) (gx cx : Nat) (w : World) (hown : w.ownsRow base 59 3 (.slice (some ⟨g, 0, none⟩) n cap) n xs) (hx : Blk w gx 59 (ys ++ zs).toArray) (hyl : ys.length = 3)
    (h1x : ∀ u ∈ xs, u.oneCell' = true) (h1y : ∀ u ∈ ys, u.oneCell' = true) (hi : i < n) (hroom : cap < n + 1) (hn : (n + 1) * 24 ≤ 140737488355328) (hbase : base ≤ w.heap.size) :
    Calls Try.prog 59 #[.slice (some ⟨g, 0, none⟩) n cap, .int .i64 i, .slice (some ⟨gx, 0, none⟩) 1 cx] w (Inserted_live base (.slice (some ⟨g, 0, none⟩) n cap) n i xs ys w) := by
  obtain ⟨i0, hi0, hz0, hz1, hz2⟩ := info_parts info_live
  have hsz : (Try.prog.info? 59).map (·.size) = some 3 := by rw [hi0]; simp [hz1]
  have hxl := hown.1
  rcases hown.2 with ⟨h0, _⟩ | ⟨g', cap', cur, hv, hbg, hg, hnc, hcm, hcs, htk⟩
  · cases h0
  · simp only [Value.slice.injEq, Option.some.injEq, Addr.mk.injEq] at hv
    obtain ⟨⟨rfl, _, _⟩, _, rfl⟩ := hv
    obtain rfl : cap = n := by omega
    have hc63 : cap ≤ 140737488355328 := by omega
    obtain ⟨cl, rfl⟩ : ∃ cl : List Value, cur = cl.toArray := ⟨cur.toList, by simp⟩
    simp only [List.size_toArray] at hcs
    simp only at htk
    have hg0 : Blk w g 59 cl.toArray := hg
    obtain ⟨news, hnews⟩ : ∃ news, news = xs.drop (i * 3) := ⟨_, rfl⟩
    have hnl : news.length = (cap - i) * 3 := by rw [hnews, List.length_drop, hxl, Nat.sub_mul]
    have h1n : ∀ u ∈ news, u.oneCell' = true := fun u hu => h1x u (List.mem_of_mem_drop (by rw [hnews] at hu; exact hu))
    obtain ⟨C, hC⟩ : ∃ C, C = grownCap w (i + (cap + 1 - i)) cap 59 := ⟨_, rfl⟩
    have hC1 : cap + 1 ≤ C := by rw [hC]; have := grownCap_ge w (i + (cap + 1 - i)) cap 59; omega
    have hC2 : C ≤ maxLen := by rw [hC]; exact grownCap_le_maxLen w _ cap 59 (by simp only [maxLen]; omega)
    have hC63 : C ≤ 9223372036854775807 := by simp only [maxLen] at hC2; omega
    obtain ⟨D, hD⟩ : ∃ D : List Value, D = cl.take (i * 3) ++ (Builtin.zeroCells ((.agg #[.int .i64 0, .int .i64 0, .int .i64 0]) : Value).cells (cap + 1 - i)).toList ++ (Builtin.zeroCells ((.agg #[.int .i64 0, .int .i64 0, .int .i64 0]) : Value).cells (C - (i + (cap + 1 - i)))).toList := ⟨_, rfl⟩
    have hzs : ∀ m, (Builtin.zeroCells ((.agg #[.int .i64 0, .int .i64 0, .int .i64 0]) : Value).cells m).toList.length = m * 3 := fun m => by rw [Array.length_toList, size_zeroCells]; rfl
    have hDl : D.length = C * 3 := by rw [hD]; simp only [List.length_append, List.length_take, hzs, hcs]; omega
    have hDt : D.take (i * 3) = xs.take (i * 3) := by
      rw [hD, List.append_assoc, List.take_append_of_le_length (by rw [List.length_take]; omega), List.take_take, ← htk, List.take_take]
      congr 1
      omega
    have hap : ∀ ty, (Builtin.append_ #[41, 3] ty #[.slice (some ⟨g, 0, none⟩) i cap, .int .i64 ((cap : Int) + 1 - (i : Int))]).run Try.prog w = .ok (.slice (some ⟨w.heap.size, 0, none⟩) (cap + 1) C) (w.drew.alloc (.cells D.toArray 59)) := fun ty => by
      have := run_append_zeros_grow (P := Try.prog) w 41 3 ty 59 i0 (.agg #[.int .i64 0, .int .i64 0, .int .i64 0]) 3 24 Try.underlying41 Try.underlying3 hi0 hz0 hz1 hz2 (by omega) g i cap (cap + 1 - i) cl 59 hg0 (by omega) (by omega) (by omega) (by omega) (by omega)
      rw [show ((cap + 1 - i : Nat) : Int) = (cap : Int) + 1 - (i : Int) by omega, ← hC, show i + (cap + 1 - i) = cap + 1 by omega] at this
      rw [this, hD]
      congr 2
      rw [show i + (cap + 1 - i) = cap + 1 by omega]
      simp
    obtain ⟨W1, hW1⟩ : ∃ W1, W1 = w.drew.alloc (.cells D.toArray 59) := ⟨_, rfl⟩
    obtain ⟨h, hh⟩ : ∃ h, h = w.heap.size := ⟨_, rfl⟩
    have hB1 : Blk W1 h 59 D.toArray := by rw [hW1, hh]; exact Blk.new w.drew _ _
    have hK1 : Kp [] w W1 := by rw [hW1]; exact ((Kp.refl [] w).drew).alloc _
    rw [← hh, ← hW1] at hap
    have hgl : g < h := by rw [hh]; exact Blk.lt hg
    have hxh : gx < h := by rw [hh]; exact Blk.lt hx
    have HYS : Sh (∀ j u, ys[j]? = some u → W1.cell? ((⟨gx, 0, none⟩ : Addr).add j) = some u) := ⟨fun j u hu => by
      have e1 : (⟨gx, 0, none⟩ : Addr).add j = ⟨gx, j, none⟩ := by unfold Addr.add; split <;> simp_all
      rw [e1, (hx.kp hK1 (by simp)).cell]; exact cell_pre hu⟩
    have HSRC : Sh (∀ W, Kp [h] w W → ∀ j u, news[j]? = some u → W.cell? ((⟨g, i * 3, none⟩ : Addr).add j) = some u) := ⟨fun W hW j u hj => by
      rw [Addr.add_lit, (hg0.kp hW (by simp; omega)).cell]
      rw [hnews, List.getElem?_drop, ← htk, List.getElem?_take] at hj
      split at hj
      · simpa using hj
      · cases hj⟩
    have HYL : Sh (ys.length = 3) := ⟨hyl⟩
    have H1 := Sh.mk h1y
    have HN1 := Sh.mk h1n
    have HNL := Sh.mk hnl
    have HB1 := Sh.mk hB1
    have HDL := Sh.mk hDl
    have HK1 := Sh.mk hK1
    have HI : Sh (i < cap ∧ cap + 1 ≤ C ∧ w.heap.size ≤ h) := ⟨⟨hi, hC1, by omega⟩⟩
    have hS1 : (splice D (i * 3) ys).length = C * 3 := by rw [splice_len_live _ _ _ (by rw [hDl, hyl]; omega), hDl]
    have HS1 := Sh.mk hS1
    have HFIN : Sh (∀ W, Blk W h 59 (splice (splice D (i * 3) ys) ((i + 1) * 3) news).toArray → Kp [h] w W → Inserted_live base (.slice (some ⟨g, 0, none⟩) cap cap) cap i xs ys w (.returned (.slice (some ⟨h, 0, none⟩) (cap + 1) C)) W) := ⟨fun W hW hk => by
      have hl : (xs.take (i * 3) ++ ys ++ xs.drop (i * 3)).length = (cap + 1) * 3 := by simp only [List.length_append, List.length_take, List.length_drop, hxl, hyl]; omega
      refine ⟨_, rfl, ⟨hl, .inr ⟨h, C, _, rfl, by omega, hW, hC1, hC2, ?_, ?_⟩⟩, ⟨hk.os, hk.tape, hk.output, hk.size, fun k hk' hne' => hk.block k hk' (by simp; omega)⟩, .inr ⟨h, rfl, by omega⟩⟩
      · rw [List.size_toArray, splice_len_live _ _ _ (by rw [hS1, hnl]; omega), hS1]
      · simp only [splice, hyl, hnl]
        have e0 : (List.take (i * 3) D ++ (ys ++ List.drop (i * 3 + 3) D)).take ((i + 1) * 3) = xs.take (i * 3) ++ ys := by
          rw [hDt, ← List.append_assoc, List.take_append_of_le_length (by simp only [List.length_append, List.length_take, hxl, hyl]; omega), List.take_of_length_le (by simp only [List.length_append, List.length_take, hxl, hyl]; omega)]
        rw [e0, ← List.append_assoc, List.take_append_of_le_length (by simp only [List.length_append, List.length_take, hyl, hnl, hxl]; omega)]
        rw [List.take_of_length_le (by simp only [List.length_append, List.length_take, hyl, hnl, hxl]; omega), hnews]⟩
    clear hS1 hDl hDt hD hzs hB1 hK1 hC hC2 h1n hnl hnews hg0 htk hcs hg hbg hown h1x h1y hx hyl hxl hcm hnc hW1 hh hgl hxh
    have q1 : ((i : Int) == (cap : Int)) = false := by rw [beq_eq_false_iff_ne]; omega
    have q2 : (i : Int) ≤ (cap : Int) := by omega
    have q3 : ¬ (cap = i) := by omega
    have q4 : ¬ (C = i + 1) := by omega
    have q5 : ¬ (C = i) := by omega
    have q6 : (i : Int) + 1 ≤ (cap : Int) + 1 := by omega
    have q7 : ((i : Int) + 1).toNat = i + 1 := by omega
    have q9 : (0 : Int) ≤ (i : Int) + 1 := by omega
    have q11 : IntKind.i64.wrap ((i : Int) + 1) = (i : Int) + 1 := by rw [IntKind.wrap_i64]; omega
    have q12 : (i : Int) ≤ (cap : Int) + 1 := by omega
    go_enter Try.func59, Try.ntmps59
    go_wp2_with (first | (at_builtin; refine wpList_append_eq rfl (.tmp 34) (.tmp 39) 41 3 rfl _ _ rfl rfl (hap _) ?_) | ((with_reducible refine gate_builtin (b := .copy) (xs := #[.tmp 43, .tmp 44]) rfl ?_); refine wpList_copyN rfl (.tmp 43) (.tmp 44) 41 41 rfl 59 3 Try.underlying41 hsz (some ⟨h, i * 3, none⟩) (some ⟨gx, 0, none⟩) (cap + 1 - i) (C - i) 1 cx rfl rfl h (i * 3) _ 59 HB1.out ys ?hn ?hpos ?hfit H1.out ?_; (case hn => rw [HYL.out]; simp only [Nat.min_def]; split <;> omega); (case hpos => exact fun _ => ⟨rfl, _, rfl, HYS.out⟩); (case hfit => rw [HYL.out, HDL.out]; have := HI.out; omega); intro w2 hb2 hk2; have HB2 := Sh.mk hb2; have HK2 := Sh.mk ((HK1.out.mono (S' := [h]) (by simp)).trans hk2); have HB2d := Sh.mk hb2.drew; have HSR := Sh.mk (HSRC.out w2.drew HK2.out.drew); clear hb2 hk2))
    go_region_law (refine step_copyN rfl (.tmp 50) (.tmp 53) 41 41 rfl 59 3 Try.underlying41 hsz (some ⟨h, (i + 1) * 3, none⟩) (some ⟨g, i * 3, none⟩) (cap - i) (C - (i + 1)) (cap - i) (cap - i) (by simp [Act.eval, Act.put]) (by simp [Act.eval, Act.put]) h ((i + 1) * 3) _ 59 HB2d.out news ?hn ?hpos ?hfit HN1.out ?_; (case hn => rw [HNL.out]; congr 1; simp only [Nat.min_def]; split <;> omega); (case hpos => exact fun _ => ⟨rfl, _, rfl, HSR.out⟩); (case hfit => rw [HS1.out, HNL.out]; have := HI.out; omega); intro w3 hb3 hk3; have HB3 := Sh.mk hb3; have HK3 := Sh.mk (HK2.out.drew.trans hk3); clear hb3 hk3)
    go_wp2
    go_ret
    exact HFIN.out w3 HB3.out HK3.out
end Go.Proofs.Ytpddppipjlagfaa
