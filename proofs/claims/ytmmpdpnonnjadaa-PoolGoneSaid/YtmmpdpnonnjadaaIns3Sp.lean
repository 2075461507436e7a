/- slices.Insert of one element ahead of others where there is no room, at elements of 4 cells (sp): a contract. No statement is proved here. -/
import Derived.Test.YtmmpdpnonnjadaaIns2Sp
namespace Go.Proofs.Ytmmpdpnonnjadaa
set_option linter.unusedVariables false
set_option linter.unusedSimpArgs false
open Go.RowKit Go.Proofs.YtmmpdpnonnjadaaW.PrintWords Go.Proofs.YtmmpdpnonnjadaaW.PrintLast Go.Proofs.YtmmpdpnonnjadaaW.PrintMore

set_option maxRecDepth 100000 in
set_option maxHeartbeats 4000000 in
theorem insert_grow_sp (base : Nat) (g cap n i : Nat) (xs ys zs : List Value) (gx cx : Nat) (w : World) (hown : w.ownsRow base 63 4 (.slice (some ⟨g, 0, none⟩) n cap) n xs) (hx : Blk w gx 63 (ys ++ zs).toArray) (hyl : ys.length = 4)
    (h1x : ∀ u ∈ xs, u.oneCell' = true) (h1y : ∀ u ∈ ys, u.oneCell' = true) (hi : i < n) (hroom : cap < n + 1) (hn : (n + 1) * 48 ≤ 140737488355328) (hbase : base ≤ w.heap.size) :
    Calls Try.prog 28 #[.slice (some ⟨g, 0, none⟩) n cap, .int .i64 i, .slice (some ⟨gx, 0, none⟩) 1 cx] w (Inserted_sp base (.slice (some ⟨g, 0, none⟩) n cap) n i xs ys w) := by
  obtain ⟨i0, hi0, hz0, hz1, hz2⟩ := info_parts info_sp
  have hsz : (Try.prog.info? 63).map (·.size) = some 4 := by rw [hi0]; simp [hz1]
  have hxl := hown.1
  rcases hown.2 with ⟨h0, _⟩ | ⟨g', cap', cur, hv, hbg, hg, hnc, hcm, hcs, htk⟩
  · cases h0
  · simp only [Value.slice.injEq, Option.some.injEq, Addr.mk.injEq] at hv
    obtain ⟨⟨rfl, _, _⟩, _, rfl⟩ := hv
    obtain rfl : cap = n := by omega
    have hc63 : cap ≤ 140737488355328 := by omega
    obtain ⟨cl, rfl⟩ : ∃ cl : List Value, cur = cl.toArray := ⟨cur.toList, by simp⟩
    simp only [List.size_toArray] at hcs
    simp only at htk
    have hg0 : Blk w g 63 cl.toArray := hg
    obtain ⟨news, hnews⟩ : ∃ news, news = xs.drop (i * 4) := ⟨_, rfl⟩
    have hnl : news.length = (cap - i) * 4 := by rw [hnews, List.length_drop, hxl, Nat.sub_mul]
    have h1n : ∀ u ∈ news, u.oneCell' = true := fun u hu => h1x u (List.mem_of_mem_drop (by rw [hnews] at hu; exact hu))
    obtain ⟨C, hC⟩ : ∃ C, C = grownCap w (i + (cap + 1 - i)) cap 63 := ⟨_, rfl⟩
    have hC1 : cap + 1 ≤ C := by rw [hC]; have := grownCap_ge w (i + (cap + 1 - i)) cap 63; omega
    have hC2 : C ≤ maxLen := by rw [hC]; exact grownCap_le_maxLen w _ cap 63 (by simp only [maxLen]; omega)
    have hC63 : C ≤ 9223372036854775807 := by simp only [maxLen] at hC2; omega
    obtain ⟨D, hD⟩ : ∃ D : List Value, D = cl.take (i * 4) ++ (Builtin.zeroCells ((.agg #[.int .i64 0, .int .i64 0, .int .i64 0, .slice none 0 0]) : Value).cells (cap + 1 - i)).toList ++ (Builtin.zeroCells ((.agg #[.int .i64 0, .int .i64 0, .int .i64 0, .slice none 0 0]) : Value).cells (C - (i + (cap + 1 - i)))).toList := ⟨_, rfl⟩
    have hzs : ∀ m, (Builtin.zeroCells ((.agg #[.int .i64 0, .int .i64 0, .int .i64 0, .slice none 0 0]) : Value).cells m).toList.length = m * 4 := fun m => by rw [Array.length_toList, size_zeroCells]; rfl
    have hDl : D.length = C * 4 := by rw [hD]; simp only [List.length_append, List.length_take, hzs, hcs]; omega
    have hDt : D.take (i * 4) = xs.take (i * 4) := by
      rw [hD, List.append_assoc, List.take_append_of_le_length (by rw [List.length_take]; omega), List.take_take, ← htk, List.take_take]
      congr 1
      omega
    have hap : ∀ ty, (Builtin.append_ #[59, 3] ty #[.slice (some ⟨g, 0, none⟩) i cap, .int .i64 ((cap : Int) + 1 - (i : Int))]).run Try.prog w = .ok (.slice (some ⟨w.heap.size, 0, none⟩) (cap + 1) C) (w.drew.alloc (.cells D.toArray 63)) := fun ty => by
      have := run_append_zeros_grow (P := Try.prog) w 59 3 ty 63 i0 (.agg #[.int .i64 0, .int .i64 0, .int .i64 0, .slice none 0 0]) 4 48 Try.underlying59 Try.underlying3 hi0 hz0 hz1 hz2 (by omega) g i cap (cap + 1 - i) cl 63 hg0 (by omega) (by omega) (by omega) (by omega) (by omega)
      rw [show ((cap + 1 - i : Nat) : Int) = (cap : Int) + 1 - (i : Int) by omega, ← hC, show i + (cap + 1 - i) = cap + 1 by omega] at this
      rw [this, hD]
      congr 2
      rw [show i + (cap + 1 - i) = cap + 1 by omega]
      simp
    obtain ⟨W1, hW1⟩ : ∃ W1, W1 = w.drew.alloc (.cells D.toArray 63) := ⟨_, rfl⟩
    obtain ⟨h, hh⟩ : ∃ h, h = w.heap.size := ⟨_, rfl⟩
    have hB1 : Blk W1 h 63 D.toArray := by rw [hW1, hh]; exact Blk.new w.drew _ _
    have hK1 : Kp [] w W1 := by rw [hW1]; exact ((Kp.refl [] w).drew).alloc _
    rw [← hh, ← hW1] at hap
    have hgl : g < h := by rw [hh]; exact Blk.lt hg
    have hxh : gx < h := by rw [hh]; exact Blk.lt hx
    have HYS : Sh (∀ j u, ys[j]? = some u → W1.cell? ((⟨gx, 0, none⟩ : Addr).add j) = some u) := ⟨fun j u hu => by
      have e1 : (⟨gx, 0, none⟩ : Addr).add j = ⟨gx, j, none⟩ := by unfold Addr.add; split <;> simp_all
      rw [e1, (hx.kp hK1 (by simp)).cell]; exact cell_pre hu⟩
    have HSRC : Sh (∀ W, Kp [h] w W → ∀ j u, news[j]? = some u → W.cell? ((⟨g, i * 4, none⟩ : Addr).add j) = some u) := ⟨fun W hW j u hj => by
      rw [Addr.add_lit, (hg0.kp hW (by simp; omega)).cell]
      rw [hnews, List.getElem?_drop, ← htk, List.getElem?_take] at hj
      split at hj
      · simpa using hj
      · cases hj⟩
    have HYL : Sh (ys.length = 4) := ⟨hyl⟩
    have H1 := Sh.mk h1y
    have HN1 := Sh.mk h1n
    have HNL := Sh.mk hnl
    have HB1 := Sh.mk hB1
    have HDL := Sh.mk hDl
    have HK1 := Sh.mk hK1
    have HI : Sh (i < cap ∧ cap + 1 ≤ C ∧ w.heap.size ≤ h) := ⟨⟨hi, hC1, by omega⟩⟩
    have hS1 : (splice D (i * 4) ys).length = C * 4 := by rw [splice_len_sp _ _ _ (by rw [hDl, hyl]; omega), hDl]
    have HS1 := Sh.mk hS1
    have HFIN : Sh (∀ W, Blk W h 63 (splice (splice D (i * 4) ys) ((i + 1) * 4) news).toArray → Kp [h] w W → Inserted_sp base (.slice (some ⟨g, 0, none⟩) cap cap) cap i xs ys w (.returned (.slice (some ⟨h, 0, none⟩) (cap + 1) C)) W) := ⟨fun W hW hk => by
      have hl : (xs.take (i * 4) ++ ys ++ xs.drop (i * 4)).length = (cap + 1) * 4 := by simp only [List.length_append, List.length_take, List.length_drop, hxl, hyl]; omega
      refine ⟨_, rfl, ⟨hl, .inr ⟨h, C, _, rfl, by omega, hW, hC1, hC2, ?_, ?_⟩⟩, ⟨hk.os, hk.tape, hk.output, hk.size, fun k hk' hne' => hk.block k hk' (by simp; omega)⟩, .inr ⟨h, rfl, by omega⟩⟩
      · rw [List.size_toArray, splice_len_sp _ _ _ (by rw [hS1, hnl]; omega), hS1]
      · simp only [splice, hyl, hnl]
        have e0 : (List.take (i * 4) D ++ (ys ++ List.drop (i * 4 + 4) D)).take ((i + 1) * 4) = xs.take (i * 4) ++ ys := by
          rw [hDt, ← List.append_assoc, List.take_append_of_le_length (by simp only [List.length_append, List.length_take, hxl, hyl]; omega), List.take_of_length_le (by simp only [List.length_append, List.length_take, hxl, hyl]; omega)]
        rw [e0, ← List.append_assoc, List.take_append_of_le_length (by simp only [List.length_append, List.length_take, hyl, hnl, hxl]; omega)]
        rw [List.take_of_length_le (by simp only [List.length_append, List.length_take, hyl, hnl, hxl]; omega), hnews]⟩
    clear hS1 hDl hDt hD hzs hB1 hK1 hC hC2 h1n hnl hnews hg0 htk hcs hg hbg hown h1x h1y hx hyl hxl hcm hnc hW1 hh hgl hxh
    have q1 : ((i : Int) == (cap : Int)) = false := by rw [beq_eq_false_iff_ne]; omega
    have q2 : (i : Int) ≤ (cap : Int) := by omega
    have q3 : ¬ (cap = i) := by omega
    have q4 : ¬ (C = i + 1) := by omega
    have q5 : ¬ (C = i) := by omega
    have q6 : (i : Int) + 1 ≤ (cap : Int) + 1 := by omega
    have q7 : ((i : Int) + 1).toNat = i + 1 := by omega
    have q9 : (0 : Int) ≤ (i : Int) + 1 := by omega
    have q11 : IntKind.i64.wrap ((i : Int) + 1) = (i : Int) + 1 := by rw [IntKind.wrap_i64]; omega
    have q12 : (i : Int) ≤ (cap : Int) + 1 := by omega
    go_enter Try.func28, Try.ntmps28
    go_wp2_with (first | (at_builtin; refine wpList_append_eq rfl (.tmp 34) (.tmp 39) 59 3 rfl _ _ rfl rfl (hap _) ?_) | ((with_reducible refine gate_builtin (b := .copy) (xs := #[.tmp 43, .tmp 44]) rfl ?_); refine wpList_copyN rfl (.tmp 43) (.tmp 44) 59 59 rfl 63 4 Try.underlying59 hsz (some ⟨h, i * 4, none⟩) (some ⟨gx, 0, none⟩) (cap + 1 - i) (C - i) 1 cx rfl rfl h (i * 4) _ 63 HB1.out ys ?hn ?hpos ?hfit H1.out ?_; (case hn => rw [HYL.out]; simp only [Nat.min_def]; split <;> omega); (case hpos => exact fun _ => ⟨rfl, _, rfl, HYS.out⟩); (case hfit => rw [HYL.out, HDL.out]; have := HI.out; omega); intro w2 hb2 hk2; have HB2 := Sh.mk hb2; have HK2 := Sh.mk ((HK1.out.mono (S' := [h]) (by simp)).trans hk2); have HB2d := Sh.mk hb2.drew; have HSR := Sh.mk (HSRC.out w2.drew HK2.out.drew); clear hb2 hk2))
    go_region_law (refine step_copyN rfl (.tmp 50) (.tmp 53) 59 59 rfl 63 4 Try.underlying59 hsz (some ⟨h, (i + 1) * 4, none⟩) (some ⟨g, i * 4, none⟩) (cap - i) (C - (i + 1)) (cap - i) (cap - i) (by simp [Act.eval, Act.put]) (by simp [Act.eval, Act.put]) h ((i + 1) * 4) _ 63 HB2d.out news ?hn ?hpos ?hfit HN1.out ?_; (case hn => rw [HNL.out]; congr 1; simp only [Nat.min_def]; split <;> omega); (case hpos => exact fun _ => ⟨rfl, _, rfl, HSR.out⟩); (case hfit => rw [HS1.out, HNL.out]; have := HI.out; omega); intro w3 hb3 hk3; have HB3 := Sh.mk hb3; have HK3 := Sh.mk (HK2.out.drew.trans hk3); clear hb3 hk3)
    go_wp2
    go_ret
    exact HFIN.out w3 HB3.out HK3.out
end Go.Proofs.Ytmmpdpnonnjadaa
