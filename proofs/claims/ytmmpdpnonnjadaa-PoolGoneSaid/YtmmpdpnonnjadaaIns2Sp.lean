/- slices.Insert of one element ahead of others, at elements of 4 cells (sp): a contract. No statement is proved here. -/
import Derived.Test.YtmmpdpnonnjadaaInsSp
namespace Go.Proofs.Ytmmpdpnonnjadaa
set_option linter.unusedVariables false
set_option linter.unusedSimpArgs false
open Go.RowKit Go.Proofs.YtmmpdpnonnjadaaW.PrintWords Go.Proofs.YtmmpdpnonnjadaaW.PrintLast Go.Proofs.YtmmpdpnonnjadaaW.PrintMore

theorem splice_len_sp (L : List Value) (off : Nat) (cs : List Value) (h : off + cs.length ≤ L.length) : (splice L off cs).length = L.length := by
  simp only [splice, List.length_append, List.length_take, List.length_drop]; omega

set_option maxRecDepth 100000 in
set_option maxHeartbeats 4000000 in
theorem insert_room_sp (base : Nat) (g cap n i : Nat) (xs ys zs : List Value) (gx cx : Nat) (w : World) (hown : w.ownsRow base 63 4 (.slice (some ⟨g, 0, none⟩) n cap) n xs) (hx : Blk w gx 63 (ys ++ zs).toArray) (hyl : ys.length = 4) (hne : gx ≠ g)
    (h1x : ∀ u ∈ xs, u.oneCell' = true) (h1y : ∀ u ∈ ys, u.oneCell' = true) (hi : i < n) (hroom : n + 1 ≤ cap) :
    Calls Try.prog 28 #[.slice (some ⟨g, 0, none⟩) n cap, .int .i64 i, .slice (some ⟨gx, 0, none⟩) 1 cx] w (Inserted_sp base (.slice (some ⟨g, 0, none⟩) n cap) n i xs ys w) := by
  obtain ⟨i0, hi0, hz0, hz1, hz2⟩ := info_parts info_sp
  have hsz : (Try.prog.info? 63).map (·.size) = some 4 := by rw [hi0]; simp [hz1]
  have hxl := hown.1
  rcases hown.2 with ⟨h0, _⟩ | ⟨g', cap', cur, hv, hbg, hg, hnc, hcm, hcs, htk⟩
  · cases h0
  · simp only [Value.slice.injEq, Option.some.injEq, Addr.mk.injEq] at hv
    obtain ⟨⟨rfl, _, _⟩, _, rfl⟩ := hv
    have hc63 : cap ≤ 9223372036854775807 := by simp only [maxLen] at hcm; omega
    obtain ⟨cl, rfl⟩ : ∃ cl : List Value, cur = cl.toArray := ⟨cur.toList, by simp⟩
    simp only [List.size_toArray] at hcs
    simp only at htk
    have hg0 : Blk w.drew g 63 cl.toArray := hg
    have hcell : ∀ j u, xs[j]? = some u → w.drew.cell? ⟨g, j, none⟩ = some u := fun j u hj => by
      rw [hg0.cell]
      rw [← htk, List.getElem?_take] at hj
      split at hj
      · simpa using hj
      · cases hj
    obtain ⟨news, hnews⟩ : ∃ news, news = xs.drop (i * 4) := ⟨_, rfl⟩
    have hnl : news.length = (n - i) * 4 := by rw [hnews, List.length_drop, hxl, Nat.sub_mul]
    have h1n : ∀ u ∈ news, u.oneCell' = true := fun u hu => h1x u (List.mem_of_mem_drop (by rw [hnews] at hu; exact hu))
    have hsrc : ∀ j u, news[j]? = some u → w.drew.cell? ((⟨g, i * 4, none⟩ : Addr).add j) = some u := fun j u hj => by
      rw [Addr.add_lit]
      rw [hnews, List.getElem?_drop] at hj
      exact hcell _ _ hj
    have hov : ∀ (W : World) (lb cb lv cv : Nat), W.heap[gx]? = w.heap[gx]? → W.heap[g]? = w.heap[g]? → (callFunc 45 #[.slice (some ⟨gx, 0, none⟩) lv cv, .slice (some ⟨g, (i + 1) * 4, none⟩) lb cb]).run Try.prog W = .ok (.value (.bool false)) W := fun W lb cb lv cv hW1 hW2 => by
      have hxW : Blk W gx 63 (ys ++ zs).toArray := hW1.trans hx
      have hgW : Blk W g 63 cl.toArray := hW2.trans hg
      rw [run_callFunc_extern Try.func45 (by kernel_rfl) (by kernel_rfl) (by kernel_rfl) (e := Extern.SlicesOverlaps.overlaps #[59, 59] #[4]) (by kernel_rfl),
        Lib.run_overlaps_apart W 59 4 63 Try.underlying59 4 (fun w => by simp [sizeOf, typeInfo, hi0, hz1]) ⟨gx, 0, none⟩ ⟨g, (i + 1) * 4, none⟩ lv cv lb cb hne 63 63 (4 + zs.length) cl.length (by unfold Blk at hxW; simp [World.shape?, hxW, hyl]) (by unfold Blk at hgW; simp [World.shape?, hgW]) (by rw [hcs]; omega) (hxW.frozen _) (hxW.frozen _)]
      rfl
    have hfit1 : (i + 1) * 4 + news.length ≤ cl.length := by rw [hnl, hcs]; omega
    have hDl : (splice cl ((i + 1) * 4) news).length = cap * 4 := by rw [splice_len_sp _ _ _ hfit1, hcs]
    have HYS : Sh (∀ W, Kp [g] w.drew W → ∀ j u, ys[j]? = some u → W.cell? ((⟨gx, 0, none⟩ : Addr).add j) = some u) := ⟨fun W hW j u hu => by
      have e1 : (⟨gx, 0, none⟩ : Addr).add j = ⟨gx, j, none⟩ := by unfold Addr.add; split <;> simp_all
      rw [e1, (Blk.kp (show Blk w.drew gx 63 (ys ++ zs).toArray from hx) hW (by simp; exact hne)).cell]; exact cell_pre hu⟩
    have HYL : Sh (ys.length = 4) := ⟨hyl⟩
    have H1 := Sh.mk h1y
    have HN1 := Sh.mk h1n
    have HNL := Sh.mk hnl
    have HG0 := Sh.mk hg0
    have HSRC := Sh.mk hsrc
    have HF1 := Sh.mk hfit1
    have HDL := Sh.mk hDl
    have HI : Sh (i < n ∧ n + 1 ≤ cap) := ⟨⟨hi, hroom⟩⟩
    have hfin : Sh (∀ W, Blk W g 63 (splice (splice cl ((i + 1) * 4) news) (i * 4) ys).toArray → Kp [g] w W → Inserted_sp base (.slice (some ⟨g, 0, none⟩) n cap) n i xs ys w (.returned (.slice (some ⟨g, 0, none⟩) (n + 1) cap)) W) := ⟨fun W hW hk => by
      have hl : (xs.take (i * 4) ++ ys ++ xs.drop (i * 4)).length = (n + 1) * 4 := by simp only [List.length_append, List.length_take, List.length_drop, hxl, hyl]; omega
      refine ⟨_, rfl, ⟨hl, .inr ⟨g, cap, _, rfl, hbg, hW, hroom, hcm, ?_, ?_⟩⟩, ⟨hk.os, hk.tape, hk.output, hk.size, fun k hk' hne' => hk.block k hk' (by simp; intro e; exact hne' (by rw [e]; rfl))⟩, .inl rfl⟩
      · rw [List.size_toArray, splice_len_sp _ _ _ (by rw [hDl, hyl]; omega), hDl]
      · simp only [splice, hyl, hnl]
        have e1 : (List.take ((i + 1) * 4) cl ++ (news ++ List.drop ((i + 1) * 4 + (n - i) * 4) cl)).take (i * 4) = xs.take (i * 4) := by
          rw [List.take_append_of_le_length (by rw [List.length_take]; omega), List.take_take, ← htk, List.take_take]
          congr 1
          omega
        have e2 : (List.take ((i + 1) * 4) cl ++ (news ++ List.drop ((i + 1) * 4 + (n - i) * 4) cl)).drop (i * 4 + 4) = news ++ List.drop ((i + 1) * 4 + (n - i) * 4) cl := by
          rw [List.drop_append_of_le_length (by rw [List.length_take]; omega), List.drop_of_length_le (by rw [List.length_take]; omega), List.nil_append]
        rw [e1, e2, ← List.append_assoc, ← List.append_assoc, List.take_append_of_le_length (by simp only [List.length_append, List.length_take, hyl, hnl, hxl]; omega)]
        rw [List.take_of_length_le (by simp only [List.length_append, List.length_take, hyl, hnl, hxl]; omega), hnews]⟩
    clear hDl hfit1 hsrc h1n hnl hnews hcell hg0 htk hcs hg hbg hown h1x h1y hx hyl hxl hcm hnc
    have q1 : ((i : Int) == (n : Int)) = false := by rw [beq_eq_false_iff_ne]; omega
    have q2 : (i : Int) ≤ (n : Int) := by omega
    have q3 : ¬ (cap = i) := by omega
    have q4 : ¬ (cap = i + 1) := by omega
    have q5 : (n : Int) + 1 ≤ (cap : Int) := by omega
    have q6 : (i : Int) + 1 ≤ (n : Int) + 1 := by omega
    have q7 : ((i : Int) + 1).toNat = i + 1 := by omega
    have q8 : ((n : Int) + 1).toNat = n + 1 := by omega
    have q9 : (0 : Int) ≤ (i : Int) + 1 := by omega
    have q10 : (0 : Int) ≤ (n : Int) + 1 := by omega
    have q11 : IntKind.i64.wrap ((i : Int) + 1) = (i : Int) + 1 := by rw [IntKind.wrap_i64]; omega
    have q12 : (i : Int) ≤ (n : Int) + 1 := by omega
    have hov1 : ∀ lb cb lv cv, (callFunc 45 #[.slice (some ⟨gx, 0, none⟩) lv cv, .slice (some ⟨g, (i + 1) * 4, none⟩) lb cb]).run Try.prog w = .ok (.value (.bool false)) w := fun lb cb lv cv => hov w lb cb lv cv rfl rfl
    clear hov
    go_enter Try.func28, Try.ntmps28
    go_wp2_with (simp only [hov1])
    go_region_law (refine step_copyN rfl (.tmp 73) (.tmp 76) 59 59 rfl 63 4 Try.underlying59 hsz (some ⟨g, (i + 1) * 4, none⟩) (some ⟨g, i * 4, none⟩) (n - i) (cap - (i + 1)) (n + 1 - i) (cap - i) (by simp [Act.eval, Act.put]) (by simp [Act.eval, Act.put]) g ((i + 1) * 4) cl 63 HG0.out news ?hn ?hpos HF1.out HN1.out ?_; (case hn => rw [HNL.out]; congr 1; simp only [Nat.min_def]; split <;> omega); (case hpos => exact fun _ => ⟨rfl, _, rfl, HSRC.out⟩); intro w1 hb1 hk1; have HB1 := Sh.mk hb1; have HYW := Sh.mk (HYS.out w1 hk1); have HK1 := Sh.mk (((Kp.refl [g] w).drew).trans hk1); clear hb1 hk1)
    go_wp2_with (first | ((with_reducible refine gate_builtin (b := .copy) (xs := #[.tmp 80, .tmp 81]) rfl ?_); refine wpList_copyN rfl (.tmp 80) (.tmp 81) 59 59 rfl 63 4 Try.underlying59 hsz (some ⟨g, i * 4, none⟩) (some ⟨gx, 0, none⟩) (n + 1 - i) (cap - i) 1 cx rfl rfl g (i * 4) _ 63 HB1.out ys ?hn ?hpos ?hfit H1.out ?_; (case hn => rw [HYL.out]; simp only [Nat.min_def]; split <;> omega); (case hpos => exact fun _ => ⟨rfl, _, rfl, HYW.out⟩); (case hfit => rw [HYL.out, HDL.out]; have := HI.out; omega); intro w2 hb2 hk2; have HB2 := Sh.mk hb2; have HK2 := Sh.mk hk2; clear hb2 hk2))
    go_ret
    exact hfin.out w2 HB2.out (HK1.out.trans HK2.out)
end Go.Proofs.Ytmmpdpnonnjadaa
