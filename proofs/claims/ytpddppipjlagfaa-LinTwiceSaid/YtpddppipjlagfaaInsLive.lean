/- Several texts in one: LiveFunc, InsLive, Ins2Live. -/
import Derived.Test.YtpddppipjlagfaaBase
import Derived.Test.YtpddppipjlagfaaWArr
import Derived.Shelf.Abstract
import Derived.Test.YtpddppipjlagfaaRowk
/- IndexFunc, ContainsFunc at api.Live, over any closure. No statement is proved here. -/
namespace Go.Proofs.Ytpddppipjlagfaa
set_option linter.unusedVariables false
set_option linter.unusedSimpArgs false
open Go.RowKit Go.Proofs.YtpddppipjlagfaaW.PrintWords Go.Proofs.YtpddppipjlagfaaW.PrintLast Go.Proofs.YtpddppipjlagfaaW.PrintMore Pr

set_option maxHeartbeats 2000000 in
theorem index_live (p : S59 → Bool) (f : Nat) (cs : Array Value) (A0 : Option Addr) (c0 : Nat) (l0 : List S59) (w : World) (eg : ∀ args W, (callFunc f args).run Try.prog W = .ok (.enter f args) W) (hr0 : Kd.C k59 w A0 l0.length l0) (hl : l0.length ≤ 17592186044416)
    (hp : ∀ W, Below w.heap.size w W → ∀ x : S59, Calls Try.prog f (#[.agg #[.int .i64 x.f0, .int .i64 x.f1, .int .i64 x.f2]] ++ cs) W fun e W' => e = .returned (.bool (p x)) ∧ Below W.heap.size W W') :
    Calls Try.prog 65 #[.slice A0 l0.length c0, .func (.func f) #[] cs] w fun e w' => e = .returned (.int .i64 (idxB p l0 0)) ∧ Below w.heap.size w w' := by
  have hu := Try.underlying59
  have HR := Sh.mk hr0
  have HP := Sh.mk hp
  clear hr0 hp
  go_enter Try.func65, Try.ntmps65
  go_wp2
  go_loopw [8] (fun i wr => ∃ k : Nat, k ≤ l0.length ∧ i = .int .i64 k ∧ Sh (idxB p l0 0 = idxB p (l0.drop k) k) ∧ Sh (Below w.heap.size w wr)) (fun i _ => l0.length - (intOf i).toNat)
  case atStart => exact ⟨0, Nat.zero_le _, rfl, ⟨by simp⟩, ⟨Below.refl _ _⟩⟩
  case round =>
    obtain ⟨k, hk, rfl, HF, HB⟩ := hrel
    by_cases hlt : k < l0.length
    · obtain ⟨ad, rfl, hx0, hx1, hx2⟩ := at_T59 (Kd.C_below HR.out HB.out) (k : Int) (by omega) (by omega)
      have hf := idxB_drop p l0 k hlt (rd_T59 l0 (k : Int)) (by simp [rd_T59, List.getD_eq_getElem?_getD, List.getElem?_eq_getElem hlt])
      rw [Int.toNat_natCast] at hx0 hx1 hx2
      obtain ⟨x, hx⟩ : ∃ x, x = rd_T59 l0 (k : Int) := ⟨_, rfl⟩
      rw [← hx] at hx0 hx1 hx2 hf
      clear hx
      have HC := Sh.mk (HP.out wr HB.out x)
      cases c : p x with
      | true =>
        rw [if_pos c] at hf
        have HV := Sh.mk (HF.out.trans hf)
        have CB := Sh.mk c
        clear hf c
        go_wp2_with (go_at_fn f; (with_reducible refine HC.out.mono ?_); rintro e w2 ⟨rfl, h2⟩; have H2 := Sh.mk h2; clear h2; rw [CB.out])
        go_ret
        exact ⟨by rw [HV.out]; rfl, below_then HB.out HB.out.size H2.out⟩
      | false =>
        rw [c, if_neg (by simp)] at hf
        have HV := Sh.mk (HF.out.trans hf)
        have CB := Sh.mk c
        clear hf c
        go_wp2_with (go_at_fn f; (with_reducible refine HC.out.mono ?_); rintro e w2 ⟨rfl, h2⟩; have H2 := Sh.mk h2; clear h2; rw [CB.out])
        go_roundw
        case rel => exact ⟨k + 1, by omega, by go_num, ⟨HV.out⟩, ⟨below_then HB.out HB.out.size H2.out⟩⟩
        case measure => simp [intOf]; omega
    · obtain rfl : k = l0.length := by omega
      have HV : Sh (idxB p l0 0 = -1) := ⟨by rw [HF.out, List.drop_length]; rfl⟩
      go_wp2
      go_ret
      exact ⟨by rw [HV.out]; rfl, HB.out⟩
set_option maxHeartbeats 1000000 in
theorem contains_live (p : S59 → Bool) (f : Nat) (cs : Array Value) (A0 : Option Addr) (c0 : Nat) (l0 : List S59) (w : World) (eg : ∀ args W, (callFunc f args).run Try.prog W = .ok (.enter f args) W) (hr0 : Kd.C k59 w A0 l0.length l0) (hl : l0.length ≤ 17592186044416)
    (hp : ∀ W, Below w.heap.size w W → ∀ x : S59, Calls Try.prog f (#[.agg #[.int .i64 x.f0, .int .i64 x.f1, .int .i64 x.f2]] ++ cs) W fun e W' => e = .returned (.bool (p x)) ∧ Below W.heap.size W W') :
    Calls Try.prog 56 #[.slice A0 l0.length c0, .func (.func f) #[] cs] w fun e w' => e = .returned (.bool (l0.any p)) ∧ Below w.heap.size w w' := by
  have HI := Sh.mk (index_live p f cs A0 c0 l0 w eg hr0 hl hp)
  have HA := Sh.mk (idxB_any p l0)
  clear hr0 hp
  go_enter Try.func56, Try.ntmps56
  go_wp2_with fail
  (with_reducible refine HI.out.mono ?_); rintro e w2 ⟨rfl, h2⟩
  have H2 := Sh.mk h2
  clear h2
  go_wp2
  go_ret
  exact ⟨by rw [← HA.out]; rfl, H2.out⟩
end Go.Proofs.Ytpddppipjlagfaa

/- slices.Insert of one element, at elements of 3 cells (live): a contract. No statement is proved here. -/
namespace Go.Proofs.Ytpddppipjlagfaa
set_option linter.unusedVariables false
set_option linter.unusedSimpArgs false
open Go.RowKit Go.Proofs.YtpddppipjlagfaaW.PrintWords Go.Proofs.YtpddppipjlagfaaW.PrintLast

theorem info_live : (Try.prog.info? 59).map (fun i => (i.zero, i.size, i.bytes)) = some (some (.agg #[.int .i64 0, .int .i64 0, .int .i64 0]), 3, 24) := by kernel_rfl

/-- What Insert leaves. -/
def Inserted_live (base : Nat) (v : Value) (n i : Nat) (xs ys : List Value) (w : World) (e : Ending) (w' : World) : Prop :=
  ∃ v', e = .returned v' ∧ w'.ownsRow base 59 3 v' (n + 1) (xs.take (i * 3) ++ ys ++ xs.drop (i * 3)) ∧ w.grownBy w' v.ownBlock ∧ (v'.ownBlock = v.ownBlock ∨ ∃ b, v'.ownBlock = some b ∧ w.heap.size ≤ b)

set_option maxRecDepth 100000 in
set_option maxHeartbeats 4000000 in
theorem insert_end_live (base : Nat) (v : Value) (n : Nat) (xs ys zs : List Value) (gx cx : Nat) (w : World) (hown : w.ownsRow base 59 3 v n xs) (hx : Blk w gx 59 (ys ++ zs).toArray) (hyl : ys.length = 3)
    (h1y : ∀ u ∈ ys, u.oneCell' = true) (hn : (n + 1) * 24 ≤ 140737488355328) (hbase : base ≤ w.heap.size) :
    Calls Try.prog 59 #[v, .int .i64 n, .slice (some ⟨gx, 0, none⟩) 1 cx] w (Inserted_live base v n n xs ys w) := by
  obtain ⟨i0, hi0, hz0, hz1, hz2⟩ := info_parts info_live
  have hxl := hown.1
  have HO := Sh.mk hown
  have HY : Sh (∀ j u, ys[j]? = some u → w.cell? ((⟨gx, 0, none⟩ : Addr).add j) = some u) := ⟨fun j u hu => by
    have e1 : (⟨gx, 0, none⟩ : Addr).add j = ⟨gx, j, none⟩ := by unfold Addr.add; split <;> simp_all
    rw [e1, hx.cell]; exact cell_pre hu⟩
  have HYL : Sh (ys.length = 1 * 3) := ⟨by omega⟩
  have H1 := Sh.mk h1y
  have HXL : Sh (xs.length = n * 3) := ⟨hxl⟩
  have hfin : ∀ v' (w' : World), w'.ownsRow base 59 3 v' (n + 1) (xs ++ ys) → w'.ownsRow base 59 3 v' (n + 1) (xs.take (n * 3) ++ ys ++ xs.drop (n * 3)) := fun v' w' h => by
    rw [List.take_of_length_le (by rw [HXL.out]; exact Nat.le_refl _), List.drop_of_length_le (by rw [HXL.out]; exact Nat.le_refl _), List.append_nil]; exact h
  have HF := Sh.mk hfin
  have hn63 : n ≤ 140737488355328 := by omega
  clear hx hyl h1y hfin hxl
  rcases hown.2 with ⟨rfl, rfl⟩ | ⟨g, cap, cur, rfl, hbg, hg, hnc, hcm, hcs, htk⟩
  · clear hown
    go_enter Try.func59, Try.ntmps59
    go_wp2_with (first | (at_builtin; refine wpList_append_own_at _ rfl (.tmp 23) (.tmp 24) 41 rfl base 59 i0 (.agg #[.int .i64 0, .int .i64 0, .int .i64 0]) 3 24 Try.underlying41 hi0 hz0 hz1 hz2 rfl (by omega) (.slice none 0 0) 0 xs rfl HO.out ⟨gx, 0, none⟩ 1 cx ys rfl HYL.out HY.out H1.out (by simp [maxLen]) (by omega) hbase ?_; intro v1 w1 hown1 hg1 _ hat1; have HO1 := Sh.mk hown1; have HG := Sh.mk hg1; have HAT := Sh.mk hat1; clear hown1 hg1 hat1))
    go_ret
    refine ⟨v1, rfl, HF.out _ _ HO1.out, HG.out, ?_⟩
    rcases HAT.out with h | h
    · exact .inl h
    · exact .inr ⟨_, h, Nat.le_refl _⟩
  · have hc63 : cap ≤ 9223372036854775807 := by simp only [maxLen] at hcm; omega
    clear hown htk hcs hcm hbg hg
    go_enter Try.func59, Try.ntmps59
    go_wp2_with (first | (at_builtin; refine wpList_append_own_at _ rfl (.tmp 23) (.tmp 24) 41 rfl base 59 i0 (.agg #[.int .i64 0, .int .i64 0, .int .i64 0]) 3 24 Try.underlying41 hi0 hz0 hz1 hz2 rfl (by omega) (.slice (some ⟨g, 0, none⟩) n cap) n xs rfl HO.out ⟨gx, 0, none⟩ 1 cx ys rfl HYL.out HY.out H1.out (by simp only [maxLen]; omega) (by omega) hbase ?_; intro v1 w1 hown1 hg1 _ hat1; have HO1 := Sh.mk hown1; have HG := Sh.mk hg1; have HAT := Sh.mk hat1; clear hown1 hg1 hat1))
    all_goals go_ret
    all_goals
      refine ⟨v1, rfl, HF.out _ _ HO1.out, HG.out, ?_⟩
      rcases HAT.out with h | h
      · exact .inl h
      · exact .inr ⟨_, h, Nat.le_refl _⟩
end Go.Proofs.Ytpddppipjlagfaa

/- slices.Insert of one element ahead of others, at elements of 3 cells (live): a contract. No statement is proved here. -/
namespace Go.Proofs.Ytpddppipjlagfaa
set_option linter.unusedVariables false
set_option linter.unusedSimpArgs false
open Go.RowKit Go.Proofs.YtpddppipjlagfaaW.PrintWords Go.Proofs.YtpddppipjlagfaaW.PrintLast Go.Proofs.YtpddppipjlagfaaW.PrintMore

theorem splice_len_live (L : List Value) (off : Nat) (cs : List Value) (h : off + cs.length ≤ L.length) : (splice L off cs).length = L.length := by
  simp only [splice, List.length_append, List.length_take, List.length_drop]; omega

set_option maxRecDepth 100000 in
set_option maxHeartbeats 4000000 in
theorem insert_room_live (base : Nat) (g cap n i : Nat) (xs ys zs : List Value) (gx cx : Nat) (w : World) (hown : w.ownsRow base 59 3 (.slice (some ⟨g, 0, none⟩) n cap) n xs) (hx : Blk w gx 59 (ys ++ zs).toArray) (hyl : ys.length = 3) (hne : gx ≠ g)
    (h1x : ∀ u ∈ xs, u.oneCell' = true) (h1y : ∀ u ∈ ys, u.oneCell' = true) (hi : i < n) (hroom : n + 1 ≤ cap) :
    Calls Try.prog 59 #[.slice (some ⟨g, 0, none⟩) n cap, .int .i64 i, .slice (some ⟨gx, 0, none⟩) 1 cx] w (Inserted_live base (.slice (some ⟨g, 0, none⟩) n cap) n i xs ys w) := by
  obtain ⟨i0, hi0, hz0, hz1, hz2⟩ := info_parts info_live
  have hsz : (Try.prog.info? 59).map (·.size) = some 3 := by rw [hi0]; simp [hz1]
  have hxl := hown.1
  rcases hown.2 with ⟨h0, _⟩ | ⟨g', cap', cur, hv, hbg, hg, hnc, hcm, hcs, htk⟩
  · cases h0
  · simp only [Value.slice.injEq, Option.some.injEq, Addr.mk.injEq] at hv
    obtain ⟨⟨rfl, _, _⟩, _, rfl⟩ := hv
    have hc63 : cap ≤ 9223372036854775807 := by simp only [maxLen] at hcm; omega
    obtain ⟨cl, rfl⟩ : ∃ cl : List Value, cur = cl.toArray := ⟨cur.toList, by simp⟩
    simp only [List.size_toArray] at hcs
    simp only at htk
    have hg0 : Blk w.drew g 59 cl.toArray := hg
    have hcell : ∀ j u, xs[j]? = some u → w.drew.cell? ⟨g, j, none⟩ = some u := fun j u hj => by
      rw [hg0.cell]
      rw [← htk, List.getElem?_take] at hj
      split at hj
      · simpa using hj
      · cases hj
    obtain ⟨news, hnews⟩ : ∃ news, news = xs.drop (i * 3) := ⟨_, rfl⟩
    have hnl : news.length = (n - i) * 3 := by rw [hnews, List.length_drop, hxl, Nat.sub_mul]
    have h1n : ∀ u ∈ news, u.oneCell' = true := fun u hu => h1x u (List.mem_of_mem_drop (by rw [hnews] at hu; exact hu))
    have hsrc : ∀ j u, news[j]? = some u → w.drew.cell? ((⟨g, i * 3, none⟩ : Addr).add j) = some u := fun j u hj => by
      rw [Addr.add_lit]
      rw [hnews, List.getElem?_drop] at hj
      exact hcell _ _ hj
    have hov : ∀ (W : World) (lb cb lv cv : Nat), W.heap[gx]? = w.heap[gx]? → W.heap[g]? = w.heap[g]? → (callFunc 67 #[.slice (some ⟨gx, 0, none⟩) lv cv, .slice (some ⟨g, (i + 1) * 3, none⟩) lb cb]).run Try.prog W = .ok (.value (.bool false)) W := fun W lb cb lv cv hW1 hW2 => by
      have hxW : Blk W gx 59 (ys ++ zs).toArray := hW1.trans hx
      have hgW : Blk W g 59 cl.toArray := hW2.trans hg
      rw [run_callFunc_extern Try.func67 (by kernel_rfl) (by kernel_rfl) (by kernel_rfl) (e := Extern.SlicesOverlaps.overlaps #[41, 41] #[4]) (by kernel_rfl),
        Lib.run_overlaps_apart W 41 4 59 Try.underlying41 3 (fun w => by simp [sizeOf, typeInfo, hi0, hz1]) ⟨gx, 0, none⟩ ⟨g, (i + 1) * 3, none⟩ lv cv lb cb hne 59 59 (3 + zs.length) cl.length (by unfold Blk at hxW; simp [World.shape?, hxW, hyl]) (by unfold Blk at hgW; simp [World.shape?, hgW]) (by rw [hcs]; omega) (hxW.frozen _) (hxW.frozen _)]
      rfl
    have hfit1 : (i + 1) * 3 + news.length ≤ cl.length := by rw [hnl, hcs]; omega
    have hDl : (splice cl ((i + 1) * 3) news).length = cap * 3 := by rw [splice_len_live _ _ _ hfit1, hcs]
    have HYS : Sh (∀ W, Kp [g] w.drew W → ∀ j u, ys[j]? = some u → W.cell? ((⟨gx, 0, none⟩ : Addr).add j) = some u) := ⟨fun W hW j u hu => by
      have e1 : (⟨gx, 0, none⟩ : Addr).add j = ⟨gx, j, none⟩ := by unfold Addr.add; split <;> simp_all
      rw [e1, (Blk.kp (show Blk w.drew gx 59 (ys ++ zs).toArray from hx) hW (by simp; exact hne)).cell]; exact cell_pre hu⟩
    have HYL : Sh (ys.length = 3) := ⟨hyl⟩
    have H1 := Sh.mk h1y
    have HN1 := Sh.mk h1n
    have HNL := Sh.mk hnl
    have HG0 := Sh.mk hg0
    have HSRC := Sh.mk hsrc
    have HF1 := Sh.mk hfit1
    have HDL := Sh.mk hDl
    have HI : Sh (i < n ∧ n + 1 ≤ cap) := ⟨⟨hi, hroom⟩⟩
    have hfin : Sh (∀ W, Blk W g 59 (splice (splice cl ((i + 1) * 3) news) (i * 3) ys).toArray → Kp [g] w W → Inserted_live base (.slice (some ⟨g, 0, none⟩) n cap) n i xs ys w (.returned (.slice (some ⟨g, 0, none⟩) (n + 1) cap)) W) := ⟨fun W hW hk => by
      have hl : (xs.take (i * 3) ++ ys ++ xs.drop (i * 3)).length = (n + 1) * 3 := by simp only [List.length_append, List.length_take, List.length_drop, hxl, hyl]; omega
      refine ⟨_, rfl, ⟨hl, .inr ⟨g, cap, _, rfl, hbg, hW, hroom, hcm, ?_, ?_⟩⟩, ⟨hk.os, hk.tape, hk.output, hk.size, fun k hk' hne' => hk.block k hk' (by simp; intro e; exact hne' (by rw [e]; rfl))⟩, .inl rfl⟩
      · rw [List.size_toArray, splice_len_live _ _ _ (by rw [hDl, hyl]; omega), hDl]
      · simp only [splice, hyl, hnl]
        have e1 : (List.take ((i + 1) * 3) cl ++ (news ++ List.drop ((i + 1) * 3 + (n - i) * 3) cl)).take (i * 3) = xs.take (i * 3) := by
          rw [List.take_append_of_le_length (by rw [List.length_take]; omega), List.take_take, ← htk, List.take_take]
          congr 1
          omega
        have e2 : (List.take ((i + 1) * 3) cl ++ (news ++ List.drop ((i + 1) * 3 + (n - i) * 3) cl)).drop (i * 3 + 3) = news ++ List.drop ((i + 1) * 3 + (n - i) * 3) cl := by
          rw [List.drop_append_of_le_length (by rw [List.length_take]; omega), List.drop_of_length_le (by rw [List.length_take]; omega), List.nil_append]
        rw [e1, e2, ← List.append_assoc, ← List.append_assoc, List.take_append_of_le_length (by simp only [List.length_append, List.length_take, hyl, hnl, hxl]; omega)]
        rw [List.take_of_length_le (by simp only [List.length_append, List.length_take, hyl, hnl, hxl]; omega), hnews]⟩
    clear hDl hfit1 hsrc h1n hnl hnews hcell hg0 htk hcs hg hbg hown h1x h1y hx hyl hxl hcm hnc
    have q1 : ((i : Int) == (n : Int)) = false := by rw [beq_eq_false_iff_ne]; omega
    have q2 : (i : Int) ≤ (n : Int) := by omega
    have q3 : ¬ (cap = i) := by omega
    have q4 : ¬ (cap = i + 1) := by omega
    have q5 : (n : Int) + 1 ≤ (cap : Int) := by omega
    have q6 : (i : Int) + 1 ≤ (n : Int) + 1 := by omega
    have q7 : ((i : Int) + 1).toNat = i + 1 := by omega
    have q8 : ((n : Int) + 1).toNat = n + 1 := by omega
    have q9 : (0 : Int) ≤ (i : Int) + 1 := by omega
    have q10 : (0 : Int) ≤ (n : Int) + 1 := by omega
    have q11 : IntKind.i64.wrap ((i : Int) + 1) = (i : Int) + 1 := by rw [IntKind.wrap_i64]; omega
    have q12 : (i : Int) ≤ (n : Int) + 1 := by omega
    have hov1 : ∀ lb cb lv cv, (callFunc 67 #[.slice (some ⟨gx, 0, none⟩) lv cv, .slice (some ⟨g, (i + 1) * 3, none⟩) lb cb]).run Try.prog w = .ok (.value (.bool false)) w := fun lb cb lv cv => hov w lb cb lv cv rfl rfl
    clear hov
    go_enter Try.func59, Try.ntmps59
    go_wp2_with (simp only [hov1])
    go_region_law (refine step_copyN rfl (.tmp 73) (.tmp 76) 41 41 rfl 59 3 Try.underlying41 hsz (some ⟨g, (i + 1) * 3, none⟩) (some ⟨g, i * 3, none⟩) (n - i) (cap - (i + 1)) (n + 1 - i) (cap - i) (by simp [Act.eval, Act.put]) (by simp [Act.eval, Act.put]) g ((i + 1) * 3) cl 59 HG0.out news ?hn ?hpos HF1.out HN1.out ?_; (case hn => rw [HNL.out]; congr 1; simp only [Nat.min_def]; split <;> omega); (case hpos => exact fun _ => ⟨rfl, _, rfl, HSRC.out⟩); intro w1 hb1 hk1; have HB1 := Sh.mk hb1; have HYW := Sh.mk (HYS.out w1 hk1); have HK1 := Sh.mk (((Kp.refl [g] w).drew).trans hk1); clear hb1 hk1)
    go_wp2_with (first | ((with_reducible refine gate_builtin (b := .copy) (xs := #[.tmp 80, .tmp 81]) rfl ?_); refine wpList_copyN rfl (.tmp 80) (.tmp 81) 41 41 rfl 59 3 Try.underlying41 hsz (some ⟨g, i * 3, none⟩) (some ⟨gx, 0, none⟩) (n + 1 - i) (cap - i) 1 cx rfl rfl g (i * 3) _ 59 HB1.out ys ?hn ?hpos ?hfit H1.out ?_; (case hn => rw [HYL.out]; simp only [Nat.min_def]; split <;> omega); (case hpos => exact fun _ => ⟨rfl, _, rfl, HYW.out⟩); (case hfit => rw [HYL.out, HDL.out]; have := HI.out; omega); intro w2 hb2 hk2; have HB2 := Sh.mk hb2; have HK2 := Sh.mk hk2; clear hb2 hk2))
    go_ret
    exact hfin.out w2 HB2.out (HK1.out.trans HK2.out)
end Go.Proofs.Ytpddppipjlagfaa
