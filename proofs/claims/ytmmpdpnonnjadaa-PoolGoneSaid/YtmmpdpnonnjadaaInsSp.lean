/- slices.Insert of one element, at elements of 4 cells (sp): a contract. No statement is proved here. -/
import Derived.Test.YtmmpdpnonnjadaaRowk
namespace Go.Proofs.Ytmmpdpnonnjadaa
set_option linter.unusedVariables false
set_option linter.unusedSimpArgs false
open Go.RowKit Go.Proofs.YtmmpdpnonnjadaaW.PrintWords Go.Proofs.YtmmpdpnonnjadaaW.PrintLast

theorem info_sp : (Try.prog.info? 63).map (fun i => (i.zero, i.size, i.bytes)) = some (some (.agg #[.int .i64 0, .int .i64 0, .int .i64 0, .slice none 0 0]), 4, 48) := by kernel_rfl

/-- What Insert leaves. -/
def Inserted_sp (base : Nat) (v : Value) (n i : Nat) (xs ys : List Value) (w : World) (e : Ending) (w' : World) : Prop :=
  ∃ v', e = .returned v' ∧ w'.ownsRow base 63 4 v' (n + 1) (xs.take (i * 4) ++ ys ++ xs.drop (i * 4)) ∧ w.grownBy w' v.ownBlock ∧ (v'.ownBlock = v.ownBlock ∨ ∃ b, v'.ownBlock = some b ∧ w.heap.size ≤ b)

set_option maxRecDepth 100000 in
set_option maxHeartbeats 4000000 in
theorem insert_end_sp (base : Nat) (v : Value) (n : Nat) (xs ys zs : List Value) (gx cx : Nat) (w : World) (hown : w.ownsRow base 63 4 v n xs) (hx : Blk w gx 63 (ys ++ zs).toArray) (hyl : ys.length = 4)
    (h1y : ∀ u ∈ ys, u.oneCell' = true) (hn : (n + 1) * 48 ≤ 140737488355328) (hbase : base ≤ w.heap.size) :
    Calls Try.prog 28 #[v, .int .i64 n, .slice (some ⟨gx, 0, none⟩) 1 cx] w (Inserted_sp base v n n xs ys w) := by
  obtain ⟨i0, hi0, hz0, hz1, hz2⟩ := info_parts info_sp
  have hxl := hown.1
  have HO := Sh.mk hown
  have HY : Sh (∀ j u, ys[j]? = some u → w.cell? ((⟨gx, 0, none⟩ : Addr).add j) = some u) := ⟨fun j u hu => by
    have e1 : (⟨gx, 0, none⟩ : Addr).add j = ⟨gx, j, none⟩ := by unfold Addr.add; split <;> simp_all
    rw [e1, hx.cell]; exact cell_pre hu⟩
  have HYL : Sh (ys.length = 1 * 4) := ⟨by omega⟩
  have H1 := Sh.mk h1y
  have HXL : Sh (xs.length = n * 4) := ⟨hxl⟩
  have hfin : ∀ v' (w' : World), w'.ownsRow base 63 4 v' (n + 1) (xs ++ ys) → w'.ownsRow base 63 4 v' (n + 1) (xs.take (n * 4) ++ ys ++ xs.drop (n * 4)) := fun v' w' h => by
    rw [List.take_of_length_le (by rw [HXL.out]; exact Nat.le_refl _), List.drop_of_length_le (by rw [HXL.out]; exact Nat.le_refl _), List.append_nil]; exact h
  have HF := Sh.mk hfin
  have hn63 : n ≤ 140737488355328 := by omega
  clear hx hyl h1y hfin hxl
  rcases hown.2 with ⟨rfl, rfl⟩ | ⟨g, cap, cur, rfl, hbg, hg, hnc, hcm, hcs, htk⟩
  · clear hown
    go_enter Try.func28, Try.ntmps28
    go_wp2_with (first | (at_builtin; refine wpList_append_own_at _ rfl (.tmp 23) (.tmp 24) 59 rfl base 63 i0 (.agg #[.int .i64 0, .int .i64 0, .int .i64 0, .slice none 0 0]) 4 48 Try.underlying59 hi0 hz0 hz1 hz2 rfl (by omega) (.slice none 0 0) 0 xs rfl HO.out ⟨gx, 0, none⟩ 1 cx ys rfl HYL.out HY.out H1.out (by simp [maxLen]) (by omega) hbase ?_; intro v1 w1 hown1 hg1 _ hat1; have HO1 := Sh.mk hown1; have HG := Sh.mk hg1; have HAT := Sh.mk hat1; clear hown1 hg1 hat1))
    go_ret
    refine ⟨v1, rfl, HF.out _ _ HO1.out, HG.out, ?_⟩
    rcases HAT.out with h | h
    · exact .inl h
    · exact .inr ⟨_, h, Nat.le_refl _⟩
  · have hc63 : cap ≤ 9223372036854775807 := by simp only [maxLen] at hcm; omega
    clear hown htk hcs hcm hbg hg
    go_enter Try.func28, Try.ntmps28
    go_wp2_with (first | (at_builtin; refine wpList_append_own_at _ rfl (.tmp 23) (.tmp 24) 59 rfl base 63 i0 (.agg #[.int .i64 0, .int .i64 0, .int .i64 0, .slice none 0 0]) 4 48 Try.underlying59 hi0 hz0 hz1 hz2 rfl (by omega) (.slice (some ⟨g, 0, none⟩) n cap) n xs rfl HO.out ⟨gx, 0, none⟩ 1 cx ys rfl HYL.out HY.out H1.out (by simp only [maxLen]; omega) (by omega) hbase ?_; intro v1 w1 hown1 hg1 _ hat1; have HO1 := Sh.mk hown1; have HG := Sh.mk hg1; have HAT := Sh.mk hat1; clear hown1 hg1 hat1))
    all_goals go_ret
    all_goals
      refine ⟨v1, rfl, HF.out _ _ HO1.out, HG.out, ?_⟩
      rcases HAT.out with h | h
      · exact .inl h
      · exact .inr ⟨_, h, Nat.le_refl _⟩
end Go.Proofs.Ytmmpdpnonnjadaa
