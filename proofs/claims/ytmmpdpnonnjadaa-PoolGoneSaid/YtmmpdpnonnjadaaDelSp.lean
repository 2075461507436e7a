/- slices.Delete of one element, at elements of 4 cells (sp): a contract. No statement is proved here. -/
import Derived.Test.YtmmpdpnonnjadaaRowk
namespace Go.Proofs.Ytmmpdpnonnjadaa
set_option linter.unusedVariables false
set_option linter.unusedSimpArgs false
open Go.RowKit Go.Proofs.YtmmpdpnonnjadaaW.PrintWords Go.Proofs.YtmmpdpnonnjadaaW.PrintLast

theorem infoD_sp : (Try.prog.info? 63).map (fun i => (i.zero, i.size, i.bytes)) = some (some (.agg #[.int .i64 0, .int .i64 0, .int .i64 0, .slice none 0 0]), 4, 48) := by kernel_rfl

section
variable {P : Program} {ops : Array Oper} {o : Oper} {a : Act} {w : World} {K : Act → World → Prop} {Q : Exit → Act → World → Prop} {E : Prop}
/-- append, in a region that draws, where the run is known by an equation. -/
theorem step_append_eq_sp (hgd : o.guard = none) (d s : Operand) (t t' : TypeId) (ho : o.op = .call { callee := .builtin .append, args := #[d, s], argTypes := #[t, t'] }) (v u : Value) (hd : a.eval d = v) (hs : a.eval s = u) {v' : Value} {w' : World}
    (hr : (Builtin.append_ #[t, t'] o.type #[v, u]).run P w = .ok v' w') (h : K (a.put o.dst v') w') : if Region.wanted o (yielded ops a.tmps) = true then Oper.wp P o a w K Q else E := by
  have hw : Region.wanted o (yielded ops a.tmps) = true := by simp [Region.wanted, hgd]
  rw [if_pos hw]
  unfold Oper.wp execOp
  simp only [ho, resolve, invoke, builtin, Sem.run_bind, Sem.run_pure, Result.andThen_ok, List.map_toArray, List.map_cons, List.map_nil, hd, hs, hr]
  exact h
end

/-- What Delete leaves. -/
def Deleted_sp (base : Nat) (v : Value) (n i : Nat) (xs : List Value) (w : World) (e : Ending) (w' : World) : Prop :=
  ∃ v', e = .returned v' ∧ w'.ownsRow base 63 4 v' (n - 1) (xs.take (i * 4) ++ xs.drop ((i + 1) * 4)) ∧ w.grownBy w' v.ownBlock ∧ v'.ownBlock = v.ownBlock

set_option maxRecDepth 100000 in
set_option maxHeartbeats 4000000 in
theorem delete_one_sp (base : Nat) (v : Value) (n i : Nat) (xs : List Value) (w : World) (hown : w.ownsRow base 63 4 v n xs) (hi : i < n) (h1x : ∀ u ∈ xs, u.oneCell' = true) :
    Calls Try.prog 34 #[v, .int .i64 i, .int .i64 ((i : Int) + 1)] w (Deleted_sp base v n i xs w) := by
  obtain ⟨i0, hi0, hz0, hz1, hz2⟩ := info_parts infoD_sp
  have hxl := hown.1
  rcases hown.2 with ⟨_, h0⟩ | ⟨g, cap, cur, rfl, hbg, hg, hnc, hcm, hcs, htk⟩
  · omega
  · have hc63 : cap ≤ 9223372036854775807 := by simp only [maxLen] at hcm; omega
    obtain ⟨cl, rfl⟩ : ∃ cl : List Value, cur = cl.toArray := ⟨cur.toList, by simp⟩
    simp only [List.size_toArray] at hcs
    simp only at htk
    have hg0 : w.drew.heap[g]? = some (.cells cl.toArray 63 (0, 0)) := hg
    have hcell : ∀ j u, xs[j]? = some u → w.drew.cell? ⟨g, j, none⟩ = some u := fun j u hj => by
      have hb : Blk w.drew g 63 cl.toArray := hg0
      rw [hb.cell]
      rw [← htk, List.getElem?_take] at hj
      split at hj
      · simpa using hj
      · cases hj
    obtain ⟨news, hnews⟩ : ∃ news, news = xs.drop ((i + 1) * 4) := ⟨_, rfl⟩
    have hnl : news.length = (n - (i + 1)) * i0.size := by rw [hnews, hz1, List.length_drop, hxl, Nat.sub_mul]
    have hnl2 : news.length = (n - (i + 1)) * 4 := by rw [hnl, hz1]
    have h1n : ∀ u ∈ news, u.oneCell' = true := fun u hu => h1x u (List.mem_of_mem_drop (by rw [hnews] at hu; exact hu))
    obtain ⟨A, hA⟩ : ∃ A : Addr, (if cap = i + 1 then (⟨g, 0, none⟩ : Addr) else ⟨g, (i + 1) * 4, none⟩) = A := ⟨_, rfl⟩
    have hsrc : ∀ j u, news[j]? = some u → w.drew.cell? (A.add j) = some u := fun j u hj => by
      by_cases hc : cap = i + 1
      · have : news.length = 0 := by rw [hnl2]; omega
        rw [List.eq_nil_of_length_eq_zero this] at hj
        simp at hj
      · rw [if_neg hc] at hA
        subst hA
        rw [Addr.add_lit]
        rw [hnews, List.getElem?_drop] at hj
        exact hcell _ _ hj
    obtain ⟨C1, hC1⟩ : ∃ C1 : List Value, C1 = cl.take (i * 4) ++ news ++ cl.drop (i * 4 + news.length) := ⟨_, rfl⟩
    have hap : ∀ ty c, (Builtin.append_ #[59, 59] ty #[.slice (some ⟨g, 0, none⟩) i cap, .slice (some A) (n - (i + 1)) c]).run Try.prog w.drew = .ok (.slice (some ⟨g, 0, none⟩) (i + (n - (i + 1))) cap) (w.drew.setRow g C1.toArray) := fun ty c => by
      have := run_append_room (P := Try.prog) w.drew 59 ty 63 i0 Try.underlying59 hi0 g i cap cl.toArray hg0 A (n - (i + 1)) c news hnl hsrc h1n (by omega) (by rw [hnl2, hz1, List.size_toArray, hcs]; omega)
      rw [hz1] at this
      rw [this, hC1]
    have hC1l : C1.length = cap * 4 := by rw [hC1]; simp only [List.length_append, List.length_take, List.length_drop]; omega
    have hg1 : Blk (w.drew.setRow g C1.toArray) g 63 C1.toArray := setRow_heap w.drew g cl.toArray _ 63 _ hg0
    have hzc : ∀ u ∈ (Builtin.zeroCells ((.agg #[.int .i64 0, .int .i64 0, .int .i64 0, .slice none 0 0]) : Value).cells 1).toList, u.oneCell' = true := List.all_eq_true.1 (show (Builtin.zeroCells ((.agg #[.int .i64 0, .int .i64 0, .int .i64 0, .slice none 0 0]) : Value).cells 1).toList.all (·.oneCell') = true by kernel_rfl)
    have hzl : (Builtin.zeroCells ((.agg #[.int .i64 0, .int .i64 0, .int .i64 0, .slice none 0 0]) : Value).cells 1).toList.length = 4 := by rw [Array.length_toList, size_zeroCells]; rfl
    have hl : (xs.take (i * 4) ++ xs.drop ((i + 1) * 4)).length = (n - 1) * 4 := by rw [List.length_append, List.length_take, List.length_drop, hxl]; omega
    have fin : ∀ (W1 : World) (D : List Value), Blk W1 g 63 D.toArray → D.length = cap * 4 → D.take ((n - 1) * 4) = xs.take (i * 4) ++ xs.drop ((i + 1) * 4) → Kp [g] w W1 →
        ∃ W2, (∀ ty c, (Builtin.clear_ #[59] ty #[.slice (some ⟨g, (n - 1) * 4, none⟩) (n - (n - 1)) c]).run Try.prog W1 = .ok (.tuple #[]) W2) ∧ Deleted_sp base (.slice (some ⟨g, 0, none⟩) n cap) n i xs w (.returned (.slice (some ⟨g, 0, none⟩) (n - 1) cap)) W2 := by
      intro W1 D hD hDl hDt hk
      refine ⟨W1.setRow g (splice D ((n - 1) * 4) (Builtin.zeroCells ((.agg #[.int .i64 0, .int .i64 0, .int .i64 0, .slice none 0 0]) : Value).cells 1).toList).toArray, fun ty c => ?_, _, rfl, ⟨hl, .inr ⟨g, cap, _, rfl, hbg, setRow_heap W1 g D.toArray _ 63 _ hD, by omega, hcm, ?_, ?_⟩⟩, ?_, rfl⟩
      · rw [show n - (n - 1) = 1 by omega]
        exact run_clearN (P := Try.prog) W1 59 63 ty (.agg #[.int .i64 0, .int .i64 0, .int .i64 0, .slice none 0 0]) i0 g ((n - 1) * 4) 1 c D 63 Try.underlying59 hi0 hz0 hD (by omega) (by rw [hDl]; simp [Value.cells]; omega) hzc
      · simp only [List.size_toArray, splice, List.length_append, List.length_take, List.length_drop, hzl, hDl]; omega
      · simp only [splice]
        rw [List.take_append_of_le_length (by rw [List.length_take, hDl]; omega), List.take_take, Nat.min_self, hDt]
      · have k2 := hk.setRow (g := g) (by simp) (splice D ((n - 1) * 4) (Builtin.zeroCells ((.agg #[.int .i64 0, .int .i64 0, .int .i64 0, .slice none 0 0]) : Value).cells 1).toList).toArray
        exact ⟨k2.os, k2.tape, k2.output, k2.size, fun k hk hne => k2.block k hk (by simp; intro e; exact hne (by rw [e]; rfl))⟩
    have hC1t : C1.take ((n - 1) * 4) = xs.take (i * 4) ++ xs.drop ((i + 1) * 4) := by
      rw [hC1, List.append_assoc, ← List.append_assoc, List.take_append_of_le_length (by simp only [List.length_append, List.length_take]; omega)]
      rw [List.take_of_length_le (by simp only [List.length_append, List.length_take]; omega), hnews]
      congr 1
      rw [← htk, List.take_take]
      congr 1
      omega
    obtain ⟨W2, hcr, hfin⟩ := fin _ C1 hg1 hC1l hC1t (((Kp.refl _ _).drew).setRow (by simp) _)
    have HFIN := Sh.mk hfin
    have hcl0 : cap = i + 1 → ∃ W3, (∀ ty c, (Builtin.clear_ #[59] ty #[.slice (some ⟨g, (n - 1) * 4, none⟩) (n - (n - 1)) c]).run Try.prog w.drew = .ok (.tuple #[]) W3) ∧ Deleted_sp base (.slice (some ⟨g, 0, none⟩) n cap) n i xs w (.returned (.slice (some ⟨g, 0, none⟩) (n - 1) cap)) W3 := fun hcc => by
      refine fin w.drew cl hg0 hcs ?_ ((Kp.refl _ _).drew)
      have e : xs.drop ((i + 1) * 4) = [] := List.drop_of_length_le (by rw [hxl]; omega)
      rw [e, List.append_nil, ← htk, List.take_take]
      congr 1
      omega
    clear hfin hzc hzl hl fin hg1 hC1l hC1t hC1 hsrc h1n hnl hnl2 hnews hcell hg0 htk hcs hg hbg hown h1x hxl
    have q1 : ¬ ((i : Int) = (i : Int) + 1) := by omega
    have q2 : (i : Int) + 1 ≤ (n : Int) := by omega
    have q3 : ((i : Int) + 1).toNat = i + 1 := by omega
    have q4 : (0 : Int) ≤ (i : Int) + 1 := by omega
    have q5 : i + (n - (i + 1)) = n - 1 := by omega
    have q6 : ¬ (cap = n - 1) := by omega
    have q7 : (i : Int) ≤ (i : Int) + 1 := by omega
    have q8 : (i : Int) ≤ (cap : Int) := by omega
    have q9 : (i : Int) + 1 ≤ (cap : Int) := by omega
    rw [q5] at hap
    by_cases hcc : cap = i + 1
    · obtain ⟨W3, hcr3, hfin3⟩ := hcl0 hcc
      have HFIN3 := Sh.mk hfin3
      obtain rfl : n = i + 1 := by omega
      subst hcc
      clear hap hcr hcl0 hA hfin3
      have q10 : i + 1 - (i + 1) = 0 := by omega
      have q11 : i + 1 - 1 = i := by omega
      have q12 : i + 1 - i = 1 := by omega
      simp only [q11, q12] at hcr3
      go_enter Try.func34, Try.ntmps34
      go_wp2_with fail
      go_region
      go_wp2_with (first | (at_builtin; refine wpList_clear_eq rfl _ 59 rfl _ rfl (hcr3 _ _) ?_))
      go_ret
      exact HFIN3.out
    · rw [if_neg hcc] at hA
      subst hA
      clear hcl0
      go_enter Try.func34, Try.ntmps34
      go_wp2_with fail
      go_region_law (refine step_append_eq_sp rfl (.tmp 22) (.tmp 25) 59 59 rfl (.slice (some ⟨g, 0, none⟩) i cap) (.slice (some ⟨g, (i + 1) * 4, none⟩) (n - (i + 1)) (cap - (i + 1))) rfl rfl (hap _ _) ?_)
      go_wp2_with (first | (at_builtin; refine wpList_clear_eq rfl _ 59 rfl _ rfl (hcr _ _) ?_))
      go_ret
      exact HFIN.out
end Go.Proofs.Ytmmpdpnonnjadaa
