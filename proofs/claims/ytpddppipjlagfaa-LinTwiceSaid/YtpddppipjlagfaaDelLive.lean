/- Several texts in one: DelLive, LiveRows. -/
import Derived.Test.YtpddppipjlagfaaRowk
import Derived.Test.YtpddppipjlagfaaOver
/- slices.Delete of one element, at elements of 3 cells (live): a contract. No statement is proved here. -/
namespace Go.Proofs.Ytpddppipjlagfaa
set_option linter.unusedVariables false
set_option linter.unusedSimpArgs false
open Go.RowKit Go.Proofs.YtpddppipjlagfaaW.PrintWords Go.Proofs.YtpddppipjlagfaaW.PrintLast

theorem infoD_live : (Try.prog.info? 59).map (fun i => (i.zero, i.size, i.bytes)) = some (some (.agg #[.int .i64 0, .int .i64 0, .int .i64 0]), 3, 24) := by kernel_rfl

section
variable {P : Program} {ops : Array Oper} {o : Oper} {a : Act} {w : World} {K : Act → World → Prop} {Q : Exit → Act → World → Prop} {E : Prop}
/-- append, in a region that draws, where the run is known by an equation. -/
theorem step_append_eq_live (hgd : o.guard = none) (d s : Operand) (t t' : TypeId) (ho : o.op = .call { callee := .builtin .append, args := #[d, s], argTypes := #[t, t'] }) (v u : Value) (hd : a.eval d = v) (hs : a.eval s = u) {v' : Value} {w' : World}
    (hr : (Builtin.append_ #[t, t'] o.type #[v, u]).run P w = .ok v' w') (h : K (a.put o.dst v') w') : if Region.wanted o (yielded ops a.tmps) = true then Oper.wp P o a w K Q else E := by
  have hw : Region.wanted o (yielded ops a.tmps) = true := by simp [Region.wanted, hgd]
  rw [if_pos hw]
  unfold Oper.wp execOp
  simp only [ho, resolve, invoke, builtin, Sem.run_bind, Sem.run_pure, Result.andThen_ok, List.map_toArray, List.map_cons, List.map_nil, hd, hs, hr]
  exact h
end

/-- What Delete leaves. -/
def Deleted_live (base : Nat) (v : Value) (n i : Nat) (xs : List Value) (w : World) (e : Ending) (w' : World) : Prop :=
  ∃ v', e = .returned v' ∧ w'.ownsRow base 59 3 v' (n - 1) (xs.take (i * 3) ++ xs.drop ((i + 1) * 3)) ∧ w.grownBy w' v.ownBlock ∧ v'.ownBlock = v.ownBlock

set_option maxRecDepth 100000 in
set_option maxHeartbeats 4000000 in
theorem delete_one_live (base : Nat) (v : Value) (n i : Nat) (xs : List Value) (w : World) (hown : w.ownsRow base 59 3 v n xs) (hi : i < n) (h1x : ∀ u ∈ xs, u.oneCell' = true) :
    Calls Try.prog 60 #[v, .int .i64 i, .int .i64 ((i : Int) + 1)] w (Deleted_live base v n i xs w) := by
  obtain ⟨i0, hi0, hz0, hz1, hz2⟩ := info_parts infoD_live
  have hxl := hown.1
  rcases hown.2 with ⟨_, h0⟩ | ⟨g, cap, cur, rfl, hbg, hg, hnc, hcm, hcs, htk⟩
  · omega
  · have hc63 : cap ≤ 9223372036854775807 := by simp only [maxLen] at hcm; omega
    obtain ⟨cl, rfl⟩ : ∃ cl : List Value, cur = cl.toArray := ⟨cur.toList, by simp⟩
    simp only [List.size_toArray] at hcs
    simp only at htk
    have hg0 : w.drew.heap[g]? = some (.cells cl.toArray 59 (0, 0)) := hg
    have hcell : ∀ j u, xs[j]? = some u → w.drew.cell? ⟨g, j, none⟩ = some u := fun j u hj => by
      have hb : Blk w.drew g 59 cl.toArray := hg0
      rw [hb.cell]
      rw [← htk, List.getElem?_take] at hj
      split at hj
      · simpa using hj
      · cases hj
    obtain ⟨news, hnews⟩ : ∃ news, news = xs.drop ((i + 1) * 3) := ⟨_, rfl⟩
    have hnl : news.length = (n - (i + 1)) * i0.size := by rw [hnews, hz1, List.length_drop, hxl, Nat.sub_mul]
    have hnl2 : news.length = (n - (i + 1)) * 3 := by rw [hnl, hz1]
    have h1n : ∀ u ∈ news, u.oneCell' = true := fun u hu => h1x u (List.mem_of_mem_drop (by rw [hnews] at hu; exact hu))
    obtain ⟨A, hA⟩ : ∃ A : Addr, (if cap = i + 1 then (⟨g, 0, none⟩ : Addr) else ⟨g, (i + 1) * 3, none⟩) = A := ⟨_, rfl⟩
    have hsrc : ∀ j u, news[j]? = some u → w.drew.cell? (A.add j) = some u := fun j u hj => by
      by_cases hc : cap = i + 1
      · have : news.length = 0 := by rw [hnl2]; omega
        rw [List.eq_nil_of_length_eq_zero this] at hj
        simp at hj
      · rw [if_neg hc] at hA
        subst hA
        rw [Addr.add_lit]
        rw [hnews, List.getElem?_drop] at hj
        exact hcell _ _ hj
    obtain ⟨C1, hC1⟩ : ∃ C1 : List Value, C1 = cl.take (i * 3) ++ news ++ cl.drop (i * 3 + news.length) := ⟨_, rfl⟩
    have hap : ∀ ty c, (Builtin.append_ #[41, 41] ty #[.slice (some ⟨g, 0, none⟩) i cap, .slice (some A) (n - (i + 1)) c]).run Try.prog w.drew = .ok (.slice (some ⟨g, 0, none⟩) (i + (n - (i + 1))) cap) (w.drew.setRow g C1.toArray) := fun ty c => by
      have := run_append_room (P := Try.prog) w.drew 41 ty 59 i0 Try.underlying41 hi0 g i cap cl.toArray hg0 A (n - (i + 1)) c news hnl hsrc h1n (by omega) (by rw [hnl2, hz1, List.size_toArray, hcs]; omega)
      rw [hz1] at this
      rw [this, hC1]
    have hC1l : C1.length = cap * 3 := by rw [hC1]; simp only [List.length_append, List.length_take, List.length_drop]; omega
    have hg1 : Blk (w.drew.setRow g C1.toArray) g 59 C1.toArray := setRow_heap w.drew g cl.toArray _ 59 _ hg0
    have hzc : ∀ u ∈ (Builtin.zeroCells ((.agg #[.int .i64 0, .int .i64 0, .int .i64 0]) : Value).cells 1).toList, u.oneCell' = true := List.all_eq_true.1 (show (Builtin.zeroCells ((.agg #[.int .i64 0, .int .i64 0, .int .i64 0]) : Value).cells 1).toList.all (·.oneCell') = true by kernel_rfl)
    have hzl : (Builtin.zeroCells ((.agg #[.int .i64 0, .int .i64 0, .int .i64 0]) : Value).cells 1).toList.length = 3 := by rw [Array.length_toList, size_zeroCells]; rfl
    have hl : (xs.take (i * 3) ++ xs.drop ((i + 1) * 3)).length = (n - 1) * 3 := by rw [List.length_append, List.length_take, List.length_drop, hxl]; omega
    have fin : ∀ (W1 : World) (D : List Value), Blk W1 g 59 D.toArray → D.length = cap * 3 → D.take ((n - 1) * 3) = xs.take (i * 3) ++ xs.drop ((i + 1) * 3) → Kp [g] w W1 →
        ∃ W2, (∀ ty c, (Builtin.clear_ #[41] ty #[.slice (some ⟨g, (n - 1) * 3, none⟩) (n - (n - 1)) c]).run Try.prog W1 = .ok (.tuple #[]) W2) ∧ Deleted_live base (.slice (some ⟨g, 0, none⟩) n cap) n i xs w (.returned (.slice (some ⟨g, 0, none⟩) (n - 1) cap)) W2 := by
      intro W1 D hD hDl hDt hk
      refine ⟨W1.setRow g (splice D ((n - 1) * 3) (Builtin.zeroCells ((.agg #[.int .i64 0, .int .i64 0, .int .i64 0]) : Value).cells 1).toList).toArray, fun ty c => ?_, _, rfl, ⟨hl, .inr ⟨g, cap, _, rfl, hbg, setRow_heap W1 g D.toArray _ 59 _ hD, by omega, hcm, ?_, ?_⟩⟩, ?_, rfl⟩
      · rw [show n - (n - 1) = 1 by omega]
        exact run_clearN (P := Try.prog) W1 41 59 ty (.agg #[.int .i64 0, .int .i64 0, .int .i64 0]) i0 g ((n - 1) * 3) 1 c D 59 Try.underlying41 hi0 hz0 hD (by omega) (by rw [hDl]; simp [Value.cells]; omega) hzc
      · simp only [List.size_toArray, splice, List.length_append, List.length_take, List.length_drop, hzl, hDl]; omega
      · simp only [splice]
        rw [List.take_append_of_le_length (by rw [List.length_take, hDl]; omega), List.take_take, Nat.min_self, hDt]
      · have k2 := hk.setRow (g := g) (by simp) (splice D ((n - 1) * 3) (Builtin.zeroCells ((.agg #[.int .i64 0, .int .i64 0, .int .i64 0]) : Value).cells 1).toList).toArray
        exact ⟨k2.os, k2.tape, k2.output, k2.size, fun k hk hne => k2.block k hk (by simp; intro e; exact hne (by rw [e]; rfl))⟩
    have hC1t : C1.take ((n - 1) * 3) = xs.take (i * 3) ++ xs.drop ((i + 1) * 3) := by
      rw [hC1, List.append_assoc, ← List.append_assoc, List.take_append_of_le_length (by simp only [List.length_append, List.length_take]; omega)]
      rw [List.take_of_length_le (by simp only [List.length_append, List.length_take]; omega), hnews]
      congr 1
      rw [← htk, List.take_take]
      congr 1
      omega
    obtain ⟨W2, hcr, hfin⟩ := fin _ C1 hg1 hC1l hC1t (((Kp.refl _ _).drew).setRow (by simp) _)
    have HFIN := Sh.mk hfin
    have hcl0 : cap = i + 1 → ∃ W3, (∀ ty c, (Builtin.clear_ #[41] ty #[.slice (some ⟨g, (n - 1) * 3, none⟩) (n - (n - 1)) c]).run Try.prog w.drew = .ok (.tuple #[]) W3) ∧ Deleted_live base (.slice (some ⟨g, 0, none⟩) n cap) n i xs w (.returned (.slice (some ⟨g, 0, none⟩) (n - 1) cap)) W3 := fun hcc => by
      refine fin w.drew cl hg0 hcs ?_ ((Kp.refl _ _).drew)
      have e : xs.drop ((i + 1) * 3) = [] := List.drop_of_length_le (by rw [hxl]; omega)
      rw [e, List.append_nil, ← htk, List.take_take]
      congr 1
      omega
    clear hfin hzc hzl hl fin hg1 hC1l hC1t hC1 hsrc h1n hnl hnl2 hnews hcell hg0 htk hcs hg hbg hown h1x hxl
    have q1 : ¬ ((i : Int) = (i : Int) + 1) := by omega
    have q2 : (i : Int) + 1 ≤ (n : Int) := by omega
    have q3 : ((i : Int) + 1).toNat = i + 1 := by omega
    have q4 : (0 : Int) ≤ (i : Int) + 1 := by omega
    have q5 : i + (n - (i + 1)) = n - 1 := by omega
    have q6 : ¬ (cap = n - 1) := by omega
    have q7 : (i : Int) ≤ (i : Int) + 1 := by omega
    have q8 : (i : Int) ≤ (cap : Int) := by omega
    have q9 : (i : Int) + 1 ≤ (cap : Int) := by omega
    rw [q5] at hap
    by_cases hcc : cap = i + 1
    · obtain ⟨W3, hcr3, hfin3⟩ := hcl0 hcc
      have HFIN3 := Sh.mk hfin3
      obtain rfl : n = i + 1 := by omega
      subst hcc
      clear hap hcr hcl0 hA hfin3
      have q10 : i + 1 - (i + 1) = 0 := by omega
      have q11 : i + 1 - 1 = i := by omega
      have q12 : i + 1 - i = 1 := by omega
      simp only [q11, q12] at hcr3
      go_enter Try.func60, Try.ntmps60
      go_wp2_with fail
      go_region
      go_wp2_with (first | (at_builtin; refine wpList_clear_eq rfl _ 41 rfl _ rfl (hcr3 _ _) ?_))
      go_ret
      exact HFIN3.out
    · rw [if_neg hcc] at hA
      subst hA
      clear hcl0
      go_enter Try.func60, Try.ntmps60
      go_wp2_with fail
      go_region_law (refine step_append_eq_live rfl (.tmp 22) (.tmp 25) 41 41 rfl (.slice (some ⟨g, 0, none⟩) i cap) (.slice (some ⟨g, (i + 1) * 3, none⟩) (n - (i + 1)) (cap - (i + 1))) rfl rfl (hap _ _) ?_)
      go_wp2_with (first | (at_builtin; refine wpList_clear_eq rfl _ 41 rfl _ rfl (hcr _ _) ?_))
      go_ret
      exact HFIN.out
end Go.Proofs.Ytpddppipjlagfaa

/- Rows of api.Live as rows of cells. No statement is proved here. -/
namespace Go.Proofs.Ytpddppipjlagfaa
set_option linter.unusedVariables false
set_option linter.unusedSimpArgs false
open Go.RowKit Go.Proofs.YtpddppipjlagfaaW.PrintWords Go.Proofs.YtpddppipjlagfaaW.PrintLast Go.Proofs.YtpddppipjlagfaaW.PrintMore Pr

/-- The cells of a list. -/
def encs_live : List S59 → List Value
  | [] => []
  | x :: l => .int .i64 x.f0 :: .int .i64 x.f1 :: .int .i64 x.f2 :: encs_live l
theorem encs_len_live (l : List S59) : (encs_live l).length = l.length * 3 := by
  induction l with
  | nil => rfl
  | cons x l ih => simp only [encs_live, List.length_cons, ih]; omega
theorem encs_append_live (a b : List S59) : encs_live (a ++ b) = encs_live a ++ encs_live b := by
  induction a with
  | nil => rfl
  | cons x l ih => simp [encs_live, ih]
theorem encs_take_live (l : List S59) (i : Nat) : (encs_live l).take (i * 3) = encs_live (l.take i) := by
  induction l generalizing i with
  | nil => simp [encs_live]
  | cons x l ih =>
    cases i with
    | zero => simp [encs_live]
    | succ i =>
      rw [show (i + 1) * 3 = i * 3 + 1 + 1 + 1 by omega]
      simp [encs_live, ih]
theorem encs_drop_live (l : List S59) (i : Nat) : (encs_live l).drop (i * 3) = encs_live (l.drop i) := by
  induction l generalizing i with
  | nil => simp [encs_live]
  | cons x l ih =>
    cases i with
    | zero => simp [encs_live]
    | succ i =>
      rw [show (i + 1) * 3 = i * 3 + 1 + 1 + 1 by omega]
      simp [encs_live, ih]
theorem encs_one_live (l : List S59) : ∀ u ∈ encs_live l, u.oneCell' = true := by
  induction l with
  | nil => simp [encs_live]
  | cons x l ih =>
    intro u hu
    simp only [encs_live, List.mem_cons] at hu
    rcases hu with rfl | rfl | rfl | hu
    · rfl
    · rfl
    · rfl
    · exact ih u hu
theorem reps_encs_live (R : S59 → List Value → Prop) (hR : ∀ x cs, R x cs → cs = [.int .i64 x.f0, .int .i64 x.f1, .int .i64 x.f2]) : ∀ (l : List S59) (cs : List Value), Reps R 3 l cs → cs = encs_live l
  | [], cs, h => by
    have := h.1
    exact List.eq_nil_of_length_eq_zero (by simpa using this)
  | x :: l, cs, h => by
    have hl := h.1
    have h0 := hR x _ (h.2 0 x rfl)
    simp only [Nat.zero_mul, List.drop_zero] at h0
    have hrest := reps_encs_live R hR l (cs.drop 3) ⟨by rw [List.length_drop, hl]; simp only [List.length_cons]; omega, fun j p hj => by
      have := h.2 (j + 1) p (by simpa using hj)
      rw [show (j + 1) * 3 = 3 + j * 3 by omega, ← List.drop_drop] at this
      exact this⟩
    rw [← List.take_append_drop 3 cs, h0, hrest]
    rfl
theorem encs_reps_live (R : S59 → List Value → Prop) (hR : ∀ x, R x [.int .i64 x.f0, .int .i64 x.f1, .int .i64 x.f2]) (l : List S59) : Reps R 3 l (encs_live l) := by
  refine ⟨encs_len_live l, fun j p hj => ?_⟩
  have hj' := (List.getElem?_eq_some_iff.1 hj).1
  have e := (List.getElem?_eq_some_iff.1 hj).2
  rw [encs_drop_live, List.drop_eq_getElem_cons hj', e]
  exact hR p
theorem own_of_R_live {e : TypeId} {w : World} {base : Nat} {ok : Nat → Prop} {v : Value} {l : List S59} (h : Kd.R k59 e w base ok v l) : w.ownsRow base e 3 v l.length (encs_live l) := by
  obtain ⟨_, inner, ho, hr⟩ := h
  rw [reps_encs_live _ (fun x cs h => k59_openM h) l inner hr] at ho
  exact ho
theorem R_of_ownE_live {e : TypeId} {w : World} {base : Nat} {ok : Nat → Prop} {v : Value} {l : List S59} (h : w.ownsRow base e 3 v l.length (encs_live l)) (hok : ∀ k, v.ownBlock = some k → ok k) : Kd.R k59 e w base ok v l :=
  ⟨hok, encs_live l, h, encs_reps_live _ (fun x => k59_mkM _ _ _ x) l⟩
/-- An own row that is not empty: its block. -/
theorem R_block_live {e : TypeId} {w : World} {base : Nat} {ok : Nat → Prop} {v : Value} {l : List S59} (h : Kd.R k59 e w base ok v l) (hl : 0 < l.length) :
    ∃ g c cl, v = .slice (some ⟨g, 0, none⟩) l.length c ∧ base ≤ g ∧ ok g ∧ Blk w g e (List.toArray cl) ∧ l.length ≤ c ∧ cl.length = c * 3 ∧ cl.take (l.length * 3) = encs_live l := by
  have ho := own_of_R_live h
  rcases ho.2 with ⟨_, h0⟩ | ⟨g, cap, cur, rfl, hbg, hg, hnc, hcm, hcs, htk⟩
  · omega
  · exact ⟨g, cap, cur.toList, rfl, hbg, h.1 g rfl, by simpa [Blk] using hg, hnc, by simpa using hcs, htk⟩
theorem ownBlock_base_live {e : TypeId} {w : World} {base : Nat} {ok : Nat → Prop} {v : Value} {l : List S59} (h : Kd.R k59 e w base ok v l) : ∀ k, v.ownBlock = some k → base ≤ k := by
  intro k hk
  rcases (own_of_R_live h).2 with ⟨rfl, _⟩ | ⟨g, cap, cur, rfl, hbg, hg, hnc, hcm, hcs, htk⟩
  · cases hk
  · cases hk; exact hbg

/-- Insert of one element at i. -/
theorem insert_R_live (base : Nat) (ok : Nat → Prop) (v : Value) (l : List S59) (i : Nat) (p : S59) (gx cx : Nat) (zs : List Value) (w : World) (h : Kd.R k59 59 w base ok v l) (hx : Blk w gx 59 (([.int .i64 p.f0, .int .i64 p.f1, .int .i64 p.f2] : List Value) ++ zs).toArray) (hne : v.ownBlock ≠ some gx)
    (hi : i ≤ l.length) (hn : (l.length + 1) * 24 ≤ 140737488355328) (hbase : base ≤ w.heap.size) (hnew : ∀ b, w.heap.size ≤ b → ok b) :
    Calls Try.prog 59 #[v, .int .i64 i, .slice (some ⟨gx, 0, none⟩) 1 cx] w fun e w' =>
      ∃ v', e = .returned v' ∧ Kd.R k59 59 w' base ok v' (l.take i ++ [p] ++ l.drop i) ∧ w.grownBy w' v.ownBlock ∧ (v'.ownBlock = v.ownBlock ∨ ∃ b, v'.ownBlock = some b ∧ w.heap.size ≤ b) := by
  have ho := own_of_R_live h
  have hx' : Blk w gx 59 (encs_live [p] ++ zs).toArray := hx
  have key : Calls Try.prog 59 #[v, .int .i64 i, .slice (some ⟨gx, 0, none⟩) 1 cx] w (Inserted_live base v l.length i (encs_live l) (encs_live [p]) w) := by
    by_cases hlt : i < l.length
    · obtain ⟨A, c, rfl⟩ := Kd.R_slice h
      rcases ho.2 with ⟨_, h0⟩ | ⟨g, cap, cur, hv, _, _, hnc, _⟩
      · omega
      · simp only [Value.slice.injEq] at hv
        obtain ⟨rfl, _, rfl⟩ := hv
        by_cases hroom : l.length + 1 ≤ c
        · exact insert_room_live base g c l.length i (encs_live l) (encs_live [p]) zs gx cx w ho hx' rfl (fun e => hne (by rw [e]; rfl)) (encs_one_live l) (encs_one_live [p]) hlt hroom
        · exact insert_grow_live base g c l.length i (encs_live l) (encs_live [p]) zs gx cx w ho hx' rfl (encs_one_live l) (encs_one_live [p]) hlt (by omega) hn hbase
    · obtain rfl : i = l.length := by omega
      exact insert_end_live base v l.length (encs_live l) (encs_live [p]) zs gx cx w ho hx' rfl (encs_one_live [p]) hn hbase
  refine key.mono ?_
  rintro e w' ⟨v', rfl, h1, h2, h3⟩
  refine ⟨v', rfl, R_of_ownE_live ?_ ?_, h2, h3⟩
  · rw [encs_take_live, encs_drop_live, ← encs_append_live, ← encs_append_live] at h1
    have hl : (l.take i ++ [p] ++ l.drop i).length = l.length + 1 := by simp; omega
    rw [hl]; exact h1
  · intro k hk
    rcases h3 with h4 | ⟨b, h4, h5⟩
    · exact h.1 k (by rw [← h4]; exact hk)
    · rw [hk] at h4
      cases h4
      exact hnew k h5
/-- Insert, as the print's walks ask it: both rows are handed over. -/
def ins_live (l : List S59) (i : Int) (m : List S59) : Option (List S59) := if m.length = 1 ∧ 0 ≤ i ∧ i ≤ l.length ∧ (l.length + 1) * 24 ≤ 140737488355328 then some (l.take i.toNat ++ m ++ l.drop i.toNat) else none
theorem insertOwn_live (P0 : Nat → Prop) (u0 : Value) (l0 : List S59) (a1 : Int) (P2 : Nat → Prop) (u2 : Value) (l2 r : List S59) (w0 w : World) (hB : Below w0.heap.size w0 w) (h0 : Kd.R k59 59 w w0.heap.size P0 u0 l0) (h02 : ∀ k_, P0 k_ → ¬ P2 k_) (h2 : Kd.R k59 59 w w0.heap.size P2 u2 l2) (h : ins_live l0 a1 l2 = some r) :
    Calls Try.prog 59 #[u0, .int .i64 a1, u2] w fun e w' => ∃ v0_ : Value, e = .returned (v0_) ∧ Kd.R k59 59 w' w0.heap.size (fun k_ => ((P0 k_ ∨ P2 k_) ∨ w.heap.size ≤ k_)) v0_ r ∧ Below w0.heap.size w0 w' ∧ Kept w w' (fun k_ => P0 k_ ∨ P2 k_) := by
  unfold ins_live at h
  split at h
  next hc =>
    obtain ⟨h1, ha, hb, hn⟩ := hc
    obtain rfl := Option.some.inj h
    obtain ⟨p, rfl⟩ : ∃ p, l2 = [p] := by
      rcases l2 with _ | ⟨p, _ | _⟩
      · cases h1
      · exact ⟨p, rfl⟩
      · simp at h1
    obtain ⟨i, rfl⟩ := Int.eq_ofNat_of_zero_le ha
    obtain ⟨g, c, cl, rfl, hbg, hP, hg, hc1, hcl, htk⟩ := R_block_live h2 (by simp)
    have hcl2 : cl = ([.int .i64 p.f0, .int .i64 p.f1, .int .i64 p.f2] : List Value) ++ cl.drop 3 := by
      have e1 : cl.take 3 = [.int .i64 p.f0, .int .i64 p.f1, .int .i64 p.f2] := by simpa [encs_live] using htk
      rw [← e1, List.take_append_drop]
    rw [hcl2] at hg
    have hbs := ownBlock_base_live h0
    refine (insert_R_live w0.heap.size (fun k_ => ((P0 k_ ∨ P2 k_) ∨ w.heap.size ≤ k_)) u0 l0 i p g c (cl.drop 3) w (Kd.R_mono h0 (fun _ hk => .inl (.inl hk))) hg (fun he => h02 g (h0.1 g he) hP) (by omega) hn hB.size (fun _ hk => .inr hk)).mono ?_
    rintro e w' ⟨v', rfl, hr, hgr, _⟩
    refine ⟨v', rfl, ?_, hB.grown hgr hB.size hbs, Kept.of_grown hgr (Kept.refl _ _) (fun k hk => .inl (.inl (h0.1 k hk)))⟩
    rw [Int.toNat_natCast]
    exact hr
  next => cases h

/-- Delete of the element at i. -/
theorem delete_R_live (base : Nat) (ok : Nat → Prop) (v : Value) (l : List S59) (i : Nat) (w : World) (h : Kd.R k59 59 w base ok v l) (hi : i < l.length) :
    Calls Try.prog 60 #[v, .int .i64 i, .int .i64 ((i : Int) + 1)] w fun e w' =>
      ∃ v', e = .returned v' ∧ Kd.R k59 59 w' base ok v' (l.take i ++ l.drop (i + 1)) ∧ w.grownBy w' v.ownBlock ∧ v'.ownBlock = v.ownBlock := by
  refine (delete_one_live base v l.length i (encs_live l) w (own_of_R_live h) hi (encs_one_live l)).mono ?_
  rintro e w' ⟨v', rfl, h1, h2, h3⟩
  refine ⟨v', rfl, R_of_ownE_live ?_ (fun k hk => h.1 k (by rw [← h3]; exact hk)), h2, h3⟩
  rw [encs_take_live, encs_drop_live, ← encs_append_live] at h1
  have hl : (l.take i ++ l.drop (i + 1)).length = l.length - 1 := by simp; omega
  rw [hl]; exact h1
/-- Delete, as the print's walks ask it: the row is handed over. -/
def del_live (l : List S59) (i j : Int) : Option (List S59) := if 0 ≤ i ∧ i < l.length ∧ j = i + 1 then some (l.take i.toNat ++ l.drop (i.toNat + 1)) else none
theorem deleteOwn_live (P0 : Nat → Prop) (u0 : Value) (l0 : List S59) (a1 a2 : Int) (r : List S59) (w0 w : World) (hB : Below w0.heap.size w0 w) (h0 : Kd.R k59 59 w w0.heap.size P0 u0 l0) (h : del_live l0 a1 a2 = some r) :
    Calls Try.prog 60 #[u0, .int .i64 a1, .int .i64 a2] w fun e w' => ∃ v0_ : Value, e = .returned (v0_) ∧ Kd.R k59 59 w' w0.heap.size (fun k_ => (P0 k_ ∨ w.heap.size ≤ k_)) v0_ r ∧ Below w0.heap.size w0 w' ∧ Kept w w' (fun k_ => P0 k_) := by
  unfold del_live at h
  split at h
  next hc =>
    obtain ⟨ha, hb, rfl⟩ := hc
    obtain rfl := Option.some.inj h
    obtain ⟨i, rfl⟩ := Int.eq_ofNat_of_zero_le ha
    have hbs := ownBlock_base_live h0
    refine (delete_R_live w0.heap.size (fun k_ => (P0 k_ ∨ w.heap.size ≤ k_)) u0 l0 i w (Kd.R_mono h0 (fun _ hk => .inl hk)) (by omega)).mono ?_
    rintro e w' ⟨v', rfl, hr, hgr, _⟩
    refine ⟨v', rfl, ?_, hB.grown hgr hB.size hbs, Kept.of_grown hgr (Kept.refl _ _) (fun k hk => .inl (h0.1 k hk))⟩
    rw [Int.toNat_natCast]
    exact hr
  next => cases h
end Go.Proofs.Ytpddppipjlagfaa
