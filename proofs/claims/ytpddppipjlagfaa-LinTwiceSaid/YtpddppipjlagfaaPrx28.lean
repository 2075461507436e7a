-- Printed by a program of this session (wip/tools/myprint.py) that runs the kit's print with contracts of this session's own.
import Derived.Test.YtpddppipjlagfaaPrx0
namespace Go.Proofs.Ytpddppipjlagfaa.Pr
open Go.RowKit Go.Proofs.YtpddppipjlagfaaW.PrintWords Go.Proofs.YtpddppipjlagfaaW.PrintLast Go.Proofs.YtpddppipjlagfaaW.PrintMore
attribute [local go_sem] max2_int min2_int max_two min_two max_three min_three max_four min_four   -- for this text's walks alone
set_option linter.unusedVariables false
set_option linter.unusedSimpArgs false

/-! ### rickyardref26_MayOps: function 22 -/
def rickyardref26_MayOps.l0 : Nat → List (S40) → Int → Option (Bool)
 | 0, _, _ => none
 | k + 1, x0, x3 => if x3 < (x0.length : Int) then (if 0 ≤ x3 then (if ((rd_T40 x0 x3).f1) < 0 then (some false) else (if ((rd_T40 x0 x3).f1) > 2147483648 then (some false) else (if ((rd_T40 x0 x3).f2) = (-1) then (if ((rd_T40 x0 x3).f2) > 2147483648 then (some false) else (rickyardref26_MayOps.l0 k x0 (wrap64 (x3 + 1)))) else (if ((rd_T40 x0 x3).f2) < ((rd_T40 x0 x3).f1) then (some false) else (if ((rd_T40 x0 x3).f2) > 2147483648 then (some false) else (rickyardref26_MayOps.l0 k x0 (wrap64 (x3 + 1)))))))) else (none)) else (some true)
def rickyardref26_MayOps.f (k : Nat) (l0 : List (S40)) : Option (Bool) := rickyardref26_MayOps.l0 k l0 0
theorem rickyardref26_MayOps.mono_l : ∀ k, (∀ y0 y1, LeO (rickyardref26_MayOps.l0 k y0 y1) (rickyardref26_MayOps.l0 (k + 1) y0 y1))
 | 0 => fun _ _ r h => by simp [rickyardref26_MayOps.l0] at h
 | k + 1 => by
  have ih0 := rickyardref26_MayOps.mono_l k
  ·intro y0 y1
   unfold rickyardref26_MayOps.l0
   repeat' first
   | (with_reducible exact ih0 _ _)
   | (with_reducible exact LeO.refl _)
   | (with_reducible exact LeO.none _)
   | (with_reducible refine LeO.ite ?_ ?_)
   | (with_reducible refine LeO.bind ?_ (fun _ => ?_))
   | exact ih0 _ _
   | exact LeO.none _
   | refine LeO.ite ?_ ?_
   | refine LeO.bind ?_ (fun _ => ?_)
theorem rickyardref26_MayOps.mono : ∀ a0 k, LeO (rickyardref26_MayOps.f k a0) (rickyardref26_MayOps.f (k + 1) a0) := by
 intro a0 k
 have ih0 := rickyardref26_MayOps.mono_l k
 unfold rickyardref26_MayOps.f
 repeat' first
   | (with_reducible exact ih0 _ _)
   | (with_reducible exact LeO.refl _)
   | (with_reducible exact LeO.none _)
   | (with_reducible refine LeO.ite ?_ ?_)
   | (with_reducible refine LeO.bind ?_ (fun _ => ?_))
   | exact ih0 _ _
   | exact LeO.none _
   | refine LeO.ite ?_ ?_
   | refine LeO.bind ?_ (fun _ => ?_)
set_option maxHeartbeats 8000000 in
set_option maxRecDepth 100000 in
theorem rickyardref26_MayOps.calls (k : Nat) (A0 : Option Addr) (c0 : Nat) (l0 : List (S40)) (r : Bool) (w : World) (hr0 : Kd.C k40 w A0 l0.length l0) (hc0 : l0.length ≤ c0) (h : rickyardref26_MayOps.f k l0 = some r) :
  Calls Try.prog 22 #[.slice A0 l0.length c0] w fun e w' => e = .returned (.bool r) ∧ Below w.heap.size w w' := by
 have hu40 := Try.underlying40
 have HR0 := Aside0.mk hr0
 have HC0 := Aside0.mk hc0
 clear hr0 hc0
 have HB := Aside0.mk (Below.refl w.heap.size w)
 have H : (rickyardref26_MayOps.l0 k l0 0) = some r := h
 clear h
 have H' := Aside0.mk H
 clear H
 go_enter Try.func22, Try.ntmps22
 go_wp2
 go_loopg [3] k (fun kq v3 w' => ∃ (x3_1 : Int), v3 = .int .i64 x3_1 ∧ Aside0 (rickyardref26_MayOps.l0 kq l0 x3_1 = some r) ∧ Aside0 (kq ≤ k) ∧ Aside0 (Below w.heap.size w w'))
 case atStart => exact ⟨(0), (by first | rfl | (simp; done) | (simp [*]; done)), H', ⟨Nat.le_refl _⟩, ⟨by repeat (first | (with_reducible first | exact HB.out | apply below_alloc | apply pw_below_drewN | apply below_drew1) | exact HB.out)⟩⟩
 case round =>
  clear H'
  obtain ⟨x3_1, rfl, HA, HK1, HB⟩ := hrel
  cases gk with
  | zero => exact absurd HA.out (by simp [rickyardref26_MayOps.l0])
  | succ k1 =>
   have H := HA.out
   clear HA
   simp only [rickyardref26_MayOps.l0] at H
   by_cases c2 : x3_1 < (l0.length : Int)
   ·rw [if_pos c2] at H
    have c2b0 : decide (x3_1 < (l0.length : Int)) = true := decide_eq_true c2
    clear c2
    by_cases c3 : 0 ≤ x3_1
    ·rw [if_pos c3] at H
     have c3b0 : decide (0 ≤ x3_1) = true := decide_eq_true c3
     clear c3
     by_cases c4 : ((rd_T40 l0 x3_1).f1) < 0
     ·rw [if_pos c4] at H
      have c4b0 : decide (((rd_T40 l0 x3_1).f1) < 0) = true := decide_eq_true c4
      clear c4
      obtain rfl := Option.some.inj H
      have p266 : 0 ≤ (x3_1 : Int) := of_decide_eq_true (by first | (with_reducible assumption) | assumption)
      have q266 : x3_1 < (l0.length : Int) := of_decide_eq_true (by first | (with_reducible assumption) | assumption)
      obtain ⟨ad266, e266, hx266_0, hx266_1, hx266_2, hx266_3, hx266_4, hx266_5⟩ := at_T40 HR0.out x3_1 p266 q266
      cases e266
      replace hx266_0 := (HB.out.cell (World.block_lt_of_cell? w _ hx266_0)).trans hx266_0
      replace hx266_1 := (HB.out.cell (World.block_lt_of_cell? w _ hx266_1)).trans hx266_1
      replace hx266_2 := (HB.out.cell (World.block_lt_of_cell? w _ hx266_2)).trans hx266_2
      replace hx266_3 := (HB.out.cell (World.block_lt_of_cell? w _ hx266_3)).trans hx266_3
      replace hx266_4 := (HB.out.cell (World.block_lt_of_cell? w _ hx266_4)).trans hx266_4
      replace hx266_5 := (HB.out.cell (World.block_lt_of_cell? w _ hx266_5)).trans hx266_5
      replace p266 := eq_true p266
      replace q266 := eq_true q266
      go_wp2_with (first | ((with_reducible refine gate_dst (N := 4) rfl ?_); refine box_event ?hg (N := 4) ?hd (cs := #[.int .i64 0, .int .i64 0, .int .i64 0, .int .i64 0, .int .i64 0, .int .i64 0]) (t := 40) ?hr ?_; (case hd => rfl); (case hg => rfl); (case hr => first | (go_simp; done) | (go_simp; rfl)); intro gb267 hg w5 hbox hb; have n0_ := Aside0.mk (below_step (by repeat (first | (with_reducible first | exact HB.out | apply below_alloc | apply pw_below_drewN | apply below_drew1) | exact HB.out)) hb); have n1_ := Aside0.mk (hbox); have n2_ := Aside0.mk ((by rw [hg]; exact (below_size (by repeat (first | (with_reducible first | exact HB.out | apply below_alloc | apply pw_below_drewN | apply below_drew1) | exact HB.out))) : w.heap.size ≤ gb267)); have n3_ := Aside0.mk ((by rw [hg]; exact (below_size (by repeat (first | (with_reducible first | exact HB.out | apply below_alloc | apply pw_below_drewN | apply below_drew1) | exact HB.out))) : w.heap.size ≤ gb267)); clear HB; have HB := n0_; have BK267 := n1_; have GW267 := n2_; have GE267 := n3_; clear n0_ n1_ n2_ n3_; clear hb hbox hg; have hcz6_0 : w5.cell? ⟨gb267, 0, none⟩ = some (.int .i64 0) := (blk_cell BK267.out 0).trans rfl; have hcz6_1 : w5.cell? ⟨gb267, 1, none⟩ = some (.int .i64 0) := (blk_cell BK267.out 1).trans rfl; have hcz6_2 : w5.cell? ⟨gb267, 2, none⟩ = some (.int .i64 0) := (blk_cell BK267.out 2).trans rfl; have hcz6_3 : w5.cell? ⟨gb267, 3, none⟩ = some (.int .i64 0) := (blk_cell BK267.out 3).trans rfl; have hcz6_4 : w5.cell? ⟨gb267, 4, none⟩ = some (.int .i64 0) := (blk_cell BK267.out 4).trans rfl; have hcz6_5 : w5.cell? ⟨gb267, 5, none⟩ = some (.int .i64 0) := (blk_cell BK267.out 5).trans rfl; have hfz6_0 := blk_frozen BK267.out 0; have hfz6_1 := blk_frozen BK267.out 1; have hfz6_2 := blk_frozen BK267.out 2; have hfz6_3 := blk_frozen BK267.out 3; have hfz6_4 := blk_frozen BK267.out 4; have hfz6_5 := blk_frozen BK267.out 5))
      go_ret
      exact ⟨by first | rfl | (simp [errW_none, errW_some] <;> rfl) | (simp [*, errW_none, errW_some] <;> rfl), by repeat (first | (with_reducible first | exact HB.out | apply below_alloc | apply pw_below_drewN | apply below_drew1 | refine below_set ?_ GE267.out) | exact HB.out)⟩
     ·rw [if_neg c4] at H
      have c4b0 : decide (((rd_T40 l0 x3_1).f1) < 0) = false := decide_eq_false c4
      clear c4
      by_cases c7 : ((rd_T40 l0 x3_1).f1) > 2147483648
      ·rw [if_pos c7] at H
       have c7b0 : decide (2147483648 < ((rd_T40 l0 x3_1).f1)) = true := decide_eq_true c7
       clear c7
       obtain rfl := Option.some.inj H
       have p266 : 0 ≤ (x3_1 : Int) := of_decide_eq_true (by first | (with_reducible assumption) | assumption)
       have q266 : x3_1 < (l0.length : Int) := of_decide_eq_true (by first | (with_reducible assumption) | assumption)
       obtain ⟨ad266, e266, hx266_0, hx266_1, hx266_2, hx266_3, hx266_4, hx266_5⟩ := at_T40 HR0.out x3_1 p266 q266
       cases e266
       replace hx266_0 := (HB.out.cell (World.block_lt_of_cell? w _ hx266_0)).trans hx266_0
       replace hx266_1 := (HB.out.cell (World.block_lt_of_cell? w _ hx266_1)).trans hx266_1
       replace hx266_2 := (HB.out.cell (World.block_lt_of_cell? w _ hx266_2)).trans hx266_2
       replace hx266_3 := (HB.out.cell (World.block_lt_of_cell? w _ hx266_3)).trans hx266_3
       replace hx266_4 := (HB.out.cell (World.block_lt_of_cell? w _ hx266_4)).trans hx266_4
       replace hx266_5 := (HB.out.cell (World.block_lt_of_cell? w _ hx266_5)).trans hx266_5
       replace p266 := eq_true p266
       replace q266 := eq_true q266
       go_wp2_with (first | ((with_reducible refine gate_dst (N := 4) rfl ?_); refine box_event ?hg (N := 4) ?hd (cs := #[.int .i64 0, .int .i64 0, .int .i64 0, .int .i64 0, .int .i64 0, .int .i64 0]) (t := 40) ?hr ?_; (case hd => rfl); (case hg => rfl); (case hr => first | (go_simp; done) | (go_simp; rfl)); intro gb267 hg w8 hbox hb; have n0_ := Aside0.mk (below_step (by repeat (first | (with_reducible first | exact HB.out | apply below_alloc | apply pw_below_drewN | apply below_drew1) | exact HB.out)) hb); have n1_ := Aside0.mk (hbox); have n2_ := Aside0.mk ((by rw [hg]; exact (below_size (by repeat (first | (with_reducible first | exact HB.out | apply below_alloc | apply pw_below_drewN | apply below_drew1) | exact HB.out))) : w.heap.size ≤ gb267)); have n3_ := Aside0.mk ((by rw [hg]; exact (below_size (by repeat (first | (with_reducible first | exact HB.out | apply below_alloc | apply pw_below_drewN | apply below_drew1) | exact HB.out))) : w.heap.size ≤ gb267)); clear HB; have HB := n0_; have BK267 := n1_; have GW267 := n2_; have GE267 := n3_; clear n0_ n1_ n2_ n3_; clear hb hbox hg; have hcz9_0 : w8.cell? ⟨gb267, 0, none⟩ = some (.int .i64 0) := (blk_cell BK267.out 0).trans rfl; have hcz9_1 : w8.cell? ⟨gb267, 1, none⟩ = some (.int .i64 0) := (blk_cell BK267.out 1).trans rfl; have hcz9_2 : w8.cell? ⟨gb267, 2, none⟩ = some (.int .i64 0) := (blk_cell BK267.out 2).trans rfl; have hcz9_3 : w8.cell? ⟨gb267, 3, none⟩ = some (.int .i64 0) := (blk_cell BK267.out 3).trans rfl; have hcz9_4 : w8.cell? ⟨gb267, 4, none⟩ = some (.int .i64 0) := (blk_cell BK267.out 4).trans rfl; have hcz9_5 : w8.cell? ⟨gb267, 5, none⟩ = some (.int .i64 0) := (blk_cell BK267.out 5).trans rfl; have hfz9_0 := blk_frozen BK267.out 0; have hfz9_1 := blk_frozen BK267.out 1; have hfz9_2 := blk_frozen BK267.out 2; have hfz9_3 := blk_frozen BK267.out 3; have hfz9_4 := blk_frozen BK267.out 4; have hfz9_5 := blk_frozen BK267.out 5))
       go_ret
       exact ⟨by first | rfl | (simp [errW_none, errW_some] <;> rfl) | (simp [*, errW_none, errW_some] <;> rfl), by repeat (first | (with_reducible first | exact HB.out | apply below_alloc | apply pw_below_drewN | apply below_drew1 | refine below_set ?_ GE267.out) | exact HB.out)⟩
      ·rw [if_neg c7] at H
       have c7b0 : decide (2147483648 < ((rd_T40 l0 x3_1).f1)) = false := decide_eq_false c7
       clear c7
       by_cases c10 : ((rd_T40 l0 x3_1).f2) = (-1)
       ·rw [if_pos c10] at H
        have c10b0 : (((rd_T40 l0 x3_1).f2) == (-1)) = true := beq_iff_eq.mpr c10
        have c10b1 : (((rd_T40 l0 x3_1).f2) != (-1)) = false := bne_eq_false_iff_eq.mpr c10
        clear c10
        by_cases c11 : ((rd_T40 l0 x3_1).f2) > 2147483648
        ·rw [if_pos c11] at H
         have c11b0 : decide (2147483648 < ((rd_T40 l0 x3_1).f2)) = true := decide_eq_true c11
         clear c11
         obtain rfl := Option.some.inj H
         have p266 : 0 ≤ (x3_1 : Int) := of_decide_eq_true (by first | (with_reducible assumption) | assumption)
         have q266 : x3_1 < (l0.length : Int) := of_decide_eq_true (by first | (with_reducible assumption) | assumption)
         obtain ⟨ad266, e266, hx266_0, hx266_1, hx266_2, hx266_3, hx266_4, hx266_5⟩ := at_T40 HR0.out x3_1 p266 q266
         cases e266
         replace hx266_0 := (HB.out.cell (World.block_lt_of_cell? w _ hx266_0)).trans hx266_0
         replace hx266_1 := (HB.out.cell (World.block_lt_of_cell? w _ hx266_1)).trans hx266_1
         replace hx266_2 := (HB.out.cell (World.block_lt_of_cell? w _ hx266_2)).trans hx266_2
         replace hx266_3 := (HB.out.cell (World.block_lt_of_cell? w _ hx266_3)).trans hx266_3
         replace hx266_4 := (HB.out.cell (World.block_lt_of_cell? w _ hx266_4)).trans hx266_4
         replace hx266_5 := (HB.out.cell (World.block_lt_of_cell? w _ hx266_5)).trans hx266_5
         replace p266 := eq_true p266
         replace q266 := eq_true q266
         go_wp2_with (first | ((with_reducible refine gate_dst (N := 4) rfl ?_); refine box_event ?hg (N := 4) ?hd (cs := #[.int .i64 0, .int .i64 0, .int .i64 0, .int .i64 0, .int .i64 0, .int .i64 0]) (t := 40) ?hr ?_; (case hd => rfl); (case hg => rfl); (case hr => first | (go_simp; done) | (go_simp; rfl)); intro gb267 hg w12 hbox hb; have n0_ := Aside0.mk (below_step (by repeat (first | (with_reducible first | exact HB.out | apply below_alloc | apply pw_below_drewN | apply below_drew1) | exact HB.out)) hb); have n1_ := Aside0.mk (hbox); have n2_ := Aside0.mk ((by rw [hg]; exact (below_size (by repeat (first | (with_reducible first | exact HB.out | apply below_alloc | apply pw_below_drewN | apply below_drew1) | exact HB.out))) : w.heap.size ≤ gb267)); have n3_ := Aside0.mk ((by rw [hg]; exact (below_size (by repeat (first | (with_reducible first | exact HB.out | apply below_alloc | apply pw_below_drewN | apply below_drew1) | exact HB.out))) : w.heap.size ≤ gb267)); clear HB; have HB := n0_; have BK267 := n1_; have GW267 := n2_; have GE267 := n3_; clear n0_ n1_ n2_ n3_; clear hb hbox hg; have hcz13_0 : w12.cell? ⟨gb267, 0, none⟩ = some (.int .i64 0) := (blk_cell BK267.out 0).trans rfl; have hcz13_1 : w12.cell? ⟨gb267, 1, none⟩ = some (.int .i64 0) := (blk_cell BK267.out 1).trans rfl; have hcz13_2 : w12.cell? ⟨gb267, 2, none⟩ = some (.int .i64 0) := (blk_cell BK267.out 2).trans rfl; have hcz13_3 : w12.cell? ⟨gb267, 3, none⟩ = some (.int .i64 0) := (blk_cell BK267.out 3).trans rfl; have hcz13_4 : w12.cell? ⟨gb267, 4, none⟩ = some (.int .i64 0) := (blk_cell BK267.out 4).trans rfl; have hcz13_5 : w12.cell? ⟨gb267, 5, none⟩ = some (.int .i64 0) := (blk_cell BK267.out 5).trans rfl; have hfz13_0 := blk_frozen BK267.out 0; have hfz13_1 := blk_frozen BK267.out 1; have hfz13_2 := blk_frozen BK267.out 2; have hfz13_3 := blk_frozen BK267.out 3; have hfz13_4 := blk_frozen BK267.out 4; have hfz13_5 := blk_frozen BK267.out 5))
         go_ret
         exact ⟨by first | rfl | (simp [errW_none, errW_some] <;> rfl) | (simp [*, errW_none, errW_some] <;> rfl), by repeat (first | (with_reducible first | exact HB.out | apply below_alloc | apply pw_below_drewN | apply below_drew1 | refine below_set ?_ GE267.out) | exact HB.out)⟩
        ·rw [if_neg c11] at H
         have c11b0 : decide (2147483648 < ((rd_T40 l0 x3_1).f2)) = false := decide_eq_false c11
         clear c11
         have H' := Aside0.mk H
         clear H
         have p266 : 0 ≤ (x3_1 : Int) := of_decide_eq_true (by first | (with_reducible assumption) | assumption)
         have q266 : x3_1 < (l0.length : Int) := of_decide_eq_true (by first | (with_reducible assumption) | assumption)
         obtain ⟨ad266, e266, hx266_0, hx266_1, hx266_2, hx266_3, hx266_4, hx266_5⟩ := at_T40 HR0.out x3_1 p266 q266
         cases e266
         replace hx266_0 := (HB.out.cell (World.block_lt_of_cell? w _ hx266_0)).trans hx266_0
         replace hx266_1 := (HB.out.cell (World.block_lt_of_cell? w _ hx266_1)).trans hx266_1
         replace hx266_2 := (HB.out.cell (World.block_lt_of_cell? w _ hx266_2)).trans hx266_2
         replace hx266_3 := (HB.out.cell (World.block_lt_of_cell? w _ hx266_3)).trans hx266_3
         replace hx266_4 := (HB.out.cell (World.block_lt_of_cell? w _ hx266_4)).trans hx266_4
         replace hx266_5 := (HB.out.cell (World.block_lt_of_cell? w _ hx266_5)).trans hx266_5
         replace p266 := eq_true p266
         replace q266 := eq_true q266
         go_wp2_with (first | ((with_reducible refine gate_dst (N := 4) rfl ?_); refine box_event ?hg (N := 4) ?hd (cs := #[.int .i64 0, .int .i64 0, .int .i64 0, .int .i64 0, .int .i64 0, .int .i64 0]) (t := 40) ?hr ?_; (case hd => rfl); (case hg => rfl); (case hr => first | (go_simp; done) | (go_simp; rfl)); intro gb267 hg w14 hbox hb; have n0_ := Aside0.mk (below_step (by repeat (first | (with_reducible first | exact HB.out | apply below_alloc | apply pw_below_drewN | apply below_drew1) | exact HB.out)) hb); have n1_ := Aside0.mk (hbox); have n2_ := Aside0.mk ((by rw [hg]; exact (below_size (by repeat (first | (with_reducible first | exact HB.out | apply below_alloc | apply pw_below_drewN | apply below_drew1) | exact HB.out))) : w.heap.size ≤ gb267)); have n3_ := Aside0.mk ((by rw [hg]; exact (below_size (by repeat (first | (with_reducible first | exact HB.out | apply below_alloc | apply pw_below_drewN | apply below_drew1) | exact HB.out))) : w.heap.size ≤ gb267)); clear HB; have HB := n0_; have BK267 := n1_; have GW267 := n2_; have GE267 := n3_; clear n0_ n1_ n2_ n3_; clear hb hbox hg; have hcz15_0 : w14.cell? ⟨gb267, 0, none⟩ = some (.int .i64 0) := (blk_cell BK267.out 0).trans rfl; have hcz15_1 : w14.cell? ⟨gb267, 1, none⟩ = some (.int .i64 0) := (blk_cell BK267.out 1).trans rfl; have hcz15_2 : w14.cell? ⟨gb267, 2, none⟩ = some (.int .i64 0) := (blk_cell BK267.out 2).trans rfl; have hcz15_3 : w14.cell? ⟨gb267, 3, none⟩ = some (.int .i64 0) := (blk_cell BK267.out 3).trans rfl; have hcz15_4 : w14.cell? ⟨gb267, 4, none⟩ = some (.int .i64 0) := (blk_cell BK267.out 4).trans rfl; have hcz15_5 : w14.cell? ⟨gb267, 5, none⟩ = some (.int .i64 0) := (blk_cell BK267.out 5).trans rfl; have hfz15_0 := blk_frozen BK267.out 0; have hfz15_1 := blk_frozen BK267.out 1; have hfz15_2 := blk_frozen BK267.out 2; have hfz15_3 := blk_frozen BK267.out 3; have hfz15_4 := blk_frozen BK267.out 4; have hfz15_5 := blk_frozen BK267.out 5))
         go_roundg k1
         case measure => have := HK1.out; omega
         case rel => exact ⟨(wrap64 (x3_1 + 1)), (by first | rfl | (simp; done) | (simp [*]; done)), H', ⟨by have := HK1.out; omega⟩, ⟨by repeat (first | (with_reducible first | exact HB.out | apply below_alloc | apply pw_below_drewN | apply below_drew1 | refine below_set ?_ GE267.out) | exact HB.out)⟩⟩
       ·rw [if_neg c10] at H
        have c10b0 : (((rd_T40 l0 x3_1).f2) == (-1)) = false := beq_eq_false_iff_ne.mpr c10
        have c10b1 : (((rd_T40 l0 x3_1).f2) != (-1)) = true := bne_iff_ne.mpr c10
        by_cases c16 : ((rd_T40 l0 x3_1).f2) < ((rd_T40 l0 x3_1).f1)
        ·rw [if_pos c16] at H
         have c16b0 : decide (((rd_T40 l0 x3_1).f2) < ((rd_T40 l0 x3_1).f1)) = true := decide_eq_true c16
         clear c16
         obtain rfl := Option.some.inj H
         have p266 : 0 ≤ (x3_1 : Int) := of_decide_eq_true (by first | (with_reducible assumption) | assumption)
         have q266 : x3_1 < (l0.length : Int) := of_decide_eq_true (by first | (with_reducible assumption) | assumption)
         obtain ⟨ad266, e266, hx266_0, hx266_1, hx266_2, hx266_3, hx266_4, hx266_5⟩ := at_T40 HR0.out x3_1 p266 q266
         cases e266
         replace hx266_0 := (HB.out.cell (World.block_lt_of_cell? w _ hx266_0)).trans hx266_0
         replace hx266_1 := (HB.out.cell (World.block_lt_of_cell? w _ hx266_1)).trans hx266_1
         replace hx266_2 := (HB.out.cell (World.block_lt_of_cell? w _ hx266_2)).trans hx266_2
         replace hx266_3 := (HB.out.cell (World.block_lt_of_cell? w _ hx266_3)).trans hx266_3
         replace hx266_4 := (HB.out.cell (World.block_lt_of_cell? w _ hx266_4)).trans hx266_4
         replace hx266_5 := (HB.out.cell (World.block_lt_of_cell? w _ hx266_5)).trans hx266_5
         replace p266 := eq_true p266
         replace q266 := eq_true q266
         go_wp2_with (first | ((with_reducible refine gate_dst (N := 4) rfl ?_); refine box_event ?hg (N := 4) ?hd (cs := #[.int .i64 0, .int .i64 0, .int .i64 0, .int .i64 0, .int .i64 0, .int .i64 0]) (t := 40) ?hr ?_; (case hd => rfl); (case hg => rfl); (case hr => first | (go_simp; done) | (go_simp; rfl)); intro gb267 hg w17 hbox hb; have n0_ := Aside0.mk (below_step (by repeat (first | (with_reducible first | exact HB.out | apply below_alloc | apply pw_below_drewN | apply below_drew1) | exact HB.out)) hb); have n1_ := Aside0.mk (hbox); have n2_ := Aside0.mk ((by rw [hg]; exact (below_size (by repeat (first | (with_reducible first | exact HB.out | apply below_alloc | apply pw_below_drewN | apply below_drew1) | exact HB.out))) : w.heap.size ≤ gb267)); have n3_ := Aside0.mk ((by rw [hg]; exact (below_size (by repeat (first | (with_reducible first | exact HB.out | apply below_alloc | apply pw_below_drewN | apply below_drew1) | exact HB.out))) : w.heap.size ≤ gb267)); clear HB; have HB := n0_; have BK267 := n1_; have GW267 := n2_; have GE267 := n3_; clear n0_ n1_ n2_ n3_; clear hb hbox hg; have hcz18_0 : w17.cell? ⟨gb267, 0, none⟩ = some (.int .i64 0) := (blk_cell BK267.out 0).trans rfl; have hcz18_1 : w17.cell? ⟨gb267, 1, none⟩ = some (.int .i64 0) := (blk_cell BK267.out 1).trans rfl; have hcz18_2 : w17.cell? ⟨gb267, 2, none⟩ = some (.int .i64 0) := (blk_cell BK267.out 2).trans rfl; have hcz18_3 : w17.cell? ⟨gb267, 3, none⟩ = some (.int .i64 0) := (blk_cell BK267.out 3).trans rfl; have hcz18_4 : w17.cell? ⟨gb267, 4, none⟩ = some (.int .i64 0) := (blk_cell BK267.out 4).trans rfl; have hcz18_5 : w17.cell? ⟨gb267, 5, none⟩ = some (.int .i64 0) := (blk_cell BK267.out 5).trans rfl; have hfz18_0 := blk_frozen BK267.out 0; have hfz18_1 := blk_frozen BK267.out 1; have hfz18_2 := blk_frozen BK267.out 2; have hfz18_3 := blk_frozen BK267.out 3; have hfz18_4 := blk_frozen BK267.out 4; have hfz18_5 := blk_frozen BK267.out 5))
         go_ret
         exact ⟨by first | rfl | (simp [errW_none, errW_some] <;> rfl) | (simp [*, errW_none, errW_some] <;> rfl), by repeat (first | (with_reducible first | exact HB.out | apply below_alloc | apply pw_below_drewN | apply below_drew1 | refine below_set ?_ GE267.out) | exact HB.out)⟩
        ·rw [if_neg c16] at H
         have c16b0 : decide (((rd_T40 l0 x3_1).f2) < ((rd_T40 l0 x3_1).f1)) = false := decide_eq_false c16
         clear c16
         by_cases c19 : ((rd_T40 l0 x3_1).f2) > 2147483648
         ·rw [if_pos c19] at H
          have c19b0 : decide (2147483648 < ((rd_T40 l0 x3_1).f2)) = true := decide_eq_true c19
          clear c19
          obtain rfl := Option.some.inj H
          have p266 : 0 ≤ (x3_1 : Int) := of_decide_eq_true (by first | (with_reducible assumption) | assumption)
          have q266 : x3_1 < (l0.length : Int) := of_decide_eq_true (by first | (with_reducible assumption) | assumption)
          obtain ⟨ad266, e266, hx266_0, hx266_1, hx266_2, hx266_3, hx266_4, hx266_5⟩ := at_T40 HR0.out x3_1 p266 q266
          cases e266
          replace hx266_0 := (HB.out.cell (World.block_lt_of_cell? w _ hx266_0)).trans hx266_0
          replace hx266_1 := (HB.out.cell (World.block_lt_of_cell? w _ hx266_1)).trans hx266_1
          replace hx266_2 := (HB.out.cell (World.block_lt_of_cell? w _ hx266_2)).trans hx266_2
          replace hx266_3 := (HB.out.cell (World.block_lt_of_cell? w _ hx266_3)).trans hx266_3
          replace hx266_4 := (HB.out.cell (World.block_lt_of_cell? w _ hx266_4)).trans hx266_4
          replace hx266_5 := (HB.out.cell (World.block_lt_of_cell? w _ hx266_5)).trans hx266_5
          replace p266 := eq_true p266
          replace q266 := eq_true q266
          go_wp2_with (first | ((with_reducible refine gate_dst (N := 4) rfl ?_); refine box_event ?hg (N := 4) ?hd (cs := #[.int .i64 0, .int .i64 0, .int .i64 0, .int .i64 0, .int .i64 0, .int .i64 0]) (t := 40) ?hr ?_; (case hd => rfl); (case hg => rfl); (case hr => first | (go_simp; done) | (go_simp; rfl)); intro gb267 hg w20 hbox hb; have n0_ := Aside0.mk (below_step (by repeat (first | (with_reducible first | exact HB.out | apply below_alloc | apply pw_below_drewN | apply below_drew1) | exact HB.out)) hb); have n1_ := Aside0.mk (hbox); have n2_ := Aside0.mk ((by rw [hg]; exact (below_size (by repeat (first | (with_reducible first | exact HB.out | apply below_alloc | apply pw_below_drewN | apply below_drew1) | exact HB.out))) : w.heap.size ≤ gb267)); have n3_ := Aside0.mk ((by rw [hg]; exact (below_size (by repeat (first | (with_reducible first | exact HB.out | apply below_alloc | apply pw_below_drewN | apply below_drew1) | exact HB.out))) : w.heap.size ≤ gb267)); clear HB; have HB := n0_; have BK267 := n1_; have GW267 := n2_; have GE267 := n3_; clear n0_ n1_ n2_ n3_; clear hb hbox hg; have hcz21_0 : w20.cell? ⟨gb267, 0, none⟩ = some (.int .i64 0) := (blk_cell BK267.out 0).trans rfl; have hcz21_1 : w20.cell? ⟨gb267, 1, none⟩ = some (.int .i64 0) := (blk_cell BK267.out 1).trans rfl; have hcz21_2 : w20.cell? ⟨gb267, 2, none⟩ = some (.int .i64 0) := (blk_cell BK267.out 2).trans rfl; have hcz21_3 : w20.cell? ⟨gb267, 3, none⟩ = some (.int .i64 0) := (blk_cell BK267.out 3).trans rfl; have hcz21_4 : w20.cell? ⟨gb267, 4, none⟩ = some (.int .i64 0) := (blk_cell BK267.out 4).trans rfl; have hcz21_5 : w20.cell? ⟨gb267, 5, none⟩ = some (.int .i64 0) := (blk_cell BK267.out 5).trans rfl; have hfz21_0 := blk_frozen BK267.out 0; have hfz21_1 := blk_frozen BK267.out 1; have hfz21_2 := blk_frozen BK267.out 2; have hfz21_3 := blk_frozen BK267.out 3; have hfz21_4 := blk_frozen BK267.out 4; have hfz21_5 := blk_frozen BK267.out 5))
          go_ret
          exact ⟨by first | rfl | (simp [errW_none, errW_some] <;> rfl) | (simp [*, errW_none, errW_some] <;> rfl), by repeat (first | (with_reducible first | exact HB.out | apply below_alloc | apply pw_below_drewN | apply below_drew1 | refine below_set ?_ GE267.out) | exact HB.out)⟩
         ·rw [if_neg c19] at H
          have c19b0 : decide (2147483648 < ((rd_T40 l0 x3_1).f2)) = false := decide_eq_false c19
          clear c19
          have H' := Aside0.mk H
          clear H
          have p266 : 0 ≤ (x3_1 : Int) := of_decide_eq_true (by first | (with_reducible assumption) | assumption)
          have q266 : x3_1 < (l0.length : Int) := of_decide_eq_true (by first | (with_reducible assumption) | assumption)
          obtain ⟨ad266, e266, hx266_0, hx266_1, hx266_2, hx266_3, hx266_4, hx266_5⟩ := at_T40 HR0.out x3_1 p266 q266
          cases e266
          replace hx266_0 := (HB.out.cell (World.block_lt_of_cell? w _ hx266_0)).trans hx266_0
          replace hx266_1 := (HB.out.cell (World.block_lt_of_cell? w _ hx266_1)).trans hx266_1
          replace hx266_2 := (HB.out.cell (World.block_lt_of_cell? w _ hx266_2)).trans hx266_2
          replace hx266_3 := (HB.out.cell (World.block_lt_of_cell? w _ hx266_3)).trans hx266_3
          replace hx266_4 := (HB.out.cell (World.block_lt_of_cell? w _ hx266_4)).trans hx266_4
          replace hx266_5 := (HB.out.cell (World.block_lt_of_cell? w _ hx266_5)).trans hx266_5
          replace p266 := eq_true p266
          replace q266 := eq_true q266
          go_wp2_with (first | ((with_reducible refine gate_dst (N := 4) rfl ?_); refine box_event ?hg (N := 4) ?hd (cs := #[.int .i64 0, .int .i64 0, .int .i64 0, .int .i64 0, .int .i64 0, .int .i64 0]) (t := 40) ?hr ?_; (case hd => rfl); (case hg => rfl); (case hr => first | (go_simp; done) | (go_simp; rfl)); intro gb267 hg w22 hbox hb; have n0_ := Aside0.mk (below_step (by repeat (first | (with_reducible first | exact HB.out | apply below_alloc | apply pw_below_drewN | apply below_drew1) | exact HB.out)) hb); have n1_ := Aside0.mk (hbox); have n2_ := Aside0.mk ((by rw [hg]; exact (below_size (by repeat (first | (with_reducible first | exact HB.out | apply below_alloc | apply pw_below_drewN | apply below_drew1) | exact HB.out))) : w.heap.size ≤ gb267)); have n3_ := Aside0.mk ((by rw [hg]; exact (below_size (by repeat (first | (with_reducible first | exact HB.out | apply below_alloc | apply pw_below_drewN | apply below_drew1) | exact HB.out))) : w.heap.size ≤ gb267)); clear HB; have HB := n0_; have BK267 := n1_; have GW267 := n2_; have GE267 := n3_; clear n0_ n1_ n2_ n3_; clear hb hbox hg; have hcz23_0 : w22.cell? ⟨gb267, 0, none⟩ = some (.int .i64 0) := (blk_cell BK267.out 0).trans rfl; have hcz23_1 : w22.cell? ⟨gb267, 1, none⟩ = some (.int .i64 0) := (blk_cell BK267.out 1).trans rfl; have hcz23_2 : w22.cell? ⟨gb267, 2, none⟩ = some (.int .i64 0) := (blk_cell BK267.out 2).trans rfl; have hcz23_3 : w22.cell? ⟨gb267, 3, none⟩ = some (.int .i64 0) := (blk_cell BK267.out 3).trans rfl; have hcz23_4 : w22.cell? ⟨gb267, 4, none⟩ = some (.int .i64 0) := (blk_cell BK267.out 4).trans rfl; have hcz23_5 : w22.cell? ⟨gb267, 5, none⟩ = some (.int .i64 0) := (blk_cell BK267.out 5).trans rfl; have hfz23_0 := blk_frozen BK267.out 0; have hfz23_1 := blk_frozen BK267.out 1; have hfz23_2 := blk_frozen BK267.out 2; have hfz23_3 := blk_frozen BK267.out 3; have hfz23_4 := blk_frozen BK267.out 4; have hfz23_5 := blk_frozen BK267.out 5))
          go_roundg k1
          case measure => have := HK1.out; omega
          case rel => exact ⟨(wrap64 (x3_1 + 1)), (by first | rfl | (simp; done) | (simp [*]; done)), H', ⟨by have := HK1.out; omega⟩, ⟨by repeat (first | (with_reducible first | exact HB.out | apply below_alloc | apply pw_below_drewN | apply below_drew1 | refine below_set ?_ GE267.out) | exact HB.out)⟩⟩
    ·rw [if_neg c3] at H
     exact absurd H (by simp)
   ·rw [if_neg c2] at H
    have c2b0 : decide (x3_1 < (l0.length : Int)) = false := decide_eq_false c2
    clear c2
    obtain rfl := Option.some.inj H
    go_wp2
    go_ret
    exact ⟨by first | rfl | (simp [errW_none, errW_some] <;> rfl) | (simp [*, errW_none, errW_some] <;> rfl), by repeat (first | (with_reducible first | exact HB.out | apply below_alloc | apply pw_below_drewN | apply below_drew1) | exact HB.out)⟩

/-! ### rickyardref26_In: function 35 -/
def rickyardref26_In.l0 : Nat → List Int → Int → Int → Option (Bool)
 | 0, _, _, _ => none
 | k + 1, x0, x1, x5 => if x5 < (x0.length : Int) then (if 0 ≤ x5 then (if (rd x0 x5) = x1 then (some true) else (rickyardref26_In.l0 k x0 x1 (wrap64 (x5 + 1)))) else (none)) else (some false)
def rickyardref26_In.f (k : Nat) (l0 : List Int) (a1 : Int) : Option (Bool) := rickyardref26_In.l0 k l0 a1 0
theorem rickyardref26_In.mono_l : ∀ k, (∀ y0 y1 y2, LeO (rickyardref26_In.l0 k y0 y1 y2) (rickyardref26_In.l0 (k + 1) y0 y1 y2))
 | 0 => fun _ _ _ r h => by simp [rickyardref26_In.l0] at h
 | k + 1 => by
  have ih0 := rickyardref26_In.mono_l k
  ·intro y0 y1 y2
   unfold rickyardref26_In.l0
   repeat' first
   | (with_reducible exact ih0 _ _ _)
   | (with_reducible exact LeO.refl _)
   | (with_reducible exact LeO.none _)
   | (with_reducible refine LeO.ite ?_ ?_)
   | (with_reducible refine LeO.bind ?_ (fun _ => ?_))
   | exact ih0 _ _ _
   | exact LeO.none _
   | refine LeO.ite ?_ ?_
   | refine LeO.bind ?_ (fun _ => ?_)
theorem rickyardref26_In.mono : ∀ a0 a1 k, LeO (rickyardref26_In.f k a0 a1) (rickyardref26_In.f (k + 1) a0 a1) := by
 intro a0 a1 k
 have ih0 := rickyardref26_In.mono_l k
 unfold rickyardref26_In.f
 repeat' first
   | (with_reducible exact ih0 _ _ _)
   | (with_reducible exact LeO.refl _)
   | (with_reducible exact LeO.none _)
   | (with_reducible refine LeO.ite ?_ ?_)
   | (with_reducible refine LeO.bind ?_ (fun _ => ?_))
   | exact ih0 _ _ _
   | exact LeO.none _
   | refine LeO.ite ?_ ?_
   | refine LeO.bind ?_ (fun _ => ?_)
set_option maxHeartbeats 8000000 in
set_option maxRecDepth 100000 in
theorem rickyardref26_In.calls (k : Nat) (A0 : Option Addr) (c0 : Nat) (l0 : List Int) (a1 : Int) (r : Bool) (w : World) (hr0 : Kd.C (Kd.int .i64) w A0 l0.length l0) (hc0 : l0.length ≤ c0) (h : rickyardref26_In.f k l0 a1 = some r) :
  Calls Try.prog 35 #[.slice A0 l0.length c0, .int .i64 a1] w fun e w' => e = .returned (.bool r) ∧ Drawn0 w w' := by
 have HR0 := Aside0.mk hr0
 have HC0 := Aside0.mk hc0
 clear hr0 hc0
 have H : (rickyardref26_In.l0 k l0 a1 0) = some r := h
 clear h
 have H' := Aside0.mk H
 clear H
 go_enter Try.func35, Try.ntmps35
 go_wp2
 go_loopg [5] k (fun kq v5 w' => ∃ (x5_1 : Int), v5 = .int .i64 x5_1 ∧ Aside0 (rickyardref26_In.l0 kq l0 a1 x5_1 = some r) ∧ Aside0 (kq ≤ k) ∧ Drawn0 w w')
 case atStart => exact ⟨(0), (by first | rfl | (simp; done) | (simp [*]; done)), H', ⟨Nat.le_refl _⟩, by repeat (first | exact Drawn0.refl _ | apply Drawn0.step)⟩
 case round =>
  clear H'
  try clear p2
  obtain ⟨x5_1, rfl, HA, HK1, ⟨m1, rfl⟩⟩ := hrel
  cases gk with
  | zero => exact absurd HA.out (by simp [rickyardref26_In.l0])
  | succ k1 =>
   have H := HA.out
   clear HA
   simp only [rickyardref26_In.l0] at H
   by_cases c3 : x5_1 < (l0.length : Int)
   ·rw [if_pos c3] at H
    have c3b0 : decide (x5_1 < (l0.length : Int)) = true := decide_eq_true c3
    clear c3
    by_cases c4 : 0 ≤ x5_1
    ·rw [if_pos c4] at H
     have c4b0 : decide (0 ≤ x5_1) = true := decide_eq_true c4
     clear c4
     by_cases c5 : (rd l0 x5_1) = a1
     ·rw [if_pos c5] at H
      have c5b0 : ((rd l0 x5_1) == a1) = true := beq_iff_eq.mpr c5
      have c5b1 : ((rd l0 x5_1) != a1) = false := bne_eq_false_iff_eq.mpr c5
      clear c5
      obtain rfl := Option.some.inj H
      have p268 : 0 ≤ (x5_1 : Int) := of_decide_eq_true (by first | (with_reducible assumption) | assumption)
      have q268 : x5_1 < (l0.length : Int) := of_decide_eq_true (by first | (with_reducible assumption) | assumption)
      obtain ⟨ad268, e268, hx268_0⟩ := Kd.at_int HR0.out x5_1 p268 q268
      cases e268
      replace p268 := eq_true p268
      replace q268 := eq_true q268
      go_wp2
      go_ret
      exact ⟨by first | rfl | (simp; done) | (simp [*]; done), by repeat (first | exact Drawn0.refl _ | apply Drawn0.step)⟩
     ·rw [if_neg c5] at H
      have c5b0 : ((rd l0 x5_1) == a1) = false := beq_eq_false_iff_ne.mpr c5
      have c5b1 : ((rd l0 x5_1) != a1) = true := bne_iff_ne.mpr c5
      have H' := Aside0.mk H
      clear H
      have p268 : 0 ≤ (x5_1 : Int) := of_decide_eq_true (by first | (with_reducible assumption) | assumption)
      have q268 : x5_1 < (l0.length : Int) := of_decide_eq_true (by first | (with_reducible assumption) | assumption)
      obtain ⟨ad268, e268, hx268_0⟩ := Kd.at_int HR0.out x5_1 p268 q268
      cases e268
      replace p268 := eq_true p268
      replace q268 := eq_true q268
      go_wp2
      go_roundg k1
      case measure => have := HK1.out; omega
      case rel => exact ⟨(wrap64 (x5_1 + 1)), (by first | rfl | (simp; done) | (simp [*]; done)), H', ⟨by have := HK1.out; omega⟩, by repeat (first | exact Drawn0.refl _ | apply Drawn0.step)⟩
    ·rw [if_neg c4] at H
     exact absurd H (by simp)
   ·rw [if_neg c3] at H
    have c3b0 : decide (x5_1 < (l0.length : Int)) = false := decide_eq_false c3
    clear c3
    obtain rfl := Option.some.inj H
    go_wp2
    go_ret
    exact ⟨by first | rfl | (simp; done) | (simp [*]; done), by repeat (first | exact Drawn0.refl _ | apply Drawn0.step)⟩

/-! ### rickyardref26_ahead: function 36 -/
def rickyardref26_ahead.f (a0_0 : Int) (a0_1 : Int) (a0_2 : Int) (a0_3 : Int) (a0_4 : Int) (a0_5 : Int) (a1_0 : Int) (a1_1 : Int) (a1_2 : Int) (a1_3 : Int) (a1_4 : Int) (a1_5 : Int) : Option (Bool) := if a0_5 = (-1) then (some false) else (some (decide (a0_5 < a1_4)))
set_option maxHeartbeats 8000000 in
set_option maxRecDepth 100000 in
theorem rickyardref26_ahead.calls (a0_0 : Int) (a0_1 : Int) (a0_2 : Int) (a0_3 : Int) (a0_4 : Int) (a0_5 : Int) (a1_0 : Int) (a1_1 : Int) (a1_2 : Int) (a1_3 : Int) (a1_4 : Int) (a1_5 : Int) (r : Bool) (w : World) (h : rickyardref26_ahead.f a0_0 a0_1 a0_2 a0_3 a0_4 a0_5 a1_0 a1_1 a1_2 a1_3 a1_4 a1_5 = some r) :
  Calls Try.prog 36 #[.agg #[.int .i64 a0_0, .int .i64 a0_1, .int .i64 a0_2, .int .i64 a0_3, .int .i64 a0_4, .int .i64 a0_5], .agg #[.int .i64 a1_0, .int .i64 a1_1, .int .i64 a1_2, .int .i64 a1_3, .int .i64 a1_4, .int .i64 a1_5]] w fun e w' => e = .returned (.bool r) ∧ Below w.heap.size w w' := by
 have hu40 := Try.underlying40
 have HB := Aside0.mk (Below.refl w.heap.size w)
 have H : (if a0_5 = (-1) then (some false) else (some (decide (a0_5 < a1_4)))) = some r := h
 clear h
 by_cases c3 : a0_5 = (-1)
 ·rw [if_pos c3] at H
  have c3b0 : (a0_5 == (-1)) = true := beq_iff_eq.mpr c3
  have c3b1 : (a0_5 != (-1)) = false := bne_eq_false_iff_eq.mpr c3
  clear c3
  obtain rfl := Option.some.inj H
  go_enter Try.func36, Try.ntmps36
  go_wp2_with (first | ((with_reducible refine gate_dst (N := 2) rfl ?_); refine box_event ?hg (N := 2) ?hd (cs := #[.int .i64 a0_0, .int .i64 a0_1, .int .i64 a0_2, .int .i64 a0_3, .int .i64 a0_4, .int .i64 a0_5]) (t := 40) ?hr ?_; (case hd => rfl); (case hg => rfl); (case hr => first | (go_simp; done) | (go_simp; rfl)); intro gb269 hg w4 hbox hb; have n0_ := Aside0.mk (below_step (by repeat (first | (with_reducible first | exact HB.out | apply below_alloc | apply pw_below_drewN | apply below_drew1) | exact HB.out)) hb); have n1_ := Aside0.mk (hbox); have n2_ := Aside0.mk ((by rw [hg]; exact (below_size (by repeat (first | (with_reducible first | exact HB.out | apply below_alloc | apply pw_below_drewN | apply below_drew1) | exact HB.out))) : w.heap.size ≤ gb269)); have n3_ := Aside0.mk ((by rw [hg]; exact (below_size (by repeat (first | (with_reducible first | exact HB.out | apply below_alloc | apply pw_below_drewN | apply below_drew1) | exact HB.out))) : w.heap.size ≤ gb269)); clear HB; have HB := n0_; have BK269 := n1_; have GW269 := n2_; have GE269 := n3_; clear n0_ n1_ n2_ n3_; clear hb hbox hg) | ((with_reducible refine gate_dst (N := 3) rfl ?_); refine box_event ?hg (N := 3) ?hd (cs := #[.int .i64 a1_0, .int .i64 a1_1, .int .i64 a1_2, .int .i64 a1_3, .int .i64 a1_4, .int .i64 a1_5]) (t := 40) ?hr ?_; (case hd => rfl); (case hg => rfl); (case hr => first | (go_simp; done) | (go_simp; rfl)); intro gb270 hg w5 hbox hb; have n0_ := Aside0.mk (blk_below (g := gb269) (o := .cells #[.int .i64 a0_0, .int .i64 a0_1, .int .i64 a0_2, .int .i64 a0_3, .int .i64 a0_4, .int .i64 a0_5] 40 (0, 0)) (by (with_reducible repeat (first | refine blk_drewN ?_ _ | refine blk_drew ?_ | refine blk_alloc ?_ _)); exact BK269.out) hb); have n1_ := Aside0.mk (below_step (by repeat (first | (with_reducible first | exact HB.out | apply below_alloc | apply pw_below_drewN | apply below_drew1 | refine below_set ?_ GE269.out) | exact HB.out)) hb); have n2_ := Aside0.mk (hbox); have n3_ := Aside0.mk ((by rw [hg]; exact (below_size (by repeat (first | (with_reducible first | exact HB.out | apply below_alloc | apply pw_below_drewN | apply below_drew1 | refine below_set ?_ GE269.out) | exact HB.out))) : w.heap.size ≤ gb270)); have n4_ := Aside0.mk ((by rw [hg]; exact (below_size (by repeat (first | (with_reducible first | exact HB.out | apply below_alloc | apply pw_below_drewN | apply below_drew1 | refine below_set ?_ GE269.out) | exact HB.out))) : w.heap.size ≤ gb270)); have n5_ := Aside0.mk ((by rw [hg]; exact Nat.ne_of_lt (blk_lt (g := gb269) (o := .cells #[.int .i64 a0_0, .int .i64 a0_1, .int .i64 a0_2, .int .i64 a0_3, .int .i64 a0_4, .int .i64 a0_5] 40 (0, 0)) (by (with_reducible repeat (first | refine blk_drewN ?_ _ | refine blk_drew ?_ | refine blk_alloc ?_ _)); exact BK269.out)) : gb269 ≠ gb270)); have n6_ := Aside0.mk ((by rw [hg]; exact Nat.ne_of_gt (blk_lt (g := gb269) (o := .cells #[.int .i64 a0_0, .int .i64 a0_1, .int .i64 a0_2, .int .i64 a0_3, .int .i64 a0_4, .int .i64 a0_5] 40 (0, 0)) (by (with_reducible repeat (first | refine blk_drewN ?_ _ | refine blk_drew ?_ | refine blk_alloc ?_ _)); exact BK269.out)) : gb270 ≠ gb269)); clear BK269; clear HB; have BK269 := n0_; have HB := n1_; have BK270 := n2_; have GW270 := n3_; have GE270 := n4_; have NB269_270 := n5_; have NB270_269 := n6_; clear n0_ n1_ n2_ n3_ n4_ n5_ n6_; clear hb hbox hg; have hnb6 := NB269_270.out; have hnc6 := NB270_269.out; have hcz7_0 : w5.cell? ⟨gb269, 0, none⟩ = some (.int .i64 a0_0) := (blk_cell BK269.out 0).trans rfl; have hcz7_1 : w5.cell? ⟨gb269, 1, none⟩ = some (.int .i64 a0_1) := (blk_cell BK269.out 1).trans rfl; have hcz7_2 : w5.cell? ⟨gb269, 2, none⟩ = some (.int .i64 a0_2) := (blk_cell BK269.out 2).trans rfl; have hcz7_3 : w5.cell? ⟨gb269, 3, none⟩ = some (.int .i64 a0_3) := (blk_cell BK269.out 3).trans rfl; have hcz7_4 : w5.cell? ⟨gb269, 4, none⟩ = some (.int .i64 a0_4) := (blk_cell BK269.out 4).trans rfl; have hcz7_5 : w5.cell? ⟨gb269, 5, none⟩ = some (.int .i64 a0_5) := (blk_cell BK269.out 5).trans rfl; have hfz7_0 := blk_frozen BK269.out 0; have hfz7_1 := blk_frozen BK269.out 1; have hfz7_2 := blk_frozen BK269.out 2; have hfz7_3 := blk_frozen BK269.out 3; have hfz7_4 := blk_frozen BK269.out 4; have hfz7_5 := blk_frozen BK269.out 5))
  go_ret
  exact ⟨by first | rfl | (simp [errW_none, errW_some] <;> rfl) | (simp [*, errW_none, errW_some] <;> rfl), by repeat (first | (with_reducible first | exact HB.out | apply below_alloc | apply pw_below_drewN | apply below_drew1 | refine below_set ?_ GE269.out | refine below_set ?_ GE270.out) | exact HB.out)⟩
 ·rw [if_neg c3] at H
  have c3b0 : (a0_5 == (-1)) = false := beq_eq_false_iff_ne.mpr c3
  have c3b1 : (a0_5 != (-1)) = true := bne_iff_ne.mpr c3
  obtain rfl := Option.some.inj H
  go_enter Try.func36, Try.ntmps36
  go_wp2_with (first | ((with_reducible refine gate_dst (N := 2) rfl ?_); refine box_event ?hg (N := 2) ?hd (cs := #[.int .i64 a0_0, .int .i64 a0_1, .int .i64 a0_2, .int .i64 a0_3, .int .i64 a0_4, .int .i64 a0_5]) (t := 40) ?hr ?_; (case hd => rfl); (case hg => rfl); (case hr => first | (go_simp; done) | (go_simp; rfl)); intro gb269 hg w8 hbox hb; have n0_ := Aside0.mk (below_step (by repeat (first | (with_reducible first | exact HB.out | apply below_alloc | apply pw_below_drewN | apply below_drew1) | exact HB.out)) hb); have n1_ := Aside0.mk (hbox); have n2_ := Aside0.mk ((by rw [hg]; exact (below_size (by repeat (first | (with_reducible first | exact HB.out | apply below_alloc | apply pw_below_drewN | apply below_drew1) | exact HB.out))) : w.heap.size ≤ gb269)); have n3_ := Aside0.mk ((by rw [hg]; exact (below_size (by repeat (first | (with_reducible first | exact HB.out | apply below_alloc | apply pw_below_drewN | apply below_drew1) | exact HB.out))) : w.heap.size ≤ gb269)); clear HB; have HB := n0_; have BK269 := n1_; have GW269 := n2_; have GE269 := n3_; clear n0_ n1_ n2_ n3_; clear hb hbox hg) | ((with_reducible refine gate_dst (N := 3) rfl ?_); refine box_event ?hg (N := 3) ?hd (cs := #[.int .i64 a1_0, .int .i64 a1_1, .int .i64 a1_2, .int .i64 a1_3, .int .i64 a1_4, .int .i64 a1_5]) (t := 40) ?hr ?_; (case hd => rfl); (case hg => rfl); (case hr => first | (go_simp; done) | (go_simp; rfl)); intro gb270 hg w9 hbox hb; have n0_ := Aside0.mk (blk_below (g := gb269) (o := .cells #[.int .i64 a0_0, .int .i64 a0_1, .int .i64 a0_2, .int .i64 a0_3, .int .i64 a0_4, .int .i64 a0_5] 40 (0, 0)) (by (with_reducible repeat (first | refine blk_drewN ?_ _ | refine blk_drew ?_ | refine blk_alloc ?_ _)); exact BK269.out) hb); have n1_ := Aside0.mk (below_step (by repeat (first | (with_reducible first | exact HB.out | apply below_alloc | apply pw_below_drewN | apply below_drew1 | refine below_set ?_ GE269.out) | exact HB.out)) hb); have n2_ := Aside0.mk (hbox); have n3_ := Aside0.mk ((by rw [hg]; exact (below_size (by repeat (first | (with_reducible first | exact HB.out | apply below_alloc | apply pw_below_drewN | apply below_drew1 | refine below_set ?_ GE269.out) | exact HB.out))) : w.heap.size ≤ gb270)); have n4_ := Aside0.mk ((by rw [hg]; exact (below_size (by repeat (first | (with_reducible first | exact HB.out | apply below_alloc | apply pw_below_drewN | apply below_drew1 | refine below_set ?_ GE269.out) | exact HB.out))) : w.heap.size ≤ gb270)); have n5_ := Aside0.mk ((by rw [hg]; exact Nat.ne_of_lt (blk_lt (g := gb269) (o := .cells #[.int .i64 a0_0, .int .i64 a0_1, .int .i64 a0_2, .int .i64 a0_3, .int .i64 a0_4, .int .i64 a0_5] 40 (0, 0)) (by (with_reducible repeat (first | refine blk_drewN ?_ _ | refine blk_drew ?_ | refine blk_alloc ?_ _)); exact BK269.out)) : gb269 ≠ gb270)); have n6_ := Aside0.mk ((by rw [hg]; exact Nat.ne_of_gt (blk_lt (g := gb269) (o := .cells #[.int .i64 a0_0, .int .i64 a0_1, .int .i64 a0_2, .int .i64 a0_3, .int .i64 a0_4, .int .i64 a0_5] 40 (0, 0)) (by (with_reducible repeat (first | refine blk_drewN ?_ _ | refine blk_drew ?_ | refine blk_alloc ?_ _)); exact BK269.out)) : gb270 ≠ gb269)); clear BK269; clear HB; have BK269 := n0_; have HB := n1_; have BK270 := n2_; have GW270 := n3_; have GE270 := n4_; have NB269_270 := n5_; have NB270_269 := n6_; clear n0_ n1_ n2_ n3_ n4_ n5_ n6_; clear hb hbox hg; have hnb10 := NB269_270.out; have hnc10 := NB270_269.out; have hcz11_0 : w9.cell? ⟨gb269, 0, none⟩ = some (.int .i64 a0_0) := (blk_cell BK269.out 0).trans rfl; have hcz11_1 : w9.cell? ⟨gb269, 1, none⟩ = some (.int .i64 a0_1) := (blk_cell BK269.out 1).trans rfl; have hcz11_2 : w9.cell? ⟨gb269, 2, none⟩ = some (.int .i64 a0_2) := (blk_cell BK269.out 2).trans rfl; have hcz11_3 : w9.cell? ⟨gb269, 3, none⟩ = some (.int .i64 a0_3) := (blk_cell BK269.out 3).trans rfl; have hcz11_4 : w9.cell? ⟨gb269, 4, none⟩ = some (.int .i64 a0_4) := (blk_cell BK269.out 4).trans rfl; have hcz11_5 : w9.cell? ⟨gb269, 5, none⟩ = some (.int .i64 a0_5) := (blk_cell BK269.out 5).trans rfl; have hfz11_0 := blk_frozen BK269.out 0; have hfz11_1 := blk_frozen BK269.out 1; have hfz11_2 := blk_frozen BK269.out 2; have hfz11_3 := blk_frozen BK269.out 3; have hfz11_4 := blk_frozen BK269.out 4; have hfz11_5 := blk_frozen BK269.out 5; have hcz12_0 : w9.cell? ⟨gb270, 0, none⟩ = some (.int .i64 a1_0) := (blk_cell BK270.out 0).trans rfl; have hcz12_1 : w9.cell? ⟨gb270, 1, none⟩ = some (.int .i64 a1_1) := (blk_cell BK270.out 1).trans rfl; have hcz12_2 : w9.cell? ⟨gb270, 2, none⟩ = some (.int .i64 a1_2) := (blk_cell BK270.out 2).trans rfl; have hcz12_3 : w9.cell? ⟨gb270, 3, none⟩ = some (.int .i64 a1_3) := (blk_cell BK270.out 3).trans rfl; have hcz12_4 : w9.cell? ⟨gb270, 4, none⟩ = some (.int .i64 a1_4) := (blk_cell BK270.out 4).trans rfl; have hcz12_5 : w9.cell? ⟨gb270, 5, none⟩ = some (.int .i64 a1_5) := (blk_cell BK270.out 5).trans rfl; have hfz12_0 := blk_frozen BK270.out 0; have hfz12_1 := blk_frozen BK270.out 1; have hfz12_2 := blk_frozen BK270.out 2; have hfz12_3 := blk_frozen BK270.out 3; have hfz12_4 := blk_frozen BK270.out 4; have hfz12_5 := blk_frozen BK270.out 5))
  go_ret
  exact ⟨by first | rfl | (simp [errW_none, errW_some] <;> rfl) | (simp [*, errW_none, errW_some] <;> rfl), by repeat (first | (with_reducible first | exact HB.out | apply below_alloc | apply pw_below_drewN | apply below_drew1 | refine below_set ?_ GE269.out | refine below_set ?_ GE270.out) | exact HB.out)⟩

end Go.Proofs.Ytpddppipjlagfaa.Pr
