-- Printed by a program of this session (wip/tools/myprint.py) that runs the kit's print with contracts of this session's own.
import Derived.Test.YthbknmblehecaaaPrx0
import Derived.Test.YthbknmblehecaaaPrx34
namespace Go.Proofs.Ythbknmblehecaaa.Pr
open Go.RowKit Go.Proofs.YthbknmblehecaaaW.PrintWords Go.Proofs.YthbknmblehecaaaW.PrintLast Go.Proofs.YthbknmblehecaaaW.PrintMore
attribute [local go_sem] max2_int min2_int max_two min_two max_three min_three max_four min_four   -- for this text's walks alone
set_option linter.unusedVariables false
set_option linter.unusedSimpArgs false

/-! ### rickyardlaw26_Made: function 38 -/
def rickyardlaw26_Made.l0 : Nat → List Int → Int → Int → List (S58) → List (S58) → List (S58) → List (S58) → List (S58) → List (S58) → List (S58) → Option ((List (S58)) × (List (S58)) × (List (S58)) × (List (S58)) × (List (S58)) × (List (S58)) × (List (S58)) × Int)
 | 0, _, _, _, _, _, _, _, _, _, _ => none
 | k + 1, x0, x5, x6, x546000, x546001, x546002, x546003, x546004, x546005, x546006 => if (wrap64 (x6 + 1)) < (x0.length : Int) then (if x6 < 200 then (if 0 ≤ x6 then (if x6 < (x0.length : Int) then (if 0 ≤ (wrap64 (x6 + 1)) then ((rickyardlaw26_put.f x546000 x546001 x546002 x546003 x546004 x546005 x546006 (wrap64 (1 + (Int.tmod (wrap64 (rd x0 (wrap64 (x6 + 1)))) 7))) x5 (wrap64 (1 + (Int.tmod (wrap64 (rd x0 x6)) 40)))).bind fun bt549 => (rickyardlaw26_Made.l0 k x0 (wrap64 (x5 + (wrap64 (1 + (Int.tmod (wrap64 (rd x0 x6)) 40))))) (wrap64 (x6 + 2)) bt549.1 bt549.2.1 bt549.2.2.1 bt549.2.2.2.1 bt549.2.2.2.2.1 bt549.2.2.2.2.2.1 bt549.2.2.2.2.2.2)) else (none)) else (none)) else (none)) else (some (x546000, x546001, x546002, x546003, x546004, x546005, x546006, x5))) else (some (x546000, x546001, x546002, x546003, x546004, x546005, x546006, x5))
def rickyardlaw26_Made.f (k : Nat) (l0 : List Int) : Option ((List (S58)) × (List (S58)) × (List (S58)) × (List (S58)) × (List (S58)) × (List (S58)) × (List (S58)) × Int) := rickyardlaw26_Made.l0 k l0 0 0 ([] : List (S58)) ([] : List (S58)) ([] : List (S58)) ([] : List (S58)) ([] : List (S58)) ([] : List (S58)) ([] : List (S58))
theorem rickyardlaw26_Made.mono_l : ∀ k, (∀ y0 y1 y2 y3 y4 y5 y6 y7 y8 y9, LeO (rickyardlaw26_Made.l0 k y0 y1 y2 y3 y4 y5 y6 y7 y8 y9) (rickyardlaw26_Made.l0 (k + 1) y0 y1 y2 y3 y4 y5 y6 y7 y8 y9))
 | 0 => fun _ _ _ _ _ _ _ _ _ _ r h => by simp [rickyardlaw26_Made.l0] at h
 | k + 1 => by
  have ih0 := rickyardlaw26_Made.mono_l k
  ·intro y0 y1 y2 y3 y4 y5 y6 y7 y8 y9
   unfold rickyardlaw26_Made.l0
   repeat' first
   | (with_reducible exact ih0 _ _ _ _ _ _ _ _ _ _)
   | (with_reducible exact LeO.refl _)
   | (with_reducible exact LeO.none _)
   | (with_reducible refine LeO.ite ?_ ?_)
   | (with_reducible refine LeO.bind ?_ (fun _ => ?_))
   | exact ih0 _ _ _ _ _ _ _ _ _ _
   | exact LeO.none _
   | refine LeO.ite ?_ ?_
   | refine LeO.bind ?_ (fun _ => ?_)
theorem rickyardlaw26_Made.mono : ∀ a0 k, LeO (rickyardlaw26_Made.f k a0) (rickyardlaw26_Made.f (k + 1) a0) := by
 intro a0 k
 have ih0 := rickyardlaw26_Made.mono_l k
 unfold rickyardlaw26_Made.f
 repeat' first
   | (with_reducible exact ih0 _ _ _ _ _ _ _ _ _ _)
   | (with_reducible exact LeO.refl _)
   | (with_reducible exact LeO.none _)
   | (with_reducible refine LeO.ite ?_ ?_)
   | (with_reducible refine LeO.bind ?_ (fun _ => ?_))
   | exact ih0 _ _ _ _ _ _ _ _ _ _
   | exact LeO.none _
   | refine LeO.ite ?_ ?_
   | refine LeO.bind ?_ (fun _ => ?_)
def rickyardlaw26_Made.T7 : Bool × List (List Nat × List Nat) := (true, [([], []), ([], []), ([], []), ([2], [2]), ([1, 3], [1, 3]), ([4], [4]), ([5], [5]), ([6], [6]), ([7], [7]), ([], []), ([0, 8, 9], [0, 8, 9]), ([10, 10, 0, 1, 2, 3, 4, 5, 6, 7, 8, 9, 10], [10])])
def rickyardlaw26_Made.B7 : List Nat := [0, 0, 0, 4, 14, 30, 62, 126, 254, 0, 1023, 2047]
theorem rickyardlaw26_Made.tab7 : rtab .any (opsOf Try.f38 7) = rickyardlaw26_Made.T7 := by kernel_rfl
theorem rickyardlaw26_Made.bits7 : waitsOk rickyardlaw26_Made.T7.2 rickyardlaw26_Made.B7 = true := by kernel_rfl
set_option maxHeartbeats 8000000 in
set_option maxRecDepth 100000 in
theorem rickyardlaw26_Made.calls (k : Nat) (A0 : Option Addr) (c0 : Nat) (l0 : List Int) (r1 : List (S58)) (r2 : List (S58)) (r3 : List (S58)) (r4 : List (S58)) (r5 : List (S58)) (r6 : List (S58)) (r7 : List (S58)) (r8 : Int) (w : World) (hr0 : Kd.C (Kd.int .u8) w A0 l0.length l0) (hc0 : l0.length ≤ c0) (h : rickyardlaw26_Made.f k l0 = some (r1, r2, r3, r4, r5, r6, r7, r8)) :
  Calls Try.prog 38 #[.slice A0 l0.length c0] w fun e w' => ∃ v0_ v1_ v2_ v3_ v4_ v5_ v6_ : Value, e = .returned (.tuple #[.agg #[v0_, v1_, v2_, v3_, v4_, v5_, v6_], .int .i64 r8]) ∧ Kd.R k58 58 w' w.heap.size (fun k_ => some k_ ≠ (v1_ : Value).ownBlock ∧ some k_ ≠ (v2_ : Value).ownBlock ∧ some k_ ≠ (v3_ : Value).ownBlock ∧ some k_ ≠ (v4_ : Value).ownBlock ∧ some k_ ≠ (v5_ : Value).ownBlock ∧ some k_ ≠ (v6_ : Value).ownBlock) v0_ r1 ∧ Kd.R k58 58 w' w.heap.size (fun k_ => some k_ ≠ (v0_ : Value).ownBlock ∧ some k_ ≠ (v2_ : Value).ownBlock ∧ some k_ ≠ (v3_ : Value).ownBlock ∧ some k_ ≠ (v4_ : Value).ownBlock ∧ some k_ ≠ (v5_ : Value).ownBlock ∧ some k_ ≠ (v6_ : Value).ownBlock) v1_ r2 ∧ Kd.R k58 58 w' w.heap.size (fun k_ => some k_ ≠ (v0_ : Value).ownBlock ∧ some k_ ≠ (v1_ : Value).ownBlock ∧ some k_ ≠ (v3_ : Value).ownBlock ∧ some k_ ≠ (v4_ : Value).ownBlock ∧ some k_ ≠ (v5_ : Value).ownBlock ∧ some k_ ≠ (v6_ : Value).ownBlock) v2_ r3 ∧ Kd.R k58 58 w' w.heap.size (fun k_ => some k_ ≠ (v0_ : Value).ownBlock ∧ some k_ ≠ (v1_ : Value).ownBlock ∧ some k_ ≠ (v2_ : Value).ownBlock ∧ some k_ ≠ (v4_ : Value).ownBlock ∧ some k_ ≠ (v5_ : Value).ownBlock ∧ some k_ ≠ (v6_ : Value).ownBlock) v3_ r4 ∧ Kd.R k58 58 w' w.heap.size (fun k_ => some k_ ≠ (v0_ : Value).ownBlock ∧ some k_ ≠ (v1_ : Value).ownBlock ∧ some k_ ≠ (v2_ : Value).ownBlock ∧ some k_ ≠ (v3_ : Value).ownBlock ∧ some k_ ≠ (v5_ : Value).ownBlock ∧ some k_ ≠ (v6_ : Value).ownBlock) v4_ r5 ∧ Kd.R k58 58 w' w.heap.size (fun k_ => some k_ ≠ (v0_ : Value).ownBlock ∧ some k_ ≠ (v1_ : Value).ownBlock ∧ some k_ ≠ (v2_ : Value).ownBlock ∧ some k_ ≠ (v3_ : Value).ownBlock ∧ some k_ ≠ (v4_ : Value).ownBlock ∧ some k_ ≠ (v6_ : Value).ownBlock) v5_ r6 ∧ Kd.R k58 58 w' w.heap.size (fun k_ => some k_ ≠ (v0_ : Value).ownBlock ∧ some k_ ≠ (v1_ : Value).ownBlock ∧ some k_ ≠ (v2_ : Value).ownBlock ∧ some k_ ≠ (v3_ : Value).ownBlock ∧ some k_ ≠ (v4_ : Value).ownBlock ∧ some k_ ≠ (v5_ : Value).ownBlock) v6_ r7 ∧ Below w.heap.size w w' := by
 have hu46 := Try.underlying46
 have hu58 := Try.underlying58
 have HR0 := Aside0.mk hr0
 have HC0 := Aside0.mk hc0
 clear hr0 hc0
 have HB := Aside0.mk (Below.refl w.heap.size w)
 have H : (rickyardlaw26_Made.l0 k l0 0 0 ([] : List (S58)) ([] : List (S58)) ([] : List (S58)) ([] : List (S58)) ([] : List (S58)) ([] : List (S58)) ([] : List (S58))) = some (r1, r2, r3, r4, r5, r6, r7, r8) := h
 clear h
 have H' := Aside0.mk H
 clear H
 go_enter Try.func38, Try.ntmps38
 go_wp2_with (first | ((with_reducible refine gate_dst (N := 2) rfl ?_); refine box_event ?hg (N := 2) ?hd (cs := #[.slice none 0 0, .slice none 0 0, .slice none 0 0, .slice none 0 0, .slice none 0 0, .slice none 0 0, .slice none 0 0]) (t := 46) ?hr ?_; (case hd => rfl); (case hg => rfl); (case hr => first | (go_simp; done) | (go_simp; rfl)); intro gb544 hg w2 hbox hb; have n0_ := Aside0.mk (below_step (by repeat (first | (with_reducible first | exact HB.out | apply below_alloc | apply pw_below_drewN | apply below_drew1) | exact HB.out)) hb); have n1_ := Aside0.mk (hbox); have n2_ := Aside0.mk ((by rw [hg]; exact (below_size (by repeat (first | (with_reducible first | exact HB.out | apply below_alloc | apply pw_below_drewN | apply below_drew1) | exact HB.out))) : w.heap.size ≤ gb544)); have n3_ := Aside0.mk ((by rw [hg]; exact (below_size (by repeat (first | (with_reducible first | exact HB.out | apply below_alloc | apply pw_below_drewN | apply below_drew1) | exact HB.out))) : w.heap.size ≤ gb544)); clear HB; have HB := n0_; have BK544 := n1_; have GW544 := n2_; have GE544 := n3_; clear n0_ n1_ n2_ n3_; clear hb hbox hg) | ((with_reducible refine gate_dst (N := 4) rfl ?_); refine box_event ?hg (N := 4) ?hd (cs := #[.slice none 0 0, .slice none 0 0, .slice none 0 0, .slice none 0 0, .slice none 0 0, .slice none 0 0, .slice none 0 0]) (t := 46) ?hr ?_; (case hd => rfl); (case hg => rfl); (case hr => first | (go_simp; done) | (go_simp; rfl)); intro gb545 hg w3 hbox hb; have n0_ := Aside0.mk (blk_below (g := gb544) (o := .cells #[.slice none 0 0, .slice none 0 0, .slice none 0 0, .slice none 0 0, .slice none 0 0, .slice none 0 0, .slice none 0 0] 46 (0, 0)) (by (with_reducible repeat (first | refine blk_drewN ?_ _ | refine blk_drew ?_ | refine blk_alloc ?_ _)); exact BK544.out) hb); have n1_ := Aside0.mk (below_step (by repeat (first | (with_reducible first | exact HB.out | apply below_alloc | apply pw_below_drewN | apply below_drew1 | refine below_set ?_ GE544.out) | exact HB.out)) hb); have n2_ := Aside0.mk (hbox); have n3_ := Aside0.mk ((by rw [hg]; exact (below_size (by repeat (first | (with_reducible first | exact HB.out | apply below_alloc | apply pw_below_drewN | apply below_drew1 | refine below_set ?_ GE544.out) | exact HB.out))) : w.heap.size ≤ gb545)); have n4_ := Aside0.mk ((by rw [hg]; exact (below_size (by repeat (first | (with_reducible first | exact HB.out | apply below_alloc | apply pw_below_drewN | apply below_drew1 | refine below_set ?_ GE544.out) | exact HB.out))) : w.heap.size ≤ gb545)); have n5_ := Aside0.mk ((by rw [hg]; exact Nat.ne_of_lt (blk_lt (g := gb544) (o := .cells #[.slice none 0 0, .slice none 0 0, .slice none 0 0, .slice none 0 0, .slice none 0 0, .slice none 0 0, .slice none 0 0] 46 (0, 0)) (by (with_reducible repeat (first | refine blk_drewN ?_ _ | refine blk_drew ?_ | refine blk_alloc ?_ _)); exact BK544.out)) : gb544 ≠ gb545)); have n6_ := Aside0.mk ((by rw [hg]; exact Nat.ne_of_gt (blk_lt (g := gb544) (o := .cells #[.slice none 0 0, .slice none 0 0, .slice none 0 0, .slice none 0 0, .slice none 0 0, .slice none 0 0, .slice none 0 0] 46 (0, 0)) (by (with_reducible repeat (first | refine blk_drewN ?_ _ | refine blk_drew ?_ | refine blk_alloc ?_ _)); exact BK544.out)) : gb545 ≠ gb544)); clear BK544; clear HB; have BK544 := n0_; have HB := n1_; have BK545 := n2_; have GW545 := n3_; have GE545 := n4_; have NB544_545 := n5_; have NB545_544 := n6_; clear n0_ n1_ n2_ n3_ n4_ n5_ n6_; clear hb hbox hg; have hnb4 := NB545_544.out; have hnc4 := NB544_545.out; have hcz5_0 : w3.cell? ⟨gb545, 0, none⟩ = some (.slice none 0 0) := (blk_cell BK545.out 0).trans rfl; have hcz5_1 : w3.cell? ⟨gb545, 1, none⟩ = some (.slice none 0 0) := (blk_cell BK545.out 1).trans rfl; have hcz5_2 : w3.cell? ⟨gb545, 2, none⟩ = some (.slice none 0 0) := (blk_cell BK545.out 2).trans rfl; have hcz5_3 : w3.cell? ⟨gb545, 3, none⟩ = some (.slice none 0 0) := (blk_cell BK545.out 3).trans rfl; have hcz5_4 : w3.cell? ⟨gb545, 4, none⟩ = some (.slice none 0 0) := (blk_cell BK545.out 4).trans rfl; have hcz5_5 : w3.cell? ⟨gb545, 5, none⟩ = some (.slice none 0 0) := (blk_cell BK545.out 5).trans rfl; have hcz5_6 : w3.cell? ⟨gb545, 6, none⟩ = some (.slice none 0 0) := (blk_cell BK545.out 6).trans rfl; have hfz5_0 := blk_frozen BK545.out 0; have hfz5_1 := blk_frozen BK545.out 1; have hfz5_2 := blk_frozen BK545.out 2; have hfz5_3 := blk_frozen BK545.out 3; have hfz5_4 := blk_frozen BK545.out 4; have hfz5_5 := blk_frozen BK545.out 5; have hfz5_6 := blk_frozen BK545.out 6))
 go_loopg [5, 6] k (fun kq v5 v6 w' => ∃ (x5_1 : Int) (x6_1 : Int) (x546000_1 : List (S58)) (x546001_1 : List (S58)) (x546002_1 : List (S58)) (x546003_1 : List (S58)) (x546004_1 : List (S58)) (x546005_1 : List (S58)) (x546006_1 : List (S58)) (u546000 : Value) (u546001 : Value) (u546002 : Value) (u546003 : Value) (u546004 : Value) (u546005 : Value) (u546006 : Value), v5 = .int .i64 x5_1 ∧ v6 = .int .i64 x6_1 ∧ Aside0 (rickyardlaw26_Made.l0 kq l0 x5_1 x6_1 x546000_1 x546001_1 x546002_1 x546003_1 x546004_1 x546005_1 x546006_1 = some (r1, r2, r3, r4, r5, r6, r7, r8)) ∧ Aside0 (kq ≤ k) ∧ Aside0 (Kd.R k58 58 w' w.heap.size (fun k_ => some k_ ≠ (u546001 : Value).ownBlock ∧ some k_ ≠ (u546002 : Value).ownBlock ∧ some k_ ≠ (u546003 : Value).ownBlock ∧ some k_ ≠ (u546004 : Value).ownBlock ∧ some k_ ≠ (u546005 : Value).ownBlock ∧ some k_ ≠ (u546006 : Value).ownBlock) u546000 x546000_1) ∧ Aside0 (Kd.R k58 58 w' w.heap.size (fun k_ => some k_ ≠ (u546000 : Value).ownBlock ∧ some k_ ≠ (u546002 : Value).ownBlock ∧ some k_ ≠ (u546003 : Value).ownBlock ∧ some k_ ≠ (u546004 : Value).ownBlock ∧ some k_ ≠ (u546005 : Value).ownBlock ∧ some k_ ≠ (u546006 : Value).ownBlock) u546001 x546001_1) ∧ Aside0 (Kd.R k58 58 w' w.heap.size (fun k_ => some k_ ≠ (u546000 : Value).ownBlock ∧ some k_ ≠ (u546001 : Value).ownBlock ∧ some k_ ≠ (u546003 : Value).ownBlock ∧ some k_ ≠ (u546004 : Value).ownBlock ∧ some k_ ≠ (u546005 : Value).ownBlock ∧ some k_ ≠ (u546006 : Value).ownBlock) u546002 x546002_1) ∧ Aside0 (Kd.R k58 58 w' w.heap.size (fun k_ => some k_ ≠ (u546000 : Value).ownBlock ∧ some k_ ≠ (u546001 : Value).ownBlock ∧ some k_ ≠ (u546002 : Value).ownBlock ∧ some k_ ≠ (u546004 : Value).ownBlock ∧ some k_ ≠ (u546005 : Value).ownBlock ∧ some k_ ≠ (u546006 : Value).ownBlock) u546003 x546003_1) ∧ Aside0 (Kd.R k58 58 w' w.heap.size (fun k_ => some k_ ≠ (u546000 : Value).ownBlock ∧ some k_ ≠ (u546001 : Value).ownBlock ∧ some k_ ≠ (u546002 : Value).ownBlock ∧ some k_ ≠ (u546003 : Value).ownBlock ∧ some k_ ≠ (u546005 : Value).ownBlock ∧ some k_ ≠ (u546006 : Value).ownBlock) u546004 x546004_1) ∧ Aside0 (Kd.R k58 58 w' w.heap.size (fun k_ => some k_ ≠ (u546000 : Value).ownBlock ∧ some k_ ≠ (u546001 : Value).ownBlock ∧ some k_ ≠ (u546002 : Value).ownBlock ∧ some k_ ≠ (u546003 : Value).ownBlock ∧ some k_ ≠ (u546004 : Value).ownBlock ∧ some k_ ≠ (u546006 : Value).ownBlock) u546005 x546005_1) ∧ Aside0 (Kd.R k58 58 w' w.heap.size (fun k_ => some k_ ≠ (u546000 : Value).ownBlock ∧ some k_ ≠ (u546001 : Value).ownBlock ∧ some k_ ≠ (u546002 : Value).ownBlock ∧ some k_ ≠ (u546003 : Value).ownBlock ∧ some k_ ≠ (u546004 : Value).ownBlock ∧ some k_ ≠ (u546005 : Value).ownBlock) u546006 x546006_1) ∧ Aside0 (w'.heap[gb544]? = some (.cells #[(.slice none 0 0), (.slice none 0 0), (.slice none 0 0), (.slice none 0 0), (.slice none 0 0), (.slice none 0 0), (.slice none 0 0)] 46 (0, 0))) ∧ Aside0 (w'.heap[gb545]? = some (.cells #[u546000, u546001, u546002, u546003, u546004, u546005, u546006] 46 (0, 0))) ∧ Aside0 (Below w.heap.size w w'))
 case atStart => exact ⟨(0), (0), (([] : List (S58))), (([] : List (S58))), (([] : List (S58))), (([] : List (S58))), (([] : List (S58))), (([] : List (S58))), (([] : List (S58))), (.slice none 0 0), (.slice none 0 0), (.slice none 0 0), (.slice none 0 0), (.slice none 0 0), (.slice none 0 0), (.slice none 0 0), (by first | rfl | (simp; done) | (simp [*]; done)), (by first | rfl | (simp; done) | (simp [*]; done)), H', ⟨Nat.le_refl _⟩, ⟨by first | exact Kd.R_nil _ _ _ _ _ | exact Kd.N_nil _ _ _ _ _ | exact Kd.V_nil _ _ _ _ _ | exact Kd.Q_nil _ _ _ _ _ | exact Kd.S_nil _ _ _ _ _⟩, ⟨by first | exact Kd.R_nil _ _ _ _ _ | exact Kd.N_nil _ _ _ _ _ | exact Kd.V_nil _ _ _ _ _ | exact Kd.Q_nil _ _ _ _ _ | exact Kd.S_nil _ _ _ _ _⟩, ⟨by first | exact Kd.R_nil _ _ _ _ _ | exact Kd.N_nil _ _ _ _ _ | exact Kd.V_nil _ _ _ _ _ | exact Kd.Q_nil _ _ _ _ _ | exact Kd.S_nil _ _ _ _ _⟩, ⟨by first | exact Kd.R_nil _ _ _ _ _ | exact Kd.N_nil _ _ _ _ _ | exact Kd.V_nil _ _ _ _ _ | exact Kd.Q_nil _ _ _ _ _ | exact Kd.S_nil _ _ _ _ _⟩, ⟨by first | exact Kd.R_nil _ _ _ _ _ | exact Kd.N_nil _ _ _ _ _ | exact Kd.V_nil _ _ _ _ _ | exact Kd.Q_nil _ _ _ _ _ | exact Kd.S_nil _ _ _ _ _⟩, ⟨by first | exact Kd.R_nil _ _ _ _ _ | exact Kd.N_nil _ _ _ _ _ | exact Kd.V_nil _ _ _ _ _ | exact Kd.Q_nil _ _ _ _ _ | exact Kd.S_nil _ _ _ _ _⟩, ⟨by first | exact Kd.R_nil _ _ _ _ _ | exact Kd.N_nil _ _ _ _ _ | exact Kd.V_nil _ _ _ _ _ | exact Kd.Q_nil _ _ _ _ _ | exact Kd.S_nil _ _ _ _ _⟩, ⟨by (with_reducible repeat (first | refine blk_drewN ?_ _ | refine blk_drew ?_ | refine blk_alloc ?_ _)); refine blk_far ?_ NB544_545.out _; (with_reducible repeat (first | refine blk_drewN ?_ _ | refine blk_drew ?_ | refine blk_alloc ?_ _)); refine blk_far ?_ NB544_545.out _; (with_reducible repeat (first | refine blk_drewN ?_ _ | refine blk_drew ?_ | refine blk_alloc ?_ _)); refine blk_far ?_ NB544_545.out _; (with_reducible repeat (first | refine blk_drewN ?_ _ | refine blk_drew ?_ | refine blk_alloc ?_ _)); refine blk_far ?_ NB544_545.out _; (with_reducible repeat (first | refine blk_drewN ?_ _ | refine blk_drew ?_ | refine blk_alloc ?_ _)); refine blk_far ?_ NB544_545.out _; (with_reducible repeat (first | refine blk_drewN ?_ _ | refine blk_drew ?_ | refine blk_alloc ?_ _)); refine blk_far ?_ NB544_545.out _; (with_reducible repeat (first | refine blk_drewN ?_ _ | refine blk_drew ?_ | refine blk_alloc ?_ _)); refine blk_far ?_ NB544_545.out _; (with_reducible repeat (first | refine blk_drewN ?_ _ | refine blk_drew ?_ | refine blk_alloc ?_ _)); exact BK544.out⟩, ⟨by (with_reducible repeat (first | refine blk_drewN ?_ _ | refine blk_drew ?_ | refine blk_alloc ?_ _)); refine blk_put (cs := #[.slice none 0 0, .slice none 0 0, .slice none 0 0, .slice none 0 0, .slice none 0 0, .slice none 0 0, .slice none 0 0]) ?_ 6 _ rfl; (with_reducible repeat (first | refine blk_drewN ?_ _ | refine blk_drew ?_ | refine blk_alloc ?_ _)); refine blk_put (cs := #[.slice none 0 0, .slice none 0 0, .slice none 0 0, .slice none 0 0, .slice none 0 0, .slice none 0 0, .slice none 0 0]) ?_ 5 _ rfl; (with_reducible repeat (first | refine blk_drewN ?_ _ | refine blk_drew ?_ | refine blk_alloc ?_ _)); refine blk_put (cs := #[.slice none 0 0, .slice none 0 0, .slice none 0 0, .slice none 0 0, .slice none 0 0, .slice none 0 0, .slice none 0 0]) ?_ 4 _ rfl; (with_reducible repeat (first | refine blk_drewN ?_ _ | refine blk_drew ?_ | refine blk_alloc ?_ _)); refine blk_put (cs := #[.slice none 0 0, .slice none 0 0, .slice none 0 0, .slice none 0 0, .slice none 0 0, .slice none 0 0, .slice none 0 0]) ?_ 3 _ rfl; (with_reducible repeat (first | refine blk_drewN ?_ _ | refine blk_drew ?_ | refine blk_alloc ?_ _)); refine blk_put (cs := #[.slice none 0 0, .slice none 0 0, .slice none 0 0, .slice none 0 0, .slice none 0 0, .slice none 0 0, .slice none 0 0]) ?_ 2 _ rfl; (with_reducible repeat (first | refine blk_drewN ?_ _ | refine blk_drew ?_ | refine blk_alloc ?_ _)); refine blk_put (cs := #[.slice none 0 0, .slice none 0 0, .slice none 0 0, .slice none 0 0, .slice none 0 0, .slice none 0 0, .slice none 0 0]) ?_ 1 _ rfl; (with_reducible repeat (first | refine blk_drewN ?_ _ | refine blk_drew ?_ | refine blk_alloc ?_ _)); refine blk_put (cs := #[.slice none 0 0, .slice none 0 0, .slice none 0 0, .slice none 0 0, .slice none 0 0, .slice none 0 0, .slice none 0 0]) ?_ 0 _ rfl; (with_reducible repeat (first | refine blk_drewN ?_ _ | refine blk_drew ?_ | refine blk_alloc ?_ _)); exact BK545.out⟩, ⟨by repeat (first | (with_reducible first | exact HB.out | apply below_alloc | apply pw_below_drewN | apply below_drew1 | refine below_set ?_ GE544.out | refine below_set ?_ GE545.out) | exact HB.out)⟩⟩
 case round =>
  clear H'
  try clear p2
  try clear c3
  try clear c4
  try clear hcz5_0
  try clear hcz5_1
  try clear hcz5_2
  try clear hcz5_3
  try clear hcz5_4
  try clear hcz5_5
  try clear hcz5_6
  try clear hfz5_0
  try clear hfz5_1
  try clear hfz5_2
  try clear hfz5_3
  try clear hfz5_4
  try clear hfz5_5
  try clear hfz5_6
  obtain ⟨x5_1, x6_1, x546000_1, x546001_1, x546002_1, x546003_1, x546004_1, x546005_1, x546006_1, u546000, u546001, u546002, u546003, u546004, u546005, u546006, rfl, rfl, HA, HK1, HO_546000, HO_546001, HO_546002, HO_546003, HO_546004, HO_546005, HO_546006, BK544, BK545, HB⟩ := hrel
  cases gk with
  | zero => exact absurd HA.out (by simp [rickyardlaw26_Made.l0])
  | succ k1 =>
   have H := HA.out
   clear HA
   simp only [rickyardlaw26_Made.l0] at H
   by_cases c6 : (wrap64 (x6_1 + 1)) < (l0.length : Int)
   ·rw [if_pos c6] at H
    have c6b0 : decide ((wrap64 (x6_1 + 1)) < (l0.length : Int)) = true := decide_eq_true c6
    clear c6
    by_cases c7 : x6_1 < 200
    ·rw [if_pos c7] at H
     have c7b0 : decide (x6_1 < 200) = true := decide_eq_true c7
     clear c7
     by_cases c8 : 0 ≤ x6_1
     ·rw [if_pos c8] at H
      have c8b0 : decide (0 ≤ x6_1) = true := decide_eq_true c8
      clear c8
      by_cases c9 : x6_1 < (l0.length : Int)
      ·rw [if_pos c9] at H
       have c9b0 : decide (x6_1 < (l0.length : Int)) = true := decide_eq_true c9
       clear c9
       obtain ⟨ji10, hji10⟩ : ∃ j_ : Int, (wrap64 (x6_1 + 1)) = j_ := ⟨_, rfl⟩
       replace H : (if 0 ≤ (ji10) then ((rickyardlaw26_put.f x546000_1 x546001_1 x546002_1 x546003_1 x546004_1 x546005_1 x546006_1 (wrap64 (1 + (Int.tmod (wrap64 (rd l0 (ji10))) 7))) x5_1 (wrap64 (1 + (Int.tmod (wrap64 (rd l0 x6_1)) 40)))).bind fun bt549 => (rickyardlaw26_Made.l0 k1 l0 (wrap64 (x5_1 + (wrap64 (1 + (Int.tmod (wrap64 (rd l0 x6_1)) 40))))) (wrap64 (x6_1 + 2)) bt549.1 bt549.2.1 bt549.2.2.1 bt549.2.2.2.1 bt549.2.2.2.2.1 bt549.2.2.2.2.2.1 bt549.2.2.2.2.2.2)) else (none)) = some (r1, r2, r3, r4, r5, r6, r7, r8) := by first | (rw [hji10] at H; exact H) | (simp only [hji10] at H ⊢; exact H)
       (try rw [hji10] at c6b0)
       have hji10w : (IntKind.i64.wrap (x6_1 + 1)) = ji10 := (i64_w _).trans hji10
       by_cases c11 : 0 ≤ (ji10)
       ·rw [if_pos c11] at H
        have c11b0 : decide (0 ≤ (ji10)) = true := decide_eq_true c11
        clear c11
        replace H := Option.bind_eq_some_iff.mp H
        obtain ⟨⟨t549, t552, t555, t558, t561, t564, t567⟩, A120, H⟩ := H
        replace H : (rickyardlaw26_Made.l0 k1 l0 (wrap64 (x5_1 + (wrap64 (1 + (Int.tmod (wrap64 (rd l0 x6_1)) 40))))) (wrap64 (x6_1 + 2)) t549 t552 t555 t558 t561 t564 t567) = some (r1, r2, r3, r4, r5, r6, r7, r8) := H
        have A12 := Aside0.mk A120
        clear A120
        have H' := Aside0.mk H
        clear H
        have p546 : 0 ≤ (x6_1 : Int) := of_decide_eq_true (by first | (with_reducible assumption) | assumption)
        have q546 : x6_1 < (l0.length : Int) := of_decide_eq_true (by first | (with_reducible assumption) | assumption)
        obtain ⟨ad546, e546, hx546_0⟩ := Kd.at_int HR0.out x6_1 p546 q546
        cases e546
        replace hx546_0 := (HB.out.cell (World.block_lt_of_cell? w _ hx546_0)).trans hx546_0
        replace p546 := eq_true p546
        replace q546 := eq_true q546
        try go_wp2_with (first | ((with_reducible refine gate_dst (N := 7) rfl ?_); refine box_event ?hg (N := 7) ?hd (cs := #[.int .i64 0, .int .i64 0]) (t := 58) ?hr ?_; (case hd => rfl); (case hg => rfl); (case hr => first | (go_simp; done) | (go_simp; rfl)); intro gb547 hg w13 hbox hb; have n0_ := Aside0.mk (Kd.R_below (Kd.R_elderB (by (with_reducible repeat (first | apply Kd.R_alloc | apply Kd.R_drewN | apply Kd.R_drew)); exact HO_546000.out) gb547 (Nat.le_of_eq hg.symm)) hb); have n1_ := Aside0.mk (Kd.R_below (Kd.R_elderB (by (with_reducible repeat (first | apply Kd.R_alloc | apply Kd.R_drewN | apply Kd.R_drew)); exact HO_546001.out) gb547 (Nat.le_of_eq hg.symm)) hb); have n2_ := Aside0.mk (Kd.R_below (Kd.R_elderB (by (with_reducible repeat (first | apply Kd.R_alloc | apply Kd.R_drewN | apply Kd.R_drew)); exact HO_546002.out) gb547 (Nat.le_of_eq hg.symm)) hb); have n3_ := Aside0.mk (Kd.R_below (Kd.R_elderB (by (with_reducible repeat (first | apply Kd.R_alloc | apply Kd.R_drewN | apply Kd.R_drew)); exact HO_546003.out) gb547 (Nat.le_of_eq hg.symm)) hb); have n4_ := Aside0.mk (Kd.R_below (Kd.R_elderB (by (with_reducible repeat (first | apply Kd.R_alloc | apply Kd.R_drewN | apply Kd.R_drew)); exact HO_546004.out) gb547 (Nat.le_of_eq hg.symm)) hb); have n5_ := Aside0.mk (Kd.R_below (Kd.R_elderB (by (with_reducible repeat (first | apply Kd.R_alloc | apply Kd.R_drewN | apply Kd.R_drew)); exact HO_546005.out) gb547 (Nat.le_of_eq hg.symm)) hb); have n6_ := Aside0.mk (Kd.R_below (Kd.R_elderB (by (with_reducible repeat (first | apply Kd.R_alloc | apply Kd.R_drewN | apply Kd.R_drew)); exact HO_546006.out) gb547 (Nat.le_of_eq hg.symm)) hb); have n7_ := Aside0.mk (blk_below (g := gb544) (o := .cells #[.slice none 0 0, .slice none 0 0, .slice none 0 0, .slice none 0 0, .slice none 0 0, .slice none 0 0, .slice none 0 0] 46 (0, 0)) (by (with_reducible repeat (first | refine blk_drewN ?_ _ | refine blk_drew ?_ | refine blk_alloc ?_ _)); exact BK544.out) hb); have n8_ := Aside0.mk (blk_below (g := gb545) (o := .cells #[u546000, u546001, u546002, u546003, u546004, u546005, u546006] 46 (0, 0)) (by (with_reducible repeat (first | refine blk_drewN ?_ _ | refine blk_drew ?_ | refine blk_alloc ?_ _)); exact BK545.out) hb); have n9_ := Aside0.mk (below_step (by repeat (first | (with_reducible first | exact HB.out | apply below_alloc | apply pw_below_drewN | apply below_drew1 | refine below_set ?_ GE544.out | refine below_set ?_ GE545.out) | exact HB.out)) hb); have n10_ := Aside0.mk (hbox); have n11_ := Aside0.mk ((by rw [hg]; exact (below_size (by repeat (first | (with_reducible first | exact HB.out | apply below_alloc | apply pw_below_drewN | apply below_drew1 | refine below_set ?_ GE544.out | refine below_set ?_ GE545.out) | exact HB.out))) : w.heap.size ≤ gb547)); have n12_ := Aside0.mk ((by rw [hg]; exact (below_size (by repeat (first | (with_reducible first | exact HB.out | apply below_alloc | apply pw_below_drewN | apply below_drew1 | refine below_set ?_ GE544.out | refine below_set ?_ GE545.out) | exact HB.out))) : w.heap.size ≤ gb547)); have n13_ := Aside0.mk ((by rw [hg]; exact Nat.ne_of_lt (blk_lt (g := gb544) (o := .cells #[.slice none 0 0, .slice none 0 0, .slice none 0 0, .slice none 0 0, .slice none 0 0, .slice none 0 0, .slice none 0 0] 46 (0, 0)) (by (with_reducible repeat (first | refine blk_drewN ?_ _ | refine blk_drew ?_ | refine blk_alloc ?_ _)); exact BK544.out)) : gb544 ≠ gb547)); have n14_ := Aside0.mk ((by rw [hg]; exact Nat.ne_of_gt (blk_lt (g := gb544) (o := .cells #[.slice none 0 0, .slice none 0 0, .slice none 0 0, .slice none 0 0, .slice none 0 0, .slice none 0 0, .slice none 0 0] 46 (0, 0)) (by (with_reducible repeat (first | refine blk_drewN ?_ _ | refine blk_drew ?_ | refine blk_alloc ?_ _)); exact BK544.out)) : gb547 ≠ gb544)); have n15_ := Aside0.mk ((by rw [hg]; exact Nat.ne_of_lt (blk_lt (g := gb545) (o := .cells #[u546000, u546001, u546002, u546003, u546004, u546005, u546006] 46 (0, 0)) (by (with_reducible repeat (first | refine blk_drewN ?_ _ | refine blk_drew ?_ | refine blk_alloc ?_ _)); exact BK545.out)) : gb545 ≠ gb547)); have n16_ := Aside0.mk ((by rw [hg]; exact Nat.ne_of_gt (blk_lt (g := gb545) (o := .cells #[u546000, u546001, u546002, u546003, u546004, u546005, u546006] 46 (0, 0)) (by (with_reducible repeat (first | refine blk_drewN ?_ _ | refine blk_drew ?_ | refine blk_alloc ?_ _)); exact BK545.out)) : gb547 ≠ gb545)); clear HO_546000; clear HO_546001; clear HO_546002; clear HO_546003; clear HO_546004; clear HO_546005; clear HO_546006; clear BK544; clear BK545; clear HB; have HO_546000 := n0_; have HO_546001 := n1_; have HO_546002 := n2_; have HO_546003 := n3_; have HO_546004 := n4_; have HO_546005 := n5_; have HO_546006 := n6_; have BK544 := n7_; have BK545 := n8_; have HB := n9_; have BK547 := n10_; have GW547 := n11_; have GE547 := n12_; have NB544_547 := n13_; have NB547_544 := n14_; have NB545_547 := n15_; have NB547_545 := n16_; clear n0_ n1_ n2_ n3_ n4_ n5_ n6_ n7_ n8_ n9_ n10_ n11_ n12_ n13_ n14_ n15_ n16_; clear hb hbox hg; have hnb14 := NB547_544.out; have hnc14 := NB544_547.out; have hnb15 := NB547_545.out; have hnc15 := NB545_547.out; have hcz16_0 : w13.cell? ⟨gb547, 0, none⟩ = some (.int .i64 0) := (blk_cell BK547.out 0).trans rfl; have hcz16_1 : w13.cell? ⟨gb547, 1, none⟩ = some (.int .i64 0) := (blk_cell BK547.out 1).trans rfl; have hfz16_0 := blk_frozen BK547.out 0; have hfz16_1 := blk_frozen BK547.out 1))
        have n0_ : Aside0 (Kd.R k58 58 ((w13.setCell ⟨gb547, 0, none⟩ (.int .i64 x5_1)).setCell ⟨gb547, 1, none⟩ (.int .i64 (wrap64 (1 + (Int.tmod (wrap64 (rd l0 x6_1)) 40))))) w.heap.size (fun k_ => some k_ ≠ (u546001 : Value).ownBlock ∧ some k_ ≠ (u546002 : Value).ownBlock ∧ some k_ ≠ (u546003 : Value).ownBlock ∧ some k_ ≠ (u546004 : Value).ownBlock ∧ some k_ ≠ (u546005 : Value).ownBlock ∧ some k_ ≠ (u546006 : Value).ownBlock ∧ k_ ≠ gb547) u546000 x546000_1) := ⟨by (with_reducible repeat (first | apply Kd.R_alloc | apply Kd.R_drewN | apply Kd.R_drew)); exact Kd.R_mono (Kd.R_far (p := ⟨gb547, 1, none⟩) (Kd.R_far (p := ⟨gb547, 0, none⟩) (Kd.R_mono HO_546000.out (fun k_ hk => (⟨hk, hk.2⟩ : _ ∧ k_ ≠ gb547))) (fun _ hk => hk.2) (.int .i64 x5_1)) (fun _ hk => hk.2) (.int .i64 (wrap64 (1 + (Int.tmod (wrap64 (rd l0 x6_1)) 40))))) (fun _ hk => ⟨hk.1.1.1, ⟨hk.1.1.2.1, ⟨hk.1.1.2.2.1, ⟨hk.1.1.2.2.2.1, ⟨hk.1.1.2.2.2.2.1, ⟨hk.1.1.2.2.2.2.2, hk.1.2⟩⟩⟩⟩⟩⟩)⟩
        have n1_ : Aside0 (Kd.R k58 58 ((w13.setCell ⟨gb547, 0, none⟩ (.int .i64 x5_1)).setCell ⟨gb547, 1, none⟩ (.int .i64 (wrap64 (1 + (Int.tmod (wrap64 (rd l0 x6_1)) 40))))) w.heap.size (fun k_ => some k_ ≠ (u546000 : Value).ownBlock ∧ some k_ ≠ (u546002 : Value).ownBlock ∧ some k_ ≠ (u546003 : Value).ownBlock ∧ some k_ ≠ (u546004 : Value).ownBlock ∧ some k_ ≠ (u546005 : Value).ownBlock ∧ some k_ ≠ (u546006 : Value).ownBlock ∧ k_ ≠ gb547) u546001 x546001_1) := ⟨by (with_reducible repeat (first | apply Kd.R_alloc | apply Kd.R_drewN | apply Kd.R_drew)); exact Kd.R_mono (Kd.R_far (p := ⟨gb547, 1, none⟩) (Kd.R_far (p := ⟨gb547, 0, none⟩) (Kd.R_mono HO_546001.out (fun k_ hk => (⟨hk, hk.2⟩ : _ ∧ k_ ≠ gb547))) (fun _ hk => hk.2) (.int .i64 x5_1)) (fun _ hk => hk.2) (.int .i64 (wrap64 (1 + (Int.tmod (wrap64 (rd l0 x6_1)) 40))))) (fun _ hk => ⟨hk.1.1.1, ⟨hk.1.1.2.1, ⟨hk.1.1.2.2.1, ⟨hk.1.1.2.2.2.1, ⟨hk.1.1.2.2.2.2.1, ⟨hk.1.1.2.2.2.2.2, hk.1.2⟩⟩⟩⟩⟩⟩)⟩
        have n2_ : Aside0 (Kd.R k58 58 ((w13.setCell ⟨gb547, 0, none⟩ (.int .i64 x5_1)).setCell ⟨gb547, 1, none⟩ (.int .i64 (wrap64 (1 + (Int.tmod (wrap64 (rd l0 x6_1)) 40))))) w.heap.size (fun k_ => some k_ ≠ (u546000 : Value).ownBlock ∧ some k_ ≠ (u546001 : Value).ownBlock ∧ some k_ ≠ (u546003 : Value).ownBlock ∧ some k_ ≠ (u546004 : Value).ownBlock ∧ some k_ ≠ (u546005 : Value).ownBlock ∧ some k_ ≠ (u546006 : Value).ownBlock ∧ k_ ≠ gb547) u546002 x546002_1) := ⟨by (with_reducible repeat (first | apply Kd.R_alloc | apply Kd.R_drewN | apply Kd.R_drew)); exact Kd.R_mono (Kd.R_far (p := ⟨gb547, 1, none⟩) (Kd.R_far (p := ⟨gb547, 0, none⟩) (Kd.R_mono HO_546002.out (fun k_ hk => (⟨hk, hk.2⟩ : _ ∧ k_ ≠ gb547))) (fun _ hk => hk.2) (.int .i64 x5_1)) (fun _ hk => hk.2) (.int .i64 (wrap64 (1 + (Int.tmod (wrap64 (rd l0 x6_1)) 40))))) (fun _ hk => ⟨hk.1.1.1, ⟨hk.1.1.2.1, ⟨hk.1.1.2.2.1, ⟨hk.1.1.2.2.2.1, ⟨hk.1.1.2.2.2.2.1, ⟨hk.1.1.2.2.2.2.2, hk.1.2⟩⟩⟩⟩⟩⟩)⟩
        have n3_ : Aside0 (Kd.R k58 58 ((w13.setCell ⟨gb547, 0, none⟩ (.int .i64 x5_1)).setCell ⟨gb547, 1, none⟩ (.int .i64 (wrap64 (1 + (Int.tmod (wrap64 (rd l0 x6_1)) 40))))) w.heap.size (fun k_ => some k_ ≠ (u546000 : Value).ownBlock ∧ some k_ ≠ (u546001 : Value).ownBlock ∧ some k_ ≠ (u546002 : Value).ownBlock ∧ some k_ ≠ (u546004 : Value).ownBlock ∧ some k_ ≠ (u546005 : Value).ownBlock ∧ some k_ ≠ (u546006 : Value).ownBlock ∧ k_ ≠ gb547) u546003 x546003_1) := ⟨by (with_reducible repeat (first | apply Kd.R_alloc | apply Kd.R_drewN | apply Kd.R_drew)); exact Kd.R_mono (Kd.R_far (p := ⟨gb547, 1, none⟩) (Kd.R_far (p := ⟨gb547, 0, none⟩) (Kd.R_mono HO_546003.out (fun k_ hk => (⟨hk, hk.2⟩ : _ ∧ k_ ≠ gb547))) (fun _ hk => hk.2) (.int .i64 x5_1)) (fun _ hk => hk.2) (.int .i64 (wrap64 (1 + (Int.tmod (wrap64 (rd l0 x6_1)) 40))))) (fun _ hk => ⟨hk.1.1.1, ⟨hk.1.1.2.1, ⟨hk.1.1.2.2.1, ⟨hk.1.1.2.2.2.1, ⟨hk.1.1.2.2.2.2.1, ⟨hk.1.1.2.2.2.2.2, hk.1.2⟩⟩⟩⟩⟩⟩)⟩
        have n4_ : Aside0 (Kd.R k58 58 ((w13.setCell ⟨gb547, 0, none⟩ (.int .i64 x5_1)).setCell ⟨gb547, 1, none⟩ (.int .i64 (wrap64 (1 + (Int.tmod (wrap64 (rd l0 x6_1)) 40))))) w.heap.size (fun k_ => some k_ ≠ (u546000 : Value).ownBlock ∧ some k_ ≠ (u546001 : Value).ownBlock ∧ some k_ ≠ (u546002 : Value).ownBlock ∧ some k_ ≠ (u546003 : Value).ownBlock ∧ some k_ ≠ (u546005 : Value).ownBlock ∧ some k_ ≠ (u546006 : Value).ownBlock ∧ k_ ≠ gb547) u546004 x546004_1) := ⟨by (with_reducible repeat (first | apply Kd.R_alloc | apply Kd.R_drewN | apply Kd.R_drew)); exact Kd.R_mono (Kd.R_far (p := ⟨gb547, 1, none⟩) (Kd.R_far (p := ⟨gb547, 0, none⟩) (Kd.R_mono HO_546004.out (fun k_ hk => (⟨hk, hk.2⟩ : _ ∧ k_ ≠ gb547))) (fun _ hk => hk.2) (.int .i64 x5_1)) (fun _ hk => hk.2) (.int .i64 (wrap64 (1 + (Int.tmod (wrap64 (rd l0 x6_1)) 40))))) (fun _ hk => ⟨hk.1.1.1, ⟨hk.1.1.2.1, ⟨hk.1.1.2.2.1, ⟨hk.1.1.2.2.2.1, ⟨hk.1.1.2.2.2.2.1, ⟨hk.1.1.2.2.2.2.2, hk.1.2⟩⟩⟩⟩⟩⟩)⟩
        have n5_ : Aside0 (Kd.R k58 58 ((w13.setCell ⟨gb547, 0, none⟩ (.int .i64 x5_1)).setCell ⟨gb547, 1, none⟩ (.int .i64 (wrap64 (1 + (Int.tmod (wrap64 (rd l0 x6_1)) 40))))) w.heap.size (fun k_ => some k_ ≠ (u546000 : Value).ownBlock ∧ some k_ ≠ (u546001 : Value).ownBlock ∧ some k_ ≠ (u546002 : Value).ownBlock ∧ some k_ ≠ (u546003 : Value).ownBlock ∧ some k_ ≠ (u546004 : Value).ownBlock ∧ some k_ ≠ (u546006 : Value).ownBlock ∧ k_ ≠ gb547) u546005 x546005_1) := ⟨by (with_reducible repeat (first | apply Kd.R_alloc | apply Kd.R_drewN | apply Kd.R_drew)); exact Kd.R_mono (Kd.R_far (p := ⟨gb547, 1, none⟩) (Kd.R_far (p := ⟨gb547, 0, none⟩) (Kd.R_mono HO_546005.out (fun k_ hk => (⟨hk, hk.2⟩ : _ ∧ k_ ≠ gb547))) (fun _ hk => hk.2) (.int .i64 x5_1)) (fun _ hk => hk.2) (.int .i64 (wrap64 (1 + (Int.tmod (wrap64 (rd l0 x6_1)) 40))))) (fun _ hk => ⟨hk.1.1.1, ⟨hk.1.1.2.1, ⟨hk.1.1.2.2.1, ⟨hk.1.1.2.2.2.1, ⟨hk.1.1.2.2.2.2.1, ⟨hk.1.1.2.2.2.2.2, hk.1.2⟩⟩⟩⟩⟩⟩)⟩
        have n6_ : Aside0 (Kd.R k58 58 ((w13.setCell ⟨gb547, 0, none⟩ (.int .i64 x5_1)).setCell ⟨gb547, 1, none⟩ (.int .i64 (wrap64 (1 + (Int.tmod (wrap64 (rd l0 x6_1)) 40))))) w.heap.size (fun k_ => some k_ ≠ (u546000 : Value).ownBlock ∧ some k_ ≠ (u546001 : Value).ownBlock ∧ some k_ ≠ (u546002 : Value).ownBlock ∧ some k_ ≠ (u546003 : Value).ownBlock ∧ some k_ ≠ (u546004 : Value).ownBlock ∧ some k_ ≠ (u546005 : Value).ownBlock ∧ k_ ≠ gb547) u546006 x546006_1) := ⟨by (with_reducible repeat (first | apply Kd.R_alloc | apply Kd.R_drewN | apply Kd.R_drew)); exact Kd.R_mono (Kd.R_far (p := ⟨gb547, 1, none⟩) (Kd.R_far (p := ⟨gb547, 0, none⟩) (Kd.R_mono HO_546006.out (fun k_ hk => (⟨hk, hk.2⟩ : _ ∧ k_ ≠ gb547))) (fun _ hk => hk.2) (.int .i64 x5_1)) (fun _ hk => hk.2) (.int .i64 (wrap64 (1 + (Int.tmod (wrap64 (rd l0 x6_1)) 40))))) (fun _ hk => ⟨hk.1.1.1, ⟨hk.1.1.2.1, ⟨hk.1.1.2.2.1, ⟨hk.1.1.2.2.2.1, ⟨hk.1.1.2.2.2.2.1, ⟨hk.1.1.2.2.2.2.2, hk.1.2⟩⟩⟩⟩⟩⟩)⟩
        have n7_ : Aside0 (((w13.setCell ⟨gb547, 0, none⟩ (.int .i64 x5_1)).setCell ⟨gb547, 1, none⟩ (.int .i64 (wrap64 (1 + (Int.tmod (wrap64 (rd l0 x6_1)) 40))))).heap[gb544]? = some (.cells #[.slice none 0 0, .slice none 0 0, .slice none 0 0, .slice none 0 0, .slice none 0 0, .slice none 0 0, .slice none 0 0] 46 (0, 0))) := ⟨by (with_reducible repeat (first | refine blk_drewN ?_ _ | refine blk_drew ?_ | refine blk_alloc ?_ _)); refine blk_far ?_ NB544_547.out _; (with_reducible repeat (first | refine blk_drewN ?_ _ | refine blk_drew ?_ | refine blk_alloc ?_ _)); refine blk_far ?_ NB544_547.out _; (with_reducible repeat (first | refine blk_drewN ?_ _ | refine blk_drew ?_ | refine blk_alloc ?_ _)); exact BK544.out⟩
        have n8_ : Aside0 (((w13.setCell ⟨gb547, 0, none⟩ (.int .i64 x5_1)).setCell ⟨gb547, 1, none⟩ (.int .i64 (wrap64 (1 + (Int.tmod (wrap64 (rd l0 x6_1)) 40))))).heap[gb545]? = some (.cells #[u546000, u546001, u546002, u546003, u546004, u546005, u546006] 46 (0, 0))) := ⟨by (with_reducible repeat (first | refine blk_drewN ?_ _ | refine blk_drew ?_ | refine blk_alloc ?_ _)); refine blk_far ?_ NB545_547.out _; (with_reducible repeat (first | refine blk_drewN ?_ _ | refine blk_drew ?_ | refine blk_alloc ?_ _)); refine blk_far ?_ NB545_547.out _; (with_reducible repeat (first | refine blk_drewN ?_ _ | refine blk_drew ?_ | refine blk_alloc ?_ _)); exact BK545.out⟩
        have n9_ : Aside0 (((w13.setCell ⟨gb547, 0, none⟩ (.int .i64 x5_1)).setCell ⟨gb547, 1, none⟩ (.int .i64 (wrap64 (1 + (Int.tmod (wrap64 (rd l0 x6_1)) 40))))).heap[gb547]? = some (.cells #[.int .i64 x5_1, .int .i64 (wrap64 (1 + (Int.tmod (wrap64 (rd l0 x6_1)) 40)))] 58 (0, 0))) := ⟨by (with_reducible repeat (first | refine blk_drewN ?_ _ | refine blk_drew ?_ | refine blk_alloc ?_ _)); refine blk_put (cs := #[.int .i64 x5_1, .int .i64 0]) ?_ 1 _ rfl; (with_reducible repeat (first | refine blk_drewN ?_ _ | refine blk_drew ?_ | refine blk_alloc ?_ _)); refine blk_put (cs := #[.int .i64 0, .int .i64 0]) ?_ 0 _ rfl; (with_reducible repeat (first | refine blk_drewN ?_ _ | refine blk_drew ?_ | refine blk_alloc ?_ _)); exact BK547.out⟩
        have n10_ : Aside0 (Below w.heap.size w ((w13.setCell ⟨gb547, 0, none⟩ (.int .i64 x5_1)).setCell ⟨gb547, 1, none⟩ (.int .i64 (wrap64 (1 + (Int.tmod (wrap64 (rd l0 x6_1)) 40)))))) := ⟨by repeat (first | (with_reducible first | exact HB.out | apply below_alloc | apply pw_below_drewN | apply below_drew1 | refine below_set ?_ GE544.out | refine below_set ?_ GE545.out | refine below_set ?_ GE547.out) | exact HB.out)⟩
        (try clear HO_546000)
        (try clear HO_546001)
        (try clear HO_546002)
        (try clear HO_546003)
        (try clear HO_546004)
        (try clear HO_546005)
        (try clear HO_546006)
        (try clear BK544)
        (try clear BK545)
        (try clear BK547)
        (try clear HB)
        generalize ((w13.setCell ⟨gb547, 0, none⟩ (.int .i64 x5_1)).setCell ⟨gb547, 1, none⟩ (.int .i64 (wrap64 (1 + (Int.tmod (wrap64 (rd l0 x6_1)) 40))))) = w17 at n0_ n1_ n2_ n3_ n4_ n5_ n6_ n7_ n8_ n9_ n10_ ⊢
        have HO_546000 := n0_
        have HO_546001 := n1_
        have HO_546002 := n2_
        have HO_546003 := n3_
        have HO_546004 := n4_
        have HO_546005 := n5_
        have HO_546006 := n6_
        have BK544 := n7_
        have BK545 := n8_
        have BK547 := n9_
        have HB := n10_
        clear n0_ n1_ n2_ n3_ n4_ n5_ n6_ n7_ n8_ n9_ n10_
        have n0_ := Aside0.mk (Kd.R_drew HO_546000.out)
        have n1_ := Aside0.mk (Kd.R_drew HO_546001.out)
        have n2_ := Aside0.mk (Kd.R_drew HO_546002.out)
        have n3_ := Aside0.mk (Kd.R_drew HO_546003.out)
        have n4_ := Aside0.mk (Kd.R_drew HO_546004.out)
        have n5_ := Aside0.mk (Kd.R_drew HO_546005.out)
        have n6_ := Aside0.mk (Kd.R_drew HO_546006.out)
        have n7_ := Aside0.mk (blk_drew BK544.out)
        have n8_ := Aside0.mk (blk_drew BK545.out)
        have n9_ := Aside0.mk (blk_drew BK547.out)
        have n10_ := Aside0.mk (below_drew1 HB.out)
        clear HO_546000
        clear HO_546001
        clear HO_546002
        clear HO_546003
        clear HO_546004
        clear HO_546005
        clear HO_546006
        clear BK544
        clear BK545
        clear BK547
        clear HB
        have HO_546000 := n0_
        have HO_546001 := n1_
        have HO_546002 := n2_
        have HO_546003 := n3_
        have HO_546004 := n4_
        have HO_546005 := n5_
        have HO_546006 := n6_
        have BK544 := n7_
        have BK545 := n8_
        have BK547 := n9_
        have HB := n10_
        clear n0_ n1_ n2_ n3_ n4_ n5_ n6_ n7_ n8_ n9_ n10_
        have p548 : 0 ≤ ((ji10) : Int) := of_decide_eq_true (by first | (with_reducible assumption) | assumption)
        have q548 : (ji10) < (l0.length : Int) := of_decide_eq_true (by first | (with_reducible assumption) | assumption)
        obtain ⟨ad548, e548, hx548_0⟩ := Kd.at_int HR0.out (ji10) p548 q548
        have hw548_0 := hx548_0
        obtain rfl : ad546 = ad548 := (by injection e548)
        replace hx548_0 := (HB.out.cell (World.block_lt_of_cell? w _ hx548_0)).trans hx548_0
        replace p548 := eq_true p548
        replace q548 := eq_true q548
        obtain ⟨Ao19, co19, eo19⟩ := Kd.R_slice HO_546000.out
        (first | subst eo19 | (injection eo19 with f1_ f2_ f3_; have f4_ := f1_.symm; have f5_ := f3_.symm; clear f1_ f2_ f3_; subst f4_; subst f5_))
        obtain ⟨Ao20, co20, eo20⟩ := Kd.R_slice HO_546001.out
        (first | subst eo20 | (injection eo20 with f1_ f2_ f3_; have f4_ := f1_.symm; have f5_ := f3_.symm; clear f1_ f2_ f3_; subst f4_; subst f5_))
        obtain ⟨Ao21, co21, eo21⟩ := Kd.R_slice HO_546002.out
        (first | subst eo21 | (injection eo21 with f1_ f2_ f3_; have f4_ := f1_.symm; have f5_ := f3_.symm; clear f1_ f2_ f3_; subst f4_; subst f5_))
        obtain ⟨Ao22, co22, eo22⟩ := Kd.R_slice HO_546003.out
        (first | subst eo22 | (injection eo22 with f1_ f2_ f3_; have f4_ := f1_.symm; have f5_ := f3_.symm; clear f1_ f2_ f3_; subst f4_; subst f5_))
        obtain ⟨Ao23, co23, eo23⟩ := Kd.R_slice HO_546004.out
        (first | subst eo23 | (injection eo23 with f1_ f2_ f3_; have f4_ := f1_.symm; have f5_ := f3_.symm; clear f1_ f2_ f3_; subst f4_; subst f5_))
        obtain ⟨Ao24, co24, eo24⟩ := Kd.R_slice HO_546005.out
        (first | subst eo24 | (injection eo24 with f1_ f2_ f3_; have f4_ := f1_.symm; have f5_ := f3_.symm; clear f1_ f2_ f3_; subst f4_; subst f5_))
        obtain ⟨Ao25, co25, eo25⟩ := Kd.R_slice HO_546006.out
        (first | subst eo25 | (injection eo25 with f1_ f2_ f3_; have f4_ := f1_.symm; have f5_ := f3_.symm; clear f1_ f2_ f3_; subst f4_; subst f5_))
        refine start_ (n := 12) (S := fun w' => w'.cell? ⟨gb545, 0, none⟩ = some (.slice Ao19 x546000_1.length co19) ∧ w'.cell? ⟨gb545, 1, none⟩ = some (.slice Ao20 x546001_1.length co20) ∧ w'.cell? ⟨gb545, 2, none⟩ = some (.slice Ao21 x546002_1.length co21) ∧ w'.cell? ⟨gb545, 3, none⟩ = some (.slice Ao22 x546003_1.length co22) ∧ w'.cell? ⟨gb545, 4, none⟩ = some (.slice Ao23 x546004_1.length co23) ∧ w'.cell? ⟨gb545, 5, none⟩ = some (.slice Ao24 x546005_1.length co24) ∧ w'.cell? ⟨gb545, 6, none⟩ = some (.slice Ao25 x546006_1.length co25) ∧ w'.cell? ⟨gb547, 0, none⟩ = some (.int .i64 x5_1) ∧ w'.cell? ⟨gb547, 1, none⟩ = some (.int .i64 (wrap64 (1 + (Int.tmod (wrap64 (rd l0 x6_1)) 40)))) ∧ w'.cell? (ad546.add ((ji10)).toNat) = some (.int .u8 (rd l0 (ji10)))) (ds := [11]) #[false, false, false, false, false, false, false, false, false, false, false, false] (by kernel_rfl) rfl rfl ⟨(blk_cell BK545.out 0).trans rfl, (blk_cell BK545.out 1).trans rfl, (blk_cell BK545.out 2).trans rfl, (blk_cell BK545.out 3).trans rfl, (blk_cell BK545.out 4).trans rfl, (blk_cell BK545.out 5).trans rfl, (blk_cell BK545.out 6).trans rfl, (blk_cell BK547.out 0).trans rfl, (blk_cell BK547.out 1).trans rfl, ((HB.out.cell (World.block_lt_of_cell? w _ hw548_0)).trans hw548_0)⟩ (fun hHeld => ?_); refine with_tabW rickyardlaw26_Made.tab7 rickyardlaw26_Made.bits7 (fun HT_ HW_ => ?_)
        generalize w17.drew = w18 at HO_546000 HO_546001 HO_546002 HO_546003 HO_546004 HO_546005 HO_546006 BK544 BK545 BK547 HB hx548_0 hHeld ⊢
        refine pure_ (i := 1) (N := some 30) (v := ?_) (a' := ?_) #[false, true, false, false, false, false, false, false, false, false, false, false] rfl rfl (any_of HT_.out (by kernel_rfl)) (fun _ _ _ h => h) (Or.inl ⟨by rfl, ?_⟩) ?_ ?_
        rotate_left
        ·intro w'
         go_simp
         with_reducible rfl
        rotate_left
        ·simp only [Act.put, List.setIfInBounds_toArray, List.set_cons_zero, List.set_cons_succ, i64_w, i32_w]
         rfl
        refine pure_ (i := 2) (N := some 31) (v := ?_) (a' := ?_) #[false, true, true, false, false, false, false, false, false, false, false, false] rfl rfl (any_of HT_.out (by kernel_rfl)) (fun _ _ _ h => h) (Or.inl ⟨by rfl, ?_⟩) ?_ ?_
        rotate_left
        ·intro w'
         go_simp
         with_reducible rfl
        rotate_left
        ·simp only [Act.put, List.setIfInBounds_toArray, List.set_cons_zero, List.set_cons_succ, i64_w, i32_w]
         rfl
        refine pure_ (i := 3) (N := some 32) (v := ?_) (a' := ?_) #[false, true, true, true, false, false, false, false, false, false, false, false] rfl rfl (any_of HT_.out (by kernel_rfl)) (fun _ _ _ h => h) (Or.inl ⟨by rfl, ?_⟩) ?_ ?_
        rotate_left
        ·intro w'
         go_simp
         with_reducible rfl
        rotate_left
        ·simp only [Act.put, List.setIfInBounds_toArray, List.set_cons_zero, List.set_cons_succ, i64_w, i32_w]
         rfl
        refine pure_ (i := 4) (N := some 33) (v := ?_) (a' := ?_) #[false, true, true, true, true, false, false, false, false, false, false, false] rfl rfl (any_of HT_.out (by kernel_rfl)) (fun _ _ _ h => h) (Or.inl ⟨by rfl, ?_⟩) ?_ ?_
        rotate_left
        ·intro w'
         go_simp
         with_reducible rfl
        rotate_left
        ·simp only [Act.put, List.setIfInBounds_toArray, List.set_cons_zero, List.set_cons_succ, i64_w, i32_w]
         rfl
        refine take_ (i := 0) (N := some 29) (v := ?_) (a' := ?_) #[true, true, true, true, true, false, false, false, false, false, false, false] rfl rfl (take_ofW HT_.out HW_.out (by kernel_rfl)) (fun _ _ _ h => h) (Or.inl ⟨by rfl, ?_⟩) hHeld ?_ ?_
        rotate_left
        ·rintro w' ⟨s0, s1, s2, s3, s4, s5, s6, s7, s8, s9⟩
         go_simp
         with_reducible rfl
        rotate_left
        ·simp only [Act.put, List.setIfInBounds_toArray, List.set_cons_zero, List.set_cons_succ, i64_w, i32_w]
         rfl
        refine take_ (i := 5) (N := some 34) (v := ?_) (a' := ?_) #[true, true, true, true, true, true, false, false, false, false, false, false] rfl rfl (take_ofW HT_.out HW_.out (by kernel_rfl)) (fun _ _ _ h => h) (Or.inl ⟨by rfl, ?_⟩) hHeld ?_ ?_
        rotate_left
        ·rintro w' ⟨s0, s1, s2, s3, s4, s5, s6, s7, s8, s9⟩
         go_simp
         with_reducible rfl
        rotate_left
        ·simp only [Act.put, List.setIfInBounds_toArray, List.set_cons_zero, List.set_cons_succ, i64_w, i32_w]
         rfl
        refine pure_ (i := 6) (N := some 35) (v := ?_) (a' := ?_) #[true, true, true, true, true, true, true, false, false, false, false, false] rfl rfl (any_of HT_.out (by kernel_rfl)) (fun _ _ _ h => h) (Or.inl ⟨by rfl, ?_⟩) ?_ ?_
        rotate_left
        ·intro w'
         go_simp
         with_reducible rfl
        rotate_left
        ·simp only [Act.put, List.setIfInBounds_toArray, List.set_cons_zero, List.set_cons_succ, i64_w, i32_w]
         rfl
        refine pure_ (i := 7) (N := some 36) (v := ?_) (a' := ?_) #[true, true, true, true, true, true, true, true, false, false, false, false] rfl rfl (any_of HT_.out (by kernel_rfl)) (fun _ _ _ h => h) (Or.inl ⟨by rfl, ?_⟩) ?_ ?_
        rotate_left
        ·intro w'
         go_simp
         with_reducible rfl
        rotate_left
        ·simp only [Act.put, List.setIfInBounds_toArray, List.set_cons_zero, List.set_cons_succ, i64_w, i32_w]
         rfl
        refine pure_ (i := 8) (N := some 37) (v := ?_) (a' := ?_) #[true, true, true, true, true, true, true, true, true, false, false, false] rfl rfl (any_of HT_.out (by kernel_rfl)) (fun _ _ _ h => h) (Or.inl ⟨by rfl, ?_⟩) ?_ ?_
        rotate_left
        ·intro w'
         go_simp
         with_reducible rfl
        rotate_left
        ·simp only [Act.put, List.setIfInBounds_toArray, List.set_cons_zero, List.set_cons_succ, i64_w, i32_w]
         rfl
        refine take_ (i := 9) (N := some 38) (v := ?_) (a' := ?_) #[true, true, true, true, true, true, true, true, true, true, false, false] rfl rfl (take_ofW HT_.out HW_.out (by kernel_rfl)) (fun _ _ _ h => h) (Or.inl ⟨by rfl, ?_⟩) hHeld ?_ ?_
        rotate_left
        ·rintro w' ⟨s0, s1, s2, s3, s4, s5, s6, s7, s8, s9⟩
         go_simp
         with_reducible rfl
        rotate_left
        ·simp only [Act.put, List.setIfInBounds_toArray, List.set_cons_zero, List.set_cons_succ, i64_w, i32_w]
         rfl
        refine one_ (i := 10) (N := some 39) #[true, true, true, true, true, true, true, true, true, true, true, false] rfl rfl (one_of HT_.out (by kernel_rfl)) (by decide) (fun K hK => ?_)
        refine goes_ Try.func39 (by kernel_rfl) rfl #[.agg #[.slice Ao19 x546000_1.length co19, .slice Ao20 x546001_1.length co20, .slice Ao21 x546002_1.length co21, .slice Ao22 x546003_1.length co22, .slice Ao23 x546004_1.length co23, .slice Ao24 x546005_1.length co24, .slice Ao25 x546006_1.length co25], .int .i64 (wrap64 (1 + (Int.tmod (wrap64 (rd l0 (ji10))) 7))), .agg #[.int .i64 x5_1, .int .i64 (wrap64 (1 + (Int.tmod (wrap64 (rd l0 x6_1)) 40)))]] (by rfl) rfl rfl (by (try simp only [List.map_toArray, List.map_cons, List.map_nil]); first | done | (simp only [hji10]; rfl) | rfl | (simp only [List.length_drop, List.length_take]; rfl)) ?_
        with_reducible refine (rickyardlaw26_put.calls (fun k_ => some k_ = (.slice Ao19 x546000_1.length co19 : Value).ownBlock) (.slice Ao19 x546000_1.length co19) x546000_1 (fun k_ => some k_ = (.slice Ao20 x546001_1.length co20 : Value).ownBlock) (.slice Ao20 x546001_1.length co20) x546001_1 (fun k_ => some k_ = (.slice Ao21 x546002_1.length co21 : Value).ownBlock) (.slice Ao21 x546002_1.length co21) x546002_1 (fun k_ => some k_ = (.slice Ao22 x546003_1.length co22 : Value).ownBlock) (.slice Ao22 x546003_1.length co22) x546003_1 (fun k_ => some k_ = (.slice Ao23 x546004_1.length co23 : Value).ownBlock) (.slice Ao23 x546004_1.length co23) x546004_1 (fun k_ => some k_ = (.slice Ao24 x546005_1.length co24 : Value).ownBlock) (.slice Ao24 x546005_1.length co24) x546005_1 (fun k_ => some k_ = (.slice Ao25 x546006_1.length co25 : Value).ownBlock) (.slice Ao25 x546006_1.length co25) x546006_1 (wrap64 (1 + (Int.tmod (wrap64 (rd l0 (ji10))) 7))) x5_1 (wrap64 (1 + (Int.tmod (wrap64 (rd l0 x6_1)) 40))) t549 t552 t555 t558 t561 t564 t567 w _ ?side1 ?side2 ?side3 ?side4 ?side5 ?side6 ?side7 ?side8 ?side9 ?side10 ?side11 ?side12 ?side13 ?side14 ?side15 ?side16 ?side17 ?side18 ?side19 ?side20 ?side21 ?side22 ?side23 ?side24 ?side25 ?side26 ?side27 ?side28 ?side29 ?side30 ?side31 ?side32 ?side33 ?side34 ?side35 ?side36 ?side37 ?side38 ?side39 ?side40 ?side41 ?side42 ?side43 ?side44 ?side45 ?side46 ?side47 ?side48 ?side49 ?side50 A12.out).mono ?_
        (case side1 => repeat (first | (with_reducible first | exact HB.out | apply below_alloc | apply pw_below_drewN | apply below_drew1 | refine below_set ?_ GE544.out | refine below_set ?_ GE545.out | refine below_set ?_ GE547.out) | exact HB.out))
        (case side2 => exact Kd.R_tight rfl HO_546000.out)
        (case side3 => exact fun k_ e_ => (HO_546000.out.1 k_ e_.symm).1)
        (case side4 => exact fun k_ e_ => (HO_546000.out.1 k_ e_.symm).2.1)
        (case side5 => exact fun k_ e_ => (HO_546000.out.1 k_ e_.symm).2.2.1)
        (case side6 => exact fun k_ e_ => (HO_546000.out.1 k_ e_.symm).2.2.2.1)
        (case side7 => exact fun k_ e_ => (HO_546000.out.1 k_ e_.symm).2.2.2.2.1)
        (case side8 => exact fun k_ e_ => (HO_546000.out.1 k_ e_.symm).2.2.2.2.2.1)
        (case side9 => exact Kd.R_tight rfl HO_546001.out)
        (case side10 => exact fun k_ e_ => (HO_546001.out.1 k_ e_.symm).1)
        (case side11 => exact fun k_ e_ => (HO_546001.out.1 k_ e_.symm).2.1)
        (case side12 => exact fun k_ e_ => (HO_546001.out.1 k_ e_.symm).2.2.1)
        (case side13 => exact fun k_ e_ => (HO_546001.out.1 k_ e_.symm).2.2.2.1)
        (case side14 => exact fun k_ e_ => (HO_546001.out.1 k_ e_.symm).2.2.2.2.1)
        (case side15 => exact fun k_ e_ => (HO_546001.out.1 k_ e_.symm).2.2.2.2.2.1)
        (case side16 => exact Kd.R_tight rfl HO_546002.out)
        (case side17 => exact fun k_ e_ => (HO_546002.out.1 k_ e_.symm).1)
        (case side18 => exact fun k_ e_ => (HO_546002.out.1 k_ e_.symm).2.1)
        (case side19 => exact fun k_ e_ => (HO_546002.out.1 k_ e_.symm).2.2.1)
        (case side20 => exact fun k_ e_ => (HO_546002.out.1 k_ e_.symm).2.2.2.1)
        (case side21 => exact fun k_ e_ => (HO_546002.out.1 k_ e_.symm).2.2.2.2.1)
        (case side22 => exact fun k_ e_ => (HO_546002.out.1 k_ e_.symm).2.2.2.2.2.1)
        (case side23 => exact Kd.R_tight rfl HO_546003.out)
        (case side24 => exact fun k_ e_ => (HO_546003.out.1 k_ e_.symm).1)
        (case side25 => exact fun k_ e_ => (HO_546003.out.1 k_ e_.symm).2.1)
        (case side26 => exact fun k_ e_ => (HO_546003.out.1 k_ e_.symm).2.2.1)
        (case side27 => exact fun k_ e_ => (HO_546003.out.1 k_ e_.symm).2.2.2.1)
        (case side28 => exact fun k_ e_ => (HO_546003.out.1 k_ e_.symm).2.2.2.2.1)
        (case side29 => exact fun k_ e_ => (HO_546003.out.1 k_ e_.symm).2.2.2.2.2.1)
        (case side30 => exact Kd.R_tight rfl HO_546004.out)
        (case side31 => exact fun k_ e_ => (HO_546004.out.1 k_ e_.symm).1)
        (case side32 => exact fun k_ e_ => (HO_546004.out.1 k_ e_.symm).2.1)
        (case side33 => exact fun k_ e_ => (HO_546004.out.1 k_ e_.symm).2.2.1)
        (case side34 => exact fun k_ e_ => (HO_546004.out.1 k_ e_.symm).2.2.2.1)
        (case side35 => exact fun k_ e_ => (HO_546004.out.1 k_ e_.symm).2.2.2.2.1)
        (case side36 => exact fun k_ e_ => (HO_546004.out.1 k_ e_.symm).2.2.2.2.2.1)
        (case side37 => exact Kd.R_tight rfl HO_546005.out)
        (case side38 => exact fun k_ e_ => (HO_546005.out.1 k_ e_.symm).1)
        (case side39 => exact fun k_ e_ => (HO_546005.out.1 k_ e_.symm).2.1)
        (case side40 => exact fun k_ e_ => (HO_546005.out.1 k_ e_.symm).2.2.1)
        (case side41 => exact fun k_ e_ => (HO_546005.out.1 k_ e_.symm).2.2.2.1)
        (case side42 => exact fun k_ e_ => (HO_546005.out.1 k_ e_.symm).2.2.2.2.1)
        (case side43 => exact fun k_ e_ => (HO_546005.out.1 k_ e_.symm).2.2.2.2.2.1)
        (case side44 => exact Kd.R_tight rfl HO_546006.out)
        (case side45 => exact fun k_ e_ => (HO_546006.out.1 k_ e_.symm).1)
        (case side46 => exact fun k_ e_ => (HO_546006.out.1 k_ e_.symm).2.1)
        (case side47 => exact fun k_ e_ => (HO_546006.out.1 k_ e_.symm).2.2.1)
        (case side48 => exact fun k_ e_ => (HO_546006.out.1 k_ e_.symm).2.2.2.1)
        (case side49 => exact fun k_ e_ => (HO_546006.out.1 k_ e_.symm).2.2.2.2.1)
        (case side50 => exact fun k_ e_ => (HO_546006.out.1 k_ e_.symm).2.2.2.2.2.1)
        rintro e w26 ⟨v550, v553, v556, v559, v562, v565, v568, rfl, ho0, ho1, ho2, ho3, ho4, ho5, ho6, hb, hkp⟩
        refine ⟨_, rfl, ?_⟩
        have n0_ := Aside0.mk (blk_kept (by (with_reducible repeat (first | refine blk_drewN ?_ _ | refine blk_drew ?_ | refine blk_alloc ?_ _)); exact BK544.out) hkp (fun hs_ => Or.elim hs_ (fun e_ => (fun e_ => (Kd.R_ne HO_546000.out BK544.out (by decide)) e_) e_) (fun e_ => Or.elim e_ (fun e_ => (fun e_ => (Kd.R_ne HO_546001.out BK544.out (by decide)) e_) e_) (fun e_ => Or.elim e_ (fun e_ => (fun e_ => (Kd.R_ne HO_546002.out BK544.out (by decide)) e_) e_) (fun e_ => Or.elim e_ (fun e_ => (fun e_ => (Kd.R_ne HO_546003.out BK544.out (by decide)) e_) e_) (fun e_ => Or.elim e_ (fun e_ => (fun e_ => (Kd.R_ne HO_546004.out BK544.out (by decide)) e_) e_) (fun e_ => Or.elim e_ (fun e_ => (fun e_ => (Kd.R_ne HO_546005.out BK544.out (by decide)) e_) e_) (fun e_ => (fun e_ => (Kd.R_ne HO_546006.out BK544.out (by decide)) e_) e_))))))))
        have n1_ := Aside0.mk (blk_kept (by (with_reducible repeat (first | refine blk_drewN ?_ _ | refine blk_drew ?_ | refine blk_alloc ?_ _)); exact BK545.out) hkp (fun hs_ => Or.elim hs_ (fun e_ => (fun e_ => (Kd.R_ne HO_546000.out BK545.out (by decide)) e_) e_) (fun e_ => Or.elim e_ (fun e_ => (fun e_ => (Kd.R_ne HO_546001.out BK545.out (by decide)) e_) e_) (fun e_ => Or.elim e_ (fun e_ => (fun e_ => (Kd.R_ne HO_546002.out BK545.out (by decide)) e_) e_) (fun e_ => Or.elim e_ (fun e_ => (fun e_ => (Kd.R_ne HO_546003.out BK545.out (by decide)) e_) e_) (fun e_ => Or.elim e_ (fun e_ => (fun e_ => (Kd.R_ne HO_546004.out BK545.out (by decide)) e_) e_) (fun e_ => Or.elim e_ (fun e_ => (fun e_ => (Kd.R_ne HO_546005.out BK545.out (by decide)) e_) e_) (fun e_ => (fun e_ => (Kd.R_ne HO_546006.out BK545.out (by decide)) e_) e_))))))))
        have n2_ := Aside0.mk (blk_kept (by (with_reducible repeat (first | refine blk_drewN ?_ _ | refine blk_drew ?_ | refine blk_alloc ?_ _)); exact BK547.out) hkp (fun hs_ => Or.elim hs_ (fun e_ => (fun e_ => (Kd.R_away HO_546000.out (fun _ hk => hk.2.2.2.2.2.2)) e_) e_) (fun e_ => Or.elim e_ (fun e_ => (fun e_ => (Kd.R_away HO_546001.out (fun _ hk => hk.2.2.2.2.2.2)) e_) e_) (fun e_ => Or.elim e_ (fun e_ => (fun e_ => (Kd.R_away HO_546002.out (fun _ hk => hk.2.2.2.2.2.2)) e_) e_) (fun e_ => Or.elim e_ (fun e_ => (fun e_ => (Kd.R_away HO_546003.out (fun _ hk => hk.2.2.2.2.2.2)) e_) e_) (fun e_ => Or.elim e_ (fun e_ => (fun e_ => (Kd.R_away HO_546004.out (fun _ hk => hk.2.2.2.2.2.2)) e_) e_) (fun e_ => Or.elim e_ (fun e_ => (fun e_ => (Kd.R_away HO_546005.out (fun _ hk => hk.2.2.2.2.2.2)) e_) e_) (fun e_ => (fun e_ => (Kd.R_away HO_546006.out (fun _ hk => hk.2.2.2.2.2.2)) e_) e_))))))))
        have n3_ := Aside0.mk (Kd.R_mono (ok' := fun k_ => some k_ ≠ (v553 : Value).ownBlock ∧ some k_ ≠ (v556 : Value).ownBlock ∧ some k_ ≠ (v559 : Value).ownBlock ∧ some k_ ≠ (v562 : Value).ownBlock ∧ some k_ ≠ (v565 : Value).ownBlock ∧ some k_ ≠ (v568 : Value).ownBlock ∧ k_ ≠ gb547) ho0 (fun k_ hk_ => ⟨hk_.2.1, hk_.2.2.1, hk_.2.2.2.1, hk_.2.2.2.2.1, hk_.2.2.2.2.2.1, hk_.2.2.2.2.2.2, Or.elim hk_.1 (fun hs_ => Or.elim hs_ (fun hs_ => fun e_ => (Kd.R_away HO_546000.out (fun _ hk => hk.2.2.2.2.2.2)) (by rw [← e_]; exact hs_)) (fun hs_ => Or.elim hs_ (fun hs_ => fun e_ => (Kd.R_away HO_546001.out (fun _ hk => hk.2.2.2.2.2.2)) (by rw [← e_]; exact hs_)) (fun hs_ => Or.elim hs_ (fun hs_ => fun e_ => (Kd.R_away HO_546002.out (fun _ hk => hk.2.2.2.2.2.2)) (by rw [← e_]; exact hs_)) (fun hs_ => Or.elim hs_ (fun hs_ => fun e_ => (Kd.R_away HO_546003.out (fun _ hk => hk.2.2.2.2.2.2)) (by rw [← e_]; exact hs_)) (fun hs_ => Or.elim hs_ (fun hs_ => fun e_ => (Kd.R_away HO_546004.out (fun _ hk => hk.2.2.2.2.2.2)) (by rw [← e_]; exact hs_)) (fun hs_ => Or.elim hs_ (fun hs_ => fun e_ => (Kd.R_away HO_546005.out (fun _ hk => hk.2.2.2.2.2.2)) (by rw [← e_]; exact hs_)) (fun hs_ => fun e_ => (Kd.R_away HO_546006.out (fun _ hk => hk.2.2.2.2.2.2)) (by rw [← e_]; exact hs_)))))))) (fun hn_ => (Kd.freshB (g := gb547) (o := .cells #[.int .i64 x5_1, .int .i64 (wrap64 (1 + (Int.tmod (wrap64 (rd l0 x6_1)) 40)))] 58 (0, 0)) (by (with_reducible repeat (first | refine blk_drewN ?_ _ | refine blk_drew ?_ | refine blk_alloc ?_ _)); exact BK547.out) k_ hn_))⟩))
        have n4_ := Aside0.mk (Kd.R_mono (ok' := fun k_ => some k_ ≠ (v550 : Value).ownBlock ∧ some k_ ≠ (v556 : Value).ownBlock ∧ some k_ ≠ (v559 : Value).ownBlock ∧ some k_ ≠ (v562 : Value).ownBlock ∧ some k_ ≠ (v565 : Value).ownBlock ∧ some k_ ≠ (v568 : Value).ownBlock ∧ k_ ≠ gb547) ho1 (fun k_ hk_ => ⟨hk_.2.1, hk_.2.2.1, hk_.2.2.2.1, hk_.2.2.2.2.1, hk_.2.2.2.2.2.1, hk_.2.2.2.2.2.2, Or.elim hk_.1 (fun hs_ => Or.elim hs_ (fun hs_ => fun e_ => (Kd.R_away HO_546000.out (fun _ hk => hk.2.2.2.2.2.2)) (by rw [← e_]; exact hs_)) (fun hs_ => Or.elim hs_ (fun hs_ => fun e_ => (Kd.R_away HO_546001.out (fun _ hk => hk.2.2.2.2.2.2)) (by rw [← e_]; exact hs_)) (fun hs_ => Or.elim hs_ (fun hs_ => fun e_ => (Kd.R_away HO_546002.out (fun _ hk => hk.2.2.2.2.2.2)) (by rw [← e_]; exact hs_)) (fun hs_ => Or.elim hs_ (fun hs_ => fun e_ => (Kd.R_away HO_546003.out (fun _ hk => hk.2.2.2.2.2.2)) (by rw [← e_]; exact hs_)) (fun hs_ => Or.elim hs_ (fun hs_ => fun e_ => (Kd.R_away HO_546004.out (fun _ hk => hk.2.2.2.2.2.2)) (by rw [← e_]; exact hs_)) (fun hs_ => Or.elim hs_ (fun hs_ => fun e_ => (Kd.R_away HO_546005.out (fun _ hk => hk.2.2.2.2.2.2)) (by rw [← e_]; exact hs_)) (fun hs_ => fun e_ => (Kd.R_away HO_546006.out (fun _ hk => hk.2.2.2.2.2.2)) (by rw [← e_]; exact hs_)))))))) (fun hn_ => (Kd.freshB (g := gb547) (o := .cells #[.int .i64 x5_1, .int .i64 (wrap64 (1 + (Int.tmod (wrap64 (rd l0 x6_1)) 40)))] 58 (0, 0)) (by (with_reducible repeat (first | refine blk_drewN ?_ _ | refine blk_drew ?_ | refine blk_alloc ?_ _)); exact BK547.out) k_ hn_))⟩))
        have n5_ := Aside0.mk (Kd.R_mono (ok' := fun k_ => some k_ ≠ (v550 : Value).ownBlock ∧ some k_ ≠ (v553 : Value).ownBlock ∧ some k_ ≠ (v559 : Value).ownBlock ∧ some k_ ≠ (v562 : Value).ownBlock ∧ some k_ ≠ (v565 : Value).ownBlock ∧ some k_ ≠ (v568 : Value).ownBlock ∧ k_ ≠ gb547) ho2 (fun k_ hk_ => ⟨hk_.2.1, hk_.2.2.1, hk_.2.2.2.1, hk_.2.2.2.2.1, hk_.2.2.2.2.2.1, hk_.2.2.2.2.2.2, Or.elim hk_.1 (fun hs_ => Or.elim hs_ (fun hs_ => fun e_ => (Kd.R_away HO_546000.out (fun _ hk => hk.2.2.2.2.2.2)) (by rw [← e_]; exact hs_)) (fun hs_ => Or.elim hs_ (fun hs_ => fun e_ => (Kd.R_away HO_546001.out (fun _ hk => hk.2.2.2.2.2.2)) (by rw [← e_]; exact hs_)) (fun hs_ => Or.elim hs_ (fun hs_ => fun e_ => (Kd.R_away HO_546002.out (fun _ hk => hk.2.2.2.2.2.2)) (by rw [← e_]; exact hs_)) (fun hs_ => Or.elim hs_ (fun hs_ => fun e_ => (Kd.R_away HO_546003.out (fun _ hk => hk.2.2.2.2.2.2)) (by rw [← e_]; exact hs_)) (fun hs_ => Or.elim hs_ (fun hs_ => fun e_ => (Kd.R_away HO_546004.out (fun _ hk => hk.2.2.2.2.2.2)) (by rw [← e_]; exact hs_)) (fun hs_ => Or.elim hs_ (fun hs_ => fun e_ => (Kd.R_away HO_546005.out (fun _ hk => hk.2.2.2.2.2.2)) (by rw [← e_]; exact hs_)) (fun hs_ => fun e_ => (Kd.R_away HO_546006.out (fun _ hk => hk.2.2.2.2.2.2)) (by rw [← e_]; exact hs_)))))))) (fun hn_ => (Kd.freshB (g := gb547) (o := .cells #[.int .i64 x5_1, .int .i64 (wrap64 (1 + (Int.tmod (wrap64 (rd l0 x6_1)) 40)))] 58 (0, 0)) (by (with_reducible repeat (first | refine blk_drewN ?_ _ | refine blk_drew ?_ | refine blk_alloc ?_ _)); exact BK547.out) k_ hn_))⟩))
        have n6_ := Aside0.mk (Kd.R_mono (ok' := fun k_ => some k_ ≠ (v550 : Value).ownBlock ∧ some k_ ≠ (v553 : Value).ownBlock ∧ some k_ ≠ (v556 : Value).ownBlock ∧ some k_ ≠ (v562 : Value).ownBlock ∧ some k_ ≠ (v565 : Value).ownBlock ∧ some k_ ≠ (v568 : Value).ownBlock ∧ k_ ≠ gb547) ho3 (fun k_ hk_ => ⟨hk_.2.1, hk_.2.2.1, hk_.2.2.2.1, hk_.2.2.2.2.1, hk_.2.2.2.2.2.1, hk_.2.2.2.2.2.2, Or.elim hk_.1 (fun hs_ => Or.elim hs_ (fun hs_ => fun e_ => (Kd.R_away HO_546000.out (fun _ hk => hk.2.2.2.2.2.2)) (by rw [← e_]; exact hs_)) (fun hs_ => Or.elim hs_ (fun hs_ => fun e_ => (Kd.R_away HO_546001.out (fun _ hk => hk.2.2.2.2.2.2)) (by rw [← e_]; exact hs_)) (fun hs_ => Or.elim hs_ (fun hs_ => fun e_ => (Kd.R_away HO_546002.out (fun _ hk => hk.2.2.2.2.2.2)) (by rw [← e_]; exact hs_)) (fun hs_ => Or.elim hs_ (fun hs_ => fun e_ => (Kd.R_away HO_546003.out (fun _ hk => hk.2.2.2.2.2.2)) (by rw [← e_]; exact hs_)) (fun hs_ => Or.elim hs_ (fun hs_ => fun e_ => (Kd.R_away HO_546004.out (fun _ hk => hk.2.2.2.2.2.2)) (by rw [← e_]; exact hs_)) (fun hs_ => Or.elim hs_ (fun hs_ => fun e_ => (Kd.R_away HO_546005.out (fun _ hk => hk.2.2.2.2.2.2)) (by rw [← e_]; exact hs_)) (fun hs_ => fun e_ => (Kd.R_away HO_546006.out (fun _ hk => hk.2.2.2.2.2.2)) (by rw [← e_]; exact hs_)))))))) (fun hn_ => (Kd.freshB (g := gb547) (o := .cells #[.int .i64 x5_1, .int .i64 (wrap64 (1 + (Int.tmod (wrap64 (rd l0 x6_1)) 40)))] 58 (0, 0)) (by (with_reducible repeat (first | refine blk_drewN ?_ _ | refine blk_drew ?_ | refine blk_alloc ?_ _)); exact BK547.out) k_ hn_))⟩))
        have n7_ := Aside0.mk (Kd.R_mono (ok' := fun k_ => some k_ ≠ (v550 : Value).ownBlock ∧ some k_ ≠ (v553 : Value).ownBlock ∧ some k_ ≠ (v556 : Value).ownBlock ∧ some k_ ≠ (v559 : Value).ownBlock ∧ some k_ ≠ (v565 : Value).ownBlock ∧ some k_ ≠ (v568 : Value).ownBlock ∧ k_ ≠ gb547) ho4 (fun k_ hk_ => ⟨hk_.2.1, hk_.2.2.1, hk_.2.2.2.1, hk_.2.2.2.2.1, hk_.2.2.2.2.2.1, hk_.2.2.2.2.2.2, Or.elim hk_.1 (fun hs_ => Or.elim hs_ (fun hs_ => fun e_ => (Kd.R_away HO_546000.out (fun _ hk => hk.2.2.2.2.2.2)) (by rw [← e_]; exact hs_)) (fun hs_ => Or.elim hs_ (fun hs_ => fun e_ => (Kd.R_away HO_546001.out (fun _ hk => hk.2.2.2.2.2.2)) (by rw [← e_]; exact hs_)) (fun hs_ => Or.elim hs_ (fun hs_ => fun e_ => (Kd.R_away HO_546002.out (fun _ hk => hk.2.2.2.2.2.2)) (by rw [← e_]; exact hs_)) (fun hs_ => Or.elim hs_ (fun hs_ => fun e_ => (Kd.R_away HO_546003.out (fun _ hk => hk.2.2.2.2.2.2)) (by rw [← e_]; exact hs_)) (fun hs_ => Or.elim hs_ (fun hs_ => fun e_ => (Kd.R_away HO_546004.out (fun _ hk => hk.2.2.2.2.2.2)) (by rw [← e_]; exact hs_)) (fun hs_ => Or.elim hs_ (fun hs_ => fun e_ => (Kd.R_away HO_546005.out (fun _ hk => hk.2.2.2.2.2.2)) (by rw [← e_]; exact hs_)) (fun hs_ => fun e_ => (Kd.R_away HO_546006.out (fun _ hk => hk.2.2.2.2.2.2)) (by rw [← e_]; exact hs_)))))))) (fun hn_ => (Kd.freshB (g := gb547) (o := .cells #[.int .i64 x5_1, .int .i64 (wrap64 (1 + (Int.tmod (wrap64 (rd l0 x6_1)) 40)))] 58 (0, 0)) (by (with_reducible repeat (first | refine blk_drewN ?_ _ | refine blk_drew ?_ | refine blk_alloc ?_ _)); exact BK547.out) k_ hn_))⟩))
        have n8_ := Aside0.mk (Kd.R_mono (ok' := fun k_ => some k_ ≠ (v550 : Value).ownBlock ∧ some k_ ≠ (v553 : Value).ownBlock ∧ some k_ ≠ (v556 : Value).ownBlock ∧ some k_ ≠ (v559 : Value).ownBlock ∧ some k_ ≠ (v562 : Value).ownBlock ∧ some k_ ≠ (v568 : Value).ownBlock ∧ k_ ≠ gb547) ho5 (fun k_ hk_ => ⟨hk_.2.1, hk_.2.2.1, hk_.2.2.2.1, hk_.2.2.2.2.1, hk_.2.2.2.2.2.1, hk_.2.2.2.2.2.2, Or.elim hk_.1 (fun hs_ => Or.elim hs_ (fun hs_ => fun e_ => (Kd.R_away HO_546000.out (fun _ hk => hk.2.2.2.2.2.2)) (by rw [← e_]; exact hs_)) (fun hs_ => Or.elim hs_ (fun hs_ => fun e_ => (Kd.R_away HO_546001.out (fun _ hk => hk.2.2.2.2.2.2)) (by rw [← e_]; exact hs_)) (fun hs_ => Or.elim hs_ (fun hs_ => fun e_ => (Kd.R_away HO_546002.out (fun _ hk => hk.2.2.2.2.2.2)) (by rw [← e_]; exact hs_)) (fun hs_ => Or.elim hs_ (fun hs_ => fun e_ => (Kd.R_away HO_546003.out (fun _ hk => hk.2.2.2.2.2.2)) (by rw [← e_]; exact hs_)) (fun hs_ => Or.elim hs_ (fun hs_ => fun e_ => (Kd.R_away HO_546004.out (fun _ hk => hk.2.2.2.2.2.2)) (by rw [← e_]; exact hs_)) (fun hs_ => Or.elim hs_ (fun hs_ => fun e_ => (Kd.R_away HO_546005.out (fun _ hk => hk.2.2.2.2.2.2)) (by rw [← e_]; exact hs_)) (fun hs_ => fun e_ => (Kd.R_away HO_546006.out (fun _ hk => hk.2.2.2.2.2.2)) (by rw [← e_]; exact hs_)))))))) (fun hn_ => (Kd.freshB (g := gb547) (o := .cells #[.int .i64 x5_1, .int .i64 (wrap64 (1 + (Int.tmod (wrap64 (rd l0 x6_1)) 40)))] 58 (0, 0)) (by (with_reducible repeat (first | refine blk_drewN ?_ _ | refine blk_drew ?_ | refine blk_alloc ?_ _)); exact BK547.out) k_ hn_))⟩))
        have n9_ := Aside0.mk (Kd.R_mono (ok' := fun k_ => some k_ ≠ (v550 : Value).ownBlock ∧ some k_ ≠ (v553 : Value).ownBlock ∧ some k_ ≠ (v556 : Value).ownBlock ∧ some k_ ≠ (v559 : Value).ownBlock ∧ some k_ ≠ (v562 : Value).ownBlock ∧ some k_ ≠ (v565 : Value).ownBlock ∧ k_ ≠ gb547) ho6 (fun k_ hk_ => ⟨hk_.2.1, hk_.2.2.1, hk_.2.2.2.1, hk_.2.2.2.2.1, hk_.2.2.2.2.2.1, hk_.2.2.2.2.2.2, Or.elim hk_.1 (fun hs_ => Or.elim hs_ (fun hs_ => fun e_ => (Kd.R_away HO_546000.out (fun _ hk => hk.2.2.2.2.2.2)) (by rw [← e_]; exact hs_)) (fun hs_ => Or.elim hs_ (fun hs_ => fun e_ => (Kd.R_away HO_546001.out (fun _ hk => hk.2.2.2.2.2.2)) (by rw [← e_]; exact hs_)) (fun hs_ => Or.elim hs_ (fun hs_ => fun e_ => (Kd.R_away HO_546002.out (fun _ hk => hk.2.2.2.2.2.2)) (by rw [← e_]; exact hs_)) (fun hs_ => Or.elim hs_ (fun hs_ => fun e_ => (Kd.R_away HO_546003.out (fun _ hk => hk.2.2.2.2.2.2)) (by rw [← e_]; exact hs_)) (fun hs_ => Or.elim hs_ (fun hs_ => fun e_ => (Kd.R_away HO_546004.out (fun _ hk => hk.2.2.2.2.2.2)) (by rw [← e_]; exact hs_)) (fun hs_ => Or.elim hs_ (fun hs_ => fun e_ => (Kd.R_away HO_546005.out (fun _ hk => hk.2.2.2.2.2.2)) (by rw [← e_]; exact hs_)) (fun hs_ => fun e_ => (Kd.R_away HO_546006.out (fun _ hk => hk.2.2.2.2.2.2)) (by rw [← e_]; exact hs_)))))))) (fun hn_ => (Kd.freshB (g := gb547) (o := .cells #[.int .i64 x5_1, .int .i64 (wrap64 (1 + (Int.tmod (wrap64 (rd l0 x6_1)) 40)))] 58 (0, 0)) (by (with_reducible repeat (first | refine blk_drewN ?_ _ | refine blk_drew ?_ | refine blk_alloc ?_ _)); exact BK547.out) k_ hn_))⟩))
        have n10_ := Aside0.mk (hb)
        clear BK544
        clear BK545
        clear BK547
        clear HB
        clear HO_546000
        clear HO_546001
        clear HO_546002
        clear HO_546003
        clear HO_546004
        clear HO_546005
        clear HO_546006
        have BK544 := n0_
        have BK545 := n1_
        have BK547 := n2_
        have HO551 := n3_
        have HO554 := n4_
        have HO557 := n5_
        have HO560 := n6_
        have HO563 := n7_
        have HO566 := n8_
        have HO569 := n9_
        have HB := n10_
        clear n0_ n1_ n2_ n3_ n4_ n5_ n6_ n7_ n8_ n9_ n10_
        (try clear hb)
        (try clear hkp)
        (try clear ho0)
        (try clear ho1)
        (try clear ho2)
        (try clear ho3)
        (try clear ho4)
        (try clear ho5)
        (try clear ho6)
        obtain ⟨Ao27, co27, eo27⟩ := Kd.R_slice HO551.out
        (first | subst eo27 | (injection eo27 with f1_ f2_ f3_; have f4_ := f1_.symm; have f5_ := f3_.symm; clear f1_ f2_ f3_; subst f4_; subst f5_))
        obtain ⟨Ao29, co29, eo29⟩ := Kd.R_slice HO554.out
        (first | subst eo29 | (injection eo29 with f1_ f2_ f3_; have f4_ := f1_.symm; have f5_ := f3_.symm; clear f1_ f2_ f3_; subst f4_; subst f5_))
        obtain ⟨Ao31, co31, eo31⟩ := Kd.R_slice HO557.out
        (first | subst eo31 | (injection eo31 with f1_ f2_ f3_; have f4_ := f1_.symm; have f5_ := f3_.symm; clear f1_ f2_ f3_; subst f4_; subst f5_))
        obtain ⟨Ao33, co33, eo33⟩ := Kd.R_slice HO560.out
        (first | subst eo33 | (injection eo33 with f1_ f2_ f3_; have f4_ := f1_.symm; have f5_ := f3_.symm; clear f1_ f2_ f3_; subst f4_; subst f5_))
        obtain ⟨Ao35, co35, eo35⟩ := Kd.R_slice HO563.out
        (first | subst eo35 | (injection eo35 with f1_ f2_ f3_; have f4_ := f1_.symm; have f5_ := f3_.symm; clear f1_ f2_ f3_; subst f4_; subst f5_))
        obtain ⟨Ao37, co37, eo37⟩ := Kd.R_slice HO566.out
        (first | subst eo37 | (injection eo37 with f1_ f2_ f3_; have f4_ := f1_.symm; have f5_ := f3_.symm; clear f1_ f2_ f3_; subst f4_; subst f5_))
        obtain ⟨Ao39, co39, eo39⟩ := Kd.R_slice HO569.out
        (first | subst eo39 | (injection eo39 with f1_ f2_ f3_; have f4_ := f1_.symm; have f5_ := f3_.symm; clear f1_ f2_ f3_; subst f4_; subst f5_))
        refine hK.out _ _ ⟨(blk_cell BK545.out 0).trans rfl, (blk_cell BK545.out 1).trans rfl, (blk_cell BK545.out 2).trans rfl, (blk_cell BK545.out 3).trans rfl, (blk_cell BK545.out 4).trans rfl, (blk_cell BK545.out 5).trans rfl, (blk_cell BK545.out 6).trans rfl, (blk_cell BK547.out 0).trans rfl, (blk_cell BK547.out 1).trans rfl, ((HB.out.cell (World.block_lt_of_cell? w _ hw548_0)).trans hw548_0)⟩ (fun hHeld => ?_)
        clear hK K
        refine norm_ (a' := ?_) ?_ ?_
        rotate_left
        ·show Act.put _ (some 39) _ = _
         simp only [Act.put, List.setIfInBounds_toArray, List.set_cons_zero, List.set_cons_succ, i64_w, i32_w]
         rfl
        refine last_ (i := 11) (N := none) #[true, true, true, true, true, true, true, true, true, true, true, true] rfl rfl (one_of HT_.out (by kernel_rfl)) (by decide) (fun K hK => ?_)
        have hs28 : w26.cell? ⟨gb545, 0, none⟩ = some (.slice Ao19 x546000_1.length co19) := (blk_cell BK545.out 0).trans rfl
        have hfs28 := blk_frozen BK545.out 0
        have hns28_0 := NB544_545.out
        have hns28_2 := NB547_545.out
        have hms28_0 := NB545_544.out
        have hms28_2 := NB545_547.out
        have hs30 : w26.cell? ⟨gb545, 1, none⟩ = some (.slice Ao20 x546001_1.length co20) := (blk_cell BK545.out 1).trans rfl
        have hfs30 := blk_frozen BK545.out 1
        have hns30_0 := NB544_545.out
        have hns30_2 := NB547_545.out
        have hms30_0 := NB545_544.out
        have hms30_2 := NB545_547.out
        have hs32 : w26.cell? ⟨gb545, 2, none⟩ = some (.slice Ao21 x546002_1.length co21) := (blk_cell BK545.out 2).trans rfl
        have hfs32 := blk_frozen BK545.out 2
        have hns32_0 := NB544_545.out
        have hns32_2 := NB547_545.out
        have hms32_0 := NB545_544.out
        have hms32_2 := NB545_547.out
        have hs34 : w26.cell? ⟨gb545, 3, none⟩ = some (.slice Ao22 x546003_1.length co22) := (blk_cell BK545.out 3).trans rfl
        have hfs34 := blk_frozen BK545.out 3
        have hns34_0 := NB544_545.out
        have hns34_2 := NB547_545.out
        have hms34_0 := NB545_544.out
        have hms34_2 := NB545_547.out
        have hs36 : w26.cell? ⟨gb545, 4, none⟩ = some (.slice Ao23 x546004_1.length co23) := (blk_cell BK545.out 4).trans rfl
        have hfs36 := blk_frozen BK545.out 4
        have hns36_0 := NB544_545.out
        have hns36_2 := NB547_545.out
        have hms36_0 := NB545_544.out
        have hms36_2 := NB545_547.out
        have hs38 : w26.cell? ⟨gb545, 5, none⟩ = some (.slice Ao24 x546005_1.length co24) := (blk_cell BK545.out 5).trans rfl
        have hfs38 := blk_frozen BK545.out 5
        have hns38_0 := NB544_545.out
        have hns38_2 := NB547_545.out
        have hms38_0 := NB545_544.out
        have hms38_2 := NB545_547.out
        have hs40 : w26.cell? ⟨gb545, 6, none⟩ = some (.slice Ao25 x546006_1.length co25) := (blk_cell BK545.out 6).trans rfl
        have hfs40 := blk_frozen BK545.out 6
        have hns40_0 := NB544_545.out
        have hns40_2 := NB547_545.out
        have hms40_0 := NB545_544.out
        have hms40_2 := NB545_547.out
        refine skip_ (w1 := ?_) (by rfl) rfl ?_ ?_
        rotate_left
        ·go_simp
         rfl
        refine hK.out _ _ ?_
        clear hK K
        refine done_ (done_of HT_.out (by kernel_rfl)) ?_
        have hcz41_0 : w26.cell? ⟨gb547, 0, none⟩ = some (.int .i64 x5_1) := (blk_cell BK547.out 0).trans rfl
        have hcz41_1 : w26.cell? ⟨gb547, 1, none⟩ = some (.int .i64 (wrap64 (1 + (Int.tmod (wrap64 (rd l0 x6_1)) 40)))) := (blk_cell BK547.out 1).trans rfl
        have hfz41_0 := blk_frozen BK547.out 0
        have hfz41_1 := blk_frozen BK547.out 1
        try go_wp2
        go_roundg k1
        case measure => have := HK1.out; omega
        case rel => exact ⟨(wrap64 (x5_1 + (wrap64 (1 + (Int.tmod (wrap64 (rd l0 x6_1)) 40))))), (wrap64 (x6_1 + 2)), (t549), (t552), (t555), (t558), (t561), (t564), (t567), (.slice Ao27 t549.length co27), (.slice Ao29 t552.length co29), (.slice Ao31 t555.length co31), (.slice Ao33 t558.length co33), (.slice Ao35 t561.length co35), (.slice Ao37 t564.length co37), (.slice Ao39 t567.length co39), (by first | rfl | (simp; done) | (simp [*]; done)), (by first | rfl | (simp; done) | (simp [*]; done)), H', ⟨by have := HK1.out; omega⟩, ⟨by (with_reducible repeat (first | apply Kd.R_alloc | apply Kd.R_drewN | apply Kd.R_drew)); exact Kd.R_mono (Kd.R_far (p := ⟨gb545, 6, none⟩) (Kd.R_far (p := ⟨gb545, 5, none⟩) (Kd.R_far (p := ⟨gb545, 4, none⟩) (Kd.R_far (p := ⟨gb545, 3, none⟩) (Kd.R_far (p := ⟨gb545, 2, none⟩) (Kd.R_far (p := ⟨gb545, 1, none⟩) (Kd.R_far (p := ⟨gb545, 0, none⟩) (Kd.R_types HO551.out BK545.out (by decide)) (fun _ hk => hk.2) (.slice Ao27 t549.length co27)) (fun _ hk => hk.2) (.slice Ao29 t552.length co29)) (fun _ hk => hk.2) (.slice Ao31 t555.length co31)) (fun _ hk => hk.2) (.slice Ao33 t558.length co33)) (fun _ hk => hk.2) (.slice Ao35 t561.length co35)) (fun _ hk => hk.2) (.slice Ao37 t564.length co37)) (fun _ hk => hk.2) (.slice Ao39 t567.length co39)) (fun _ hk => ⟨hk.1.1, ⟨hk.1.2.1, ⟨hk.1.2.2.1, ⟨hk.1.2.2.2.1, ⟨hk.1.2.2.2.2.1, hk.1.2.2.2.2.2.1⟩⟩⟩⟩⟩)⟩, ⟨by (with_reducible repeat (first | apply Kd.R_alloc | apply Kd.R_drewN | apply Kd.R_drew)); exact Kd.R_mono (Kd.R_far (p := ⟨gb545, 6, none⟩) (Kd.R_far (p := ⟨gb545, 5, none⟩) (Kd.R_far (p := ⟨gb545, 4, none⟩) (Kd.R_far (p := ⟨gb545, 3, none⟩) (Kd.R_far (p := ⟨gb545, 2, none⟩) (Kd.R_far (p := ⟨gb545, 1, none⟩) (Kd.R_far (p := ⟨gb545, 0, none⟩) (Kd.R_types HO554.out BK545.out (by decide)) (fun _ hk => hk.2) (.slice Ao27 t549.length co27)) (fun _ hk => hk.2) (.slice Ao29 t552.length co29)) (fun _ hk => hk.2) (.slice Ao31 t555.length co31)) (fun _ hk => hk.2) (.slice Ao33 t558.length co33)) (fun _ hk => hk.2) (.slice Ao35 t561.length co35)) (fun _ hk => hk.2) (.slice Ao37 t564.length co37)) (fun _ hk => hk.2) (.slice Ao39 t567.length co39)) (fun _ hk => ⟨hk.1.1, ⟨hk.1.2.1, ⟨hk.1.2.2.1, ⟨hk.1.2.2.2.1, ⟨hk.1.2.2.2.2.1, hk.1.2.2.2.2.2.1⟩⟩⟩⟩⟩)⟩, ⟨by (with_reducible repeat (first | apply Kd.R_alloc | apply Kd.R_drewN | apply Kd.R_drew)); exact Kd.R_mono (Kd.R_far (p := ⟨gb545, 6, none⟩) (Kd.R_far (p := ⟨gb545, 5, none⟩) (Kd.R_far (p := ⟨gb545, 4, none⟩) (Kd.R_far (p := ⟨gb545, 3, none⟩) (Kd.R_far (p := ⟨gb545, 2, none⟩) (Kd.R_far (p := ⟨gb545, 1, none⟩) (Kd.R_far (p := ⟨gb545, 0, none⟩) (Kd.R_types HO557.out BK545.out (by decide)) (fun _ hk => hk.2) (.slice Ao27 t549.length co27)) (fun _ hk => hk.2) (.slice Ao29 t552.length co29)) (fun _ hk => hk.2) (.slice Ao31 t555.length co31)) (fun _ hk => hk.2) (.slice Ao33 t558.length co33)) (fun _ hk => hk.2) (.slice Ao35 t561.length co35)) (fun _ hk => hk.2) (.slice Ao37 t564.length co37)) (fun _ hk => hk.2) (.slice Ao39 t567.length co39)) (fun _ hk => ⟨hk.1.1, ⟨hk.1.2.1, ⟨hk.1.2.2.1, ⟨hk.1.2.2.2.1, ⟨hk.1.2.2.2.2.1, hk.1.2.2.2.2.2.1⟩⟩⟩⟩⟩)⟩, ⟨by (with_reducible repeat (first | apply Kd.R_alloc | apply Kd.R_drewN | apply Kd.R_drew)); exact Kd.R_mono (Kd.R_far (p := ⟨gb545, 6, none⟩) (Kd.R_far (p := ⟨gb545, 5, none⟩) (Kd.R_far (p := ⟨gb545, 4, none⟩) (Kd.R_far (p := ⟨gb545, 3, none⟩) (Kd.R_far (p := ⟨gb545, 2, none⟩) (Kd.R_far (p := ⟨gb545, 1, none⟩) (Kd.R_far (p := ⟨gb545, 0, none⟩) (Kd.R_types HO560.out BK545.out (by decide)) (fun _ hk => hk.2) (.slice Ao27 t549.length co27)) (fun _ hk => hk.2) (.slice Ao29 t552.length co29)) (fun _ hk => hk.2) (.slice Ao31 t555.length co31)) (fun _ hk => hk.2) (.slice Ao33 t558.length co33)) (fun _ hk => hk.2) (.slice Ao35 t561.length co35)) (fun _ hk => hk.2) (.slice Ao37 t564.length co37)) (fun _ hk => hk.2) (.slice Ao39 t567.length co39)) (fun _ hk => ⟨hk.1.1, ⟨hk.1.2.1, ⟨hk.1.2.2.1, ⟨hk.1.2.2.2.1, ⟨hk.1.2.2.2.2.1, hk.1.2.2.2.2.2.1⟩⟩⟩⟩⟩)⟩, ⟨by (with_reducible repeat (first | apply Kd.R_alloc | apply Kd.R_drewN | apply Kd.R_drew)); exact Kd.R_mono (Kd.R_far (p := ⟨gb545, 6, none⟩) (Kd.R_far (p := ⟨gb545, 5, none⟩) (Kd.R_far (p := ⟨gb545, 4, none⟩) (Kd.R_far (p := ⟨gb545, 3, none⟩) (Kd.R_far (p := ⟨gb545, 2, none⟩) (Kd.R_far (p := ⟨gb545, 1, none⟩) (Kd.R_far (p := ⟨gb545, 0, none⟩) (Kd.R_types HO563.out BK545.out (by decide)) (fun _ hk => hk.2) (.slice Ao27 t549.length co27)) (fun _ hk => hk.2) (.slice Ao29 t552.length co29)) (fun _ hk => hk.2) (.slice Ao31 t555.length co31)) (fun _ hk => hk.2) (.slice Ao33 t558.length co33)) (fun _ hk => hk.2) (.slice Ao35 t561.length co35)) (fun _ hk => hk.2) (.slice Ao37 t564.length co37)) (fun _ hk => hk.2) (.slice Ao39 t567.length co39)) (fun _ hk => ⟨hk.1.1, ⟨hk.1.2.1, ⟨hk.1.2.2.1, ⟨hk.1.2.2.2.1, ⟨hk.1.2.2.2.2.1, hk.1.2.2.2.2.2.1⟩⟩⟩⟩⟩)⟩, ⟨by (with_reducible repeat (first | apply Kd.R_alloc | apply Kd.R_drewN | apply Kd.R_drew)); exact Kd.R_mono (Kd.R_far (p := ⟨gb545, 6, none⟩) (Kd.R_far (p := ⟨gb545, 5, none⟩) (Kd.R_far (p := ⟨gb545, 4, none⟩) (Kd.R_far (p := ⟨gb545, 3, none⟩) (Kd.R_far (p := ⟨gb545, 2, none⟩) (Kd.R_far (p := ⟨gb545, 1, none⟩) (Kd.R_far (p := ⟨gb545, 0, none⟩) (Kd.R_types HO566.out BK545.out (by decide)) (fun _ hk => hk.2) (.slice Ao27 t549.length co27)) (fun _ hk => hk.2) (.slice Ao29 t552.length co29)) (fun _ hk => hk.2) (.slice Ao31 t555.length co31)) (fun _ hk => hk.2) (.slice Ao33 t558.length co33)) (fun _ hk => hk.2) (.slice Ao35 t561.length co35)) (fun _ hk => hk.2) (.slice Ao37 t564.length co37)) (fun _ hk => hk.2) (.slice Ao39 t567.length co39)) (fun _ hk => ⟨hk.1.1, ⟨hk.1.2.1, ⟨hk.1.2.2.1, ⟨hk.1.2.2.2.1, ⟨hk.1.2.2.2.2.1, hk.1.2.2.2.2.2.1⟩⟩⟩⟩⟩)⟩, ⟨by (with_reducible repeat (first | apply Kd.R_alloc | apply Kd.R_drewN | apply Kd.R_drew)); exact Kd.R_mono (Kd.R_far (p := ⟨gb545, 6, none⟩) (Kd.R_far (p := ⟨gb545, 5, none⟩) (Kd.R_far (p := ⟨gb545, 4, none⟩) (Kd.R_far (p := ⟨gb545, 3, none⟩) (Kd.R_far (p := ⟨gb545, 2, none⟩) (Kd.R_far (p := ⟨gb545, 1, none⟩) (Kd.R_far (p := ⟨gb545, 0, none⟩) (Kd.R_types HO569.out BK545.out (by decide)) (fun _ hk => hk.2) (.slice Ao27 t549.length co27)) (fun _ hk => hk.2) (.slice Ao29 t552.length co29)) (fun _ hk => hk.2) (.slice Ao31 t555.length co31)) (fun _ hk => hk.2) (.slice Ao33 t558.length co33)) (fun _ hk => hk.2) (.slice Ao35 t561.length co35)) (fun _ hk => hk.2) (.slice Ao37 t564.length co37)) (fun _ hk => hk.2) (.slice Ao39 t567.length co39)) (fun _ hk => ⟨hk.1.1, ⟨hk.1.2.1, ⟨hk.1.2.2.1, ⟨hk.1.2.2.2.1, ⟨hk.1.2.2.2.2.1, hk.1.2.2.2.2.2.1⟩⟩⟩⟩⟩)⟩, ⟨by (with_reducible repeat (first | refine blk_drewN ?_ _ | refine blk_drew ?_ | refine blk_alloc ?_ _)); refine blk_far ?_ NB544_545.out _; (with_reducible repeat (first | refine blk_drewN ?_ _ | refine blk_drew ?_ | refine blk_alloc ?_ _)); refine blk_far ?_ NB544_545.out _; (with_reducible repeat (first | refine blk_drewN ?_ _ | refine blk_drew ?_ | refine blk_alloc ?_ _)); refine blk_far ?_ NB544_545.out _; (with_reducible repeat (first | refine blk_drewN ?_ _ | refine blk_drew ?_ | refine blk_alloc ?_ _)); refine blk_far ?_ NB544_545.out _; (with_reducible repeat (first | refine blk_drewN ?_ _ | refine blk_drew ?_ | refine blk_alloc ?_ _)); refine blk_far ?_ NB544_545.out _; (with_reducible repeat (first | refine blk_drewN ?_ _ | refine blk_drew ?_ | refine blk_alloc ?_ _)); refine blk_far ?_ NB544_545.out _; (with_reducible repeat (first | refine blk_drewN ?_ _ | refine blk_drew ?_ | refine blk_alloc ?_ _)); refine blk_far ?_ NB544_545.out _; (with_reducible repeat (first | refine blk_drewN ?_ _ | refine blk_drew ?_ | refine blk_alloc ?_ _)); exact BK544.out⟩, ⟨by (with_reducible repeat (first | refine blk_drewN ?_ _ | refine blk_drew ?_ | refine blk_alloc ?_ _)); refine blk_put (cs := #[.slice Ao27 t549.length co27, .slice Ao29 t552.length co29, .slice Ao31 t555.length co31, .slice Ao33 t558.length co33, .slice Ao35 t561.length co35, .slice Ao37 t564.length co37, .slice Ao25 x546006_1.length co25]) ?_ 6 _ rfl; (with_reducible repeat (first | refine blk_drewN ?_ _ | refine blk_drew ?_ | refine blk_alloc ?_ _)); refine blk_put (cs := #[.slice Ao27 t549.length co27, .slice Ao29 t552.length co29, .slice Ao31 t555.length co31, .slice Ao33 t558.length co33, .slice Ao35 t561.length co35, .slice Ao24 x546005_1.length co24, .slice Ao25 x546006_1.length co25]) ?_ 5 _ rfl; (with_reducible repeat (first | refine blk_drewN ?_ _ | refine blk_drew ?_ | refine blk_alloc ?_ _)); refine blk_put (cs := #[.slice Ao27 t549.length co27, .slice Ao29 t552.length co29, .slice Ao31 t555.length co31, .slice Ao33 t558.length co33, .slice Ao23 x546004_1.length co23, .slice Ao24 x546005_1.length co24, .slice Ao25 x546006_1.length co25]) ?_ 4 _ rfl; (with_reducible repeat (first | refine blk_drewN ?_ _ | refine blk_drew ?_ | refine blk_alloc ?_ _)); refine blk_put (cs := #[.slice Ao27 t549.length co27, .slice Ao29 t552.length co29, .slice Ao31 t555.length co31, .slice Ao22 x546003_1.length co22, .slice Ao23 x546004_1.length co23, .slice Ao24 x546005_1.length co24, .slice Ao25 x546006_1.length co25]) ?_ 3 _ rfl; (with_reducible repeat (first | refine blk_drewN ?_ _ | refine blk_drew ?_ | refine blk_alloc ?_ _)); refine blk_put (cs := #[.slice Ao27 t549.length co27, .slice Ao29 t552.length co29, .slice Ao21 x546002_1.length co21, .slice Ao22 x546003_1.length co22, .slice Ao23 x546004_1.length co23, .slice Ao24 x546005_1.length co24, .slice Ao25 x546006_1.length co25]) ?_ 2 _ rfl; (with_reducible repeat (first | refine blk_drewN ?_ _ | refine blk_drew ?_ | refine blk_alloc ?_ _)); refine blk_put (cs := #[.slice Ao27 t549.length co27, .slice Ao20 x546001_1.length co20, .slice Ao21 x546002_1.length co21, .slice Ao22 x546003_1.length co22, .slice Ao23 x546004_1.length co23, .slice Ao24 x546005_1.length co24, .slice Ao25 x546006_1.length co25]) ?_ 1 _ rfl; (with_reducible repeat (first | refine blk_drewN ?_ _ | refine blk_drew ?_ | refine blk_alloc ?_ _)); refine blk_put (cs := #[.slice Ao19 x546000_1.length co19, .slice Ao20 x546001_1.length co20, .slice Ao21 x546002_1.length co21, .slice Ao22 x546003_1.length co22, .slice Ao23 x546004_1.length co23, .slice Ao24 x546005_1.length co24, .slice Ao25 x546006_1.length co25]) ?_ 0 _ rfl; (with_reducible repeat (first | refine blk_drewN ?_ _ | refine blk_drew ?_ | refine blk_alloc ?_ _)); exact BK545.out⟩, ⟨by repeat (first | (with_reducible first | exact HB.out | apply below_alloc | apply pw_below_drewN | apply below_drew1 | refine below_set ?_ GE544.out | refine below_set ?_ GE545.out | refine below_set ?_ GE547.out) | exact HB.out)⟩⟩
       ·rw [if_neg c11] at H
        exact absurd H (by simp)
      ·rw [if_neg c9] at H
       exact absurd H (by simp)
     ·rw [if_neg c8] at H
      exact absurd H (by simp)
    ·rw [if_neg c7] at H
     have c7b0 : decide (x6_1 < 200) = false := decide_eq_false c7
     clear c7
     simp only [Option.some.injEq, Prod.mk.injEq] at H
     obtain ⟨rfl, rfl, rfl, rfl, rfl, rfl, rfl, rfl⟩ := H
     have hnb42 := NB545_544.out
     have hnc42 := NB544_545.out
     have hcz43_0 : wr.cell? ⟨gb545, 0, none⟩ = some (u546000) := (blk_cell BK545.out 0).trans rfl
     have hcz43_1 : wr.cell? ⟨gb545, 1, none⟩ = some (u546001) := (blk_cell BK545.out 1).trans rfl
     have hcz43_2 : wr.cell? ⟨gb545, 2, none⟩ = some (u546002) := (blk_cell BK545.out 2).trans rfl
     have hcz43_3 : wr.cell? ⟨gb545, 3, none⟩ = some (u546003) := (blk_cell BK545.out 3).trans rfl
     have hcz43_4 : wr.cell? ⟨gb545, 4, none⟩ = some (u546004) := (blk_cell BK545.out 4).trans rfl
     have hcz43_5 : wr.cell? ⟨gb545, 5, none⟩ = some (u546005) := (blk_cell BK545.out 5).trans rfl
     have hcz43_6 : wr.cell? ⟨gb545, 6, none⟩ = some (u546006) := (blk_cell BK545.out 6).trans rfl
     have hfz43_0 := blk_frozen BK545.out 0
     have hfz43_1 := blk_frozen BK545.out 1
     have hfz43_2 := blk_frozen BK545.out 2
     have hfz43_3 := blk_frozen BK545.out 3
     have hfz43_4 := blk_frozen BK545.out 4
     have hfz43_5 := blk_frozen BK545.out 5
     have hfz43_6 := blk_frozen BK545.out 6
     obtain ⟨Ao44, co44, eo44⟩ := Kd.R_slice HO_546000.out
     subst eo44
     have hcz45_0 : wr.cell? ⟨gb544, 0, none⟩ = some (.slice none 0 0) := (blk_cell BK544.out 0).trans rfl
     have hcz45_1 : wr.cell? ⟨gb544, 1, none⟩ = some (.slice none 0 0) := (blk_cell BK544.out 1).trans rfl
     have hcz45_2 : wr.cell? ⟨gb544, 2, none⟩ = some (.slice none 0 0) := (blk_cell BK544.out 2).trans rfl
     have hcz45_3 : wr.cell? ⟨gb544, 3, none⟩ = some (.slice none 0 0) := (blk_cell BK544.out 3).trans rfl
     have hcz45_4 : wr.cell? ⟨gb544, 4, none⟩ = some (.slice none 0 0) := (blk_cell BK544.out 4).trans rfl
     have hcz45_5 : wr.cell? ⟨gb544, 5, none⟩ = some (.slice none 0 0) := (blk_cell BK544.out 5).trans rfl
     have hcz45_6 : wr.cell? ⟨gb544, 6, none⟩ = some (.slice none 0 0) := (blk_cell BK544.out 6).trans rfl
     have hfz45_0 := blk_frozen BK544.out 0
     have hfz45_1 := blk_frozen BK544.out 1
     have hfz45_2 := blk_frozen BK544.out 2
     have hfz45_3 := blk_frozen BK544.out 3
     have hfz45_4 := blk_frozen BK544.out 4
     have hfz45_5 := blk_frozen BK544.out 5
     have hfz45_6 := blk_frozen BK544.out 6
     obtain ⟨Ao46, co46, eo46⟩ := Kd.R_slice HO_546001.out
     subst eo46
     obtain ⟨Ao47, co47, eo47⟩ := Kd.R_slice HO_546002.out
     subst eo47
     obtain ⟨Ao48, co48, eo48⟩ := Kd.R_slice HO_546003.out
     subst eo48
     obtain ⟨Ao49, co49, eo49⟩ := Kd.R_slice HO_546004.out
     subst eo49
     obtain ⟨Ao50, co50, eo50⟩ := Kd.R_slice HO_546005.out
     subst eo50
     obtain ⟨Ao51, co51, eo51⟩ := Kd.R_slice HO_546006.out
     subst eo51
     go_wp2
     refine bodyPost_ret (results_ct rfl _ _ gb544 46 #[.slice Ao44 x546000_1.length co44, .slice Ao46 x546001_1.length co46, .slice Ao47 x546002_1.length co47, .slice Ao48 x546003_1.length co48, .slice Ao49 x546004_1.length co49, .slice Ao50 x546005_1.length co50, .slice Ao51 x546006_1.length co51] (0, 0) _ rfl (by (with_reducible repeat (first | refine blk_drewN ?_ _ | refine blk_drew ?_ | refine blk_alloc ?_ _)); refine blk_put (cs := #[.slice Ao44 x546000_1.length co44, .slice Ao46 x546001_1.length co46, .slice Ao47 x546002_1.length co47, .slice Ao48 x546003_1.length co48, .slice Ao49 x546004_1.length co49, .slice Ao50 x546005_1.length co50, .slice none 0 0]) ?_ 6 _ rfl; (with_reducible repeat (first | refine blk_drewN ?_ _ | refine blk_drew ?_ | refine blk_alloc ?_ _)); refine blk_put (cs := #[.slice Ao44 x546000_1.length co44, .slice Ao46 x546001_1.length co46, .slice Ao47 x546002_1.length co47, .slice Ao48 x546003_1.length co48, .slice Ao49 x546004_1.length co49, .slice none 0 0, .slice none 0 0]) ?_ 5 _ rfl; (with_reducible repeat (first | refine blk_drewN ?_ _ | refine blk_drew ?_ | refine blk_alloc ?_ _)); refine blk_put (cs := #[.slice Ao44 x546000_1.length co44, .slice Ao46 x546001_1.length co46, .slice Ao47 x546002_1.length co47, .slice Ao48 x546003_1.length co48, .slice none 0 0, .slice none 0 0, .slice none 0 0]) ?_ 4 _ rfl; (with_reducible repeat (first | refine blk_drewN ?_ _ | refine blk_drew ?_ | refine blk_alloc ?_ _)); refine blk_put (cs := #[.slice Ao44 x546000_1.length co44, .slice Ao46 x546001_1.length co46, .slice Ao47 x546002_1.length co47, .slice none 0 0, .slice none 0 0, .slice none 0 0, .slice none 0 0]) ?_ 3 _ rfl; (with_reducible repeat (first | refine blk_drewN ?_ _ | refine blk_drew ?_ | refine blk_alloc ?_ _)); refine blk_put (cs := #[.slice Ao44 x546000_1.length co44, .slice Ao46 x546001_1.length co46, .slice none 0 0, .slice none 0 0, .slice none 0 0, .slice none 0 0, .slice none 0 0]) ?_ 2 _ rfl; (with_reducible repeat (first | refine blk_drewN ?_ _ | refine blk_drew ?_ | refine blk_alloc ?_ _)); refine blk_put (cs := #[.slice Ao44 x546000_1.length co44, .slice none 0 0, .slice none 0 0, .slice none 0 0, .slice none 0 0, .slice none 0 0, .slice none 0 0]) ?_ 1 _ rfl; (with_reducible repeat (first | refine blk_drewN ?_ _ | refine blk_drew ?_ | refine blk_alloc ?_ _)); refine blk_put (cs := #[.slice none 0 0, .slice none 0 0, .slice none 0 0, .slice none 0 0, .slice none 0 0, .slice none 0 0, .slice none 0 0]) ?_ 0 _ rfl; (with_reducible repeat (first | refine blk_drewN ?_ _ | refine blk_drew ?_ | refine blk_alloc ?_ _)); exact BK544.out) Try.underlying46 rfl (by kernel_rfl)) rfl ?_
     exact ⟨_, _, _, _, _, _, _, by first | rfl | (simp [errW_none, errW_some] <;> rfl) | (simp [*, errW_none, errW_some] <;> rfl), by (with_reducible repeat (first | apply Kd.R_alloc | apply Kd.R_drewN | apply Kd.R_drew)); exact Kd.R_mono (Kd.R_far (p := ⟨gb544, 6, none⟩) (Kd.R_far (p := ⟨gb544, 5, none⟩) (Kd.R_far (p := ⟨gb544, 4, none⟩) (Kd.R_far (p := ⟨gb544, 3, none⟩) (Kd.R_far (p := ⟨gb544, 2, none⟩) (Kd.R_far (p := ⟨gb544, 1, none⟩) (Kd.R_far (p := ⟨gb544, 0, none⟩) (Kd.R_types HO_546000.out BK544.out (by decide)) (fun _ hk => hk.2) (.slice Ao44 x546000_1.length co44)) (fun _ hk => hk.2) (.slice Ao46 x546001_1.length co46)) (fun _ hk => hk.2) (.slice Ao47 x546002_1.length co47)) (fun _ hk => hk.2) (.slice Ao48 x546003_1.length co48)) (fun _ hk => hk.2) (.slice Ao49 x546004_1.length co49)) (fun _ hk => hk.2) (.slice Ao50 x546005_1.length co50)) (fun _ hk => hk.2) (.slice Ao51 x546006_1.length co51)) (fun _ hk => ⟨hk.1.1, ⟨hk.1.2.1, ⟨hk.1.2.2.1, ⟨hk.1.2.2.2.1, ⟨hk.1.2.2.2.2.1, hk.1.2.2.2.2.2⟩⟩⟩⟩⟩), by (with_reducible repeat (first | apply Kd.R_alloc | apply Kd.R_drewN | apply Kd.R_drew)); exact Kd.R_mono (Kd.R_far (p := ⟨gb544, 6, none⟩) (Kd.R_far (p := ⟨gb544, 5, none⟩) (Kd.R_far (p := ⟨gb544, 4, none⟩) (Kd.R_far (p := ⟨gb544, 3, none⟩) (Kd.R_far (p := ⟨gb544, 2, none⟩) (Kd.R_far (p := ⟨gb544, 1, none⟩) (Kd.R_far (p := ⟨gb544, 0, none⟩) (Kd.R_types HO_546001.out BK544.out (by decide)) (fun _ hk => hk.2) (.slice Ao44 x546000_1.length co44)) (fun _ hk => hk.2) (.slice Ao46 x546001_1.length co46)) (fun _ hk => hk.2) (.slice Ao47 x546002_1.length co47)) (fun _ hk => hk.2) (.slice Ao48 x546003_1.length co48)) (fun _ hk => hk.2) (.slice Ao49 x546004_1.length co49)) (fun _ hk => hk.2) (.slice Ao50 x546005_1.length co50)) (fun _ hk => hk.2) (.slice Ao51 x546006_1.length co51)) (fun _ hk => ⟨hk.1.1, ⟨hk.1.2.1, ⟨hk.1.2.2.1, ⟨hk.1.2.2.2.1, ⟨hk.1.2.2.2.2.1, hk.1.2.2.2.2.2⟩⟩⟩⟩⟩), by (with_reducible repeat (first | apply Kd.R_alloc | apply Kd.R_drewN | apply Kd.R_drew)); exact Kd.R_mono (Kd.R_far (p := ⟨gb544, 6, none⟩) (Kd.R_far (p := ⟨gb544, 5, none⟩) (Kd.R_far (p := ⟨gb544, 4, none⟩) (Kd.R_far (p := ⟨gb544, 3, none⟩) (Kd.R_far (p := ⟨gb544, 2, none⟩) (Kd.R_far (p := ⟨gb544, 1, none⟩) (Kd.R_far (p := ⟨gb544, 0, none⟩) (Kd.R_types HO_546002.out BK544.out (by decide)) (fun _ hk => hk.2) (.slice Ao44 x546000_1.length co44)) (fun _ hk => hk.2) (.slice Ao46 x546001_1.length co46)) (fun _ hk => hk.2) (.slice Ao47 x546002_1.length co47)) (fun _ hk => hk.2) (.slice Ao48 x546003_1.length co48)) (fun _ hk => hk.2) (.slice Ao49 x546004_1.length co49)) (fun _ hk => hk.2) (.slice Ao50 x546005_1.length co50)) (fun _ hk => hk.2) (.slice Ao51 x546006_1.length co51)) (fun _ hk => ⟨hk.1.1, ⟨hk.1.2.1, ⟨hk.1.2.2.1, ⟨hk.1.2.2.2.1, ⟨hk.1.2.2.2.2.1, hk.1.2.2.2.2.2⟩⟩⟩⟩⟩), by (with_reducible repeat (first | apply Kd.R_alloc | apply Kd.R_drewN | apply Kd.R_drew)); exact Kd.R_mono (Kd.R_far (p := ⟨gb544, 6, none⟩) (Kd.R_far (p := ⟨gb544, 5, none⟩) (Kd.R_far (p := ⟨gb544, 4, none⟩) (Kd.R_far (p := ⟨gb544, 3, none⟩) (Kd.R_far (p := ⟨gb544, 2, none⟩) (Kd.R_far (p := ⟨gb544, 1, none⟩) (Kd.R_far (p := ⟨gb544, 0, none⟩) (Kd.R_types HO_546003.out BK544.out (by decide)) (fun _ hk => hk.2) (.slice Ao44 x546000_1.length co44)) (fun _ hk => hk.2) (.slice Ao46 x546001_1.length co46)) (fun _ hk => hk.2) (.slice Ao47 x546002_1.length co47)) (fun _ hk => hk.2) (.slice Ao48 x546003_1.length co48)) (fun _ hk => hk.2) (.slice Ao49 x546004_1.length co49)) (fun _ hk => hk.2) (.slice Ao50 x546005_1.length co50)) (fun _ hk => hk.2) (.slice Ao51 x546006_1.length co51)) (fun _ hk => ⟨hk.1.1, ⟨hk.1.2.1, ⟨hk.1.2.2.1, ⟨hk.1.2.2.2.1, ⟨hk.1.2.2.2.2.1, hk.1.2.2.2.2.2⟩⟩⟩⟩⟩), by (with_reducible repeat (first | apply Kd.R_alloc | apply Kd.R_drewN | apply Kd.R_drew)); exact Kd.R_mono (Kd.R_far (p := ⟨gb544, 6, none⟩) (Kd.R_far (p := ⟨gb544, 5, none⟩) (Kd.R_far (p := ⟨gb544, 4, none⟩) (Kd.R_far (p := ⟨gb544, 3, none⟩) (Kd.R_far (p := ⟨gb544, 2, none⟩) (Kd.R_far (p := ⟨gb544, 1, none⟩) (Kd.R_far (p := ⟨gb544, 0, none⟩) (Kd.R_types HO_546004.out BK544.out (by decide)) (fun _ hk => hk.2) (.slice Ao44 x546000_1.length co44)) (fun _ hk => hk.2) (.slice Ao46 x546001_1.length co46)) (fun _ hk => hk.2) (.slice Ao47 x546002_1.length co47)) (fun _ hk => hk.2) (.slice Ao48 x546003_1.length co48)) (fun _ hk => hk.2) (.slice Ao49 x546004_1.length co49)) (fun _ hk => hk.2) (.slice Ao50 x546005_1.length co50)) (fun _ hk => hk.2) (.slice Ao51 x546006_1.length co51)) (fun _ hk => ⟨hk.1.1, ⟨hk.1.2.1, ⟨hk.1.2.2.1, ⟨hk.1.2.2.2.1, ⟨hk.1.2.2.2.2.1, hk.1.2.2.2.2.2⟩⟩⟩⟩⟩), by (with_reducible repeat (first | apply Kd.R_alloc | apply Kd.R_drewN | apply Kd.R_drew)); exact Kd.R_mono (Kd.R_far (p := ⟨gb544, 6, none⟩) (Kd.R_far (p := ⟨gb544, 5, none⟩) (Kd.R_far (p := ⟨gb544, 4, none⟩) (Kd.R_far (p := ⟨gb544, 3, none⟩) (Kd.R_far (p := ⟨gb544, 2, none⟩) (Kd.R_far (p := ⟨gb544, 1, none⟩) (Kd.R_far (p := ⟨gb544, 0, none⟩) (Kd.R_types HO_546005.out BK544.out (by decide)) (fun _ hk => hk.2) (.slice Ao44 x546000_1.length co44)) (fun _ hk => hk.2) (.slice Ao46 x546001_1.length co46)) (fun _ hk => hk.2) (.slice Ao47 x546002_1.length co47)) (fun _ hk => hk.2) (.slice Ao48 x546003_1.length co48)) (fun _ hk => hk.2) (.slice Ao49 x546004_1.length co49)) (fun _ hk => hk.2) (.slice Ao50 x546005_1.length co50)) (fun _ hk => hk.2) (.slice Ao51 x546006_1.length co51)) (fun _ hk => ⟨hk.1.1, ⟨hk.1.2.1, ⟨hk.1.2.2.1, ⟨hk.1.2.2.2.1, ⟨hk.1.2.2.2.2.1, hk.1.2.2.2.2.2⟩⟩⟩⟩⟩), by (with_reducible repeat (first | apply Kd.R_alloc | apply Kd.R_drewN | apply Kd.R_drew)); exact Kd.R_mono (Kd.R_far (p := ⟨gb544, 6, none⟩) (Kd.R_far (p := ⟨gb544, 5, none⟩) (Kd.R_far (p := ⟨gb544, 4, none⟩) (Kd.R_far (p := ⟨gb544, 3, none⟩) (Kd.R_far (p := ⟨gb544, 2, none⟩) (Kd.R_far (p := ⟨gb544, 1, none⟩) (Kd.R_far (p := ⟨gb544, 0, none⟩) (Kd.R_types HO_546006.out BK544.out (by decide)) (fun _ hk => hk.2) (.slice Ao44 x546000_1.length co44)) (fun _ hk => hk.2) (.slice Ao46 x546001_1.length co46)) (fun _ hk => hk.2) (.slice Ao47 x546002_1.length co47)) (fun _ hk => hk.2) (.slice Ao48 x546003_1.length co48)) (fun _ hk => hk.2) (.slice Ao49 x546004_1.length co49)) (fun _ hk => hk.2) (.slice Ao50 x546005_1.length co50)) (fun _ hk => hk.2) (.slice Ao51 x546006_1.length co51)) (fun _ hk => ⟨hk.1.1, ⟨hk.1.2.1, ⟨hk.1.2.2.1, ⟨hk.1.2.2.2.1, ⟨hk.1.2.2.2.2.1, hk.1.2.2.2.2.2⟩⟩⟩⟩⟩), by repeat (first | (with_reducible first | exact HB.out | apply below_alloc | apply pw_below_drewN | apply below_drew1 | refine below_set ?_ GE544.out | refine below_set ?_ GE545.out) | exact HB.out)⟩
   ·rw [if_neg c6] at H
    have c6b0 : decide ((wrap64 (x6_1 + 1)) < (l0.length : Int)) = false := decide_eq_false c6
    clear c6
    simp only [Option.some.injEq, Prod.mk.injEq] at H
    obtain ⟨rfl, rfl, rfl, rfl, rfl, rfl, rfl, rfl⟩ := H
    have hnb52 := NB545_544.out
    have hnc52 := NB544_545.out
    have hcz53_0 : wr.cell? ⟨gb545, 0, none⟩ = some (u546000) := (blk_cell BK545.out 0).trans rfl
    have hcz53_1 : wr.cell? ⟨gb545, 1, none⟩ = some (u546001) := (blk_cell BK545.out 1).trans rfl
    have hcz53_2 : wr.cell? ⟨gb545, 2, none⟩ = some (u546002) := (blk_cell BK545.out 2).trans rfl
    have hcz53_3 : wr.cell? ⟨gb545, 3, none⟩ = some (u546003) := (blk_cell BK545.out 3).trans rfl
    have hcz53_4 : wr.cell? ⟨gb545, 4, none⟩ = some (u546004) := (blk_cell BK545.out 4).trans rfl
    have hcz53_5 : wr.cell? ⟨gb545, 5, none⟩ = some (u546005) := (blk_cell BK545.out 5).trans rfl
    have hcz53_6 : wr.cell? ⟨gb545, 6, none⟩ = some (u546006) := (blk_cell BK545.out 6).trans rfl
    have hfz53_0 := blk_frozen BK545.out 0
    have hfz53_1 := blk_frozen BK545.out 1
    have hfz53_2 := blk_frozen BK545.out 2
    have hfz53_3 := blk_frozen BK545.out 3
    have hfz53_4 := blk_frozen BK545.out 4
    have hfz53_5 := blk_frozen BK545.out 5
    have hfz53_6 := blk_frozen BK545.out 6
    obtain ⟨Ao54, co54, eo54⟩ := Kd.R_slice HO_546000.out
    subst eo54
    have hcz55_0 : wr.cell? ⟨gb544, 0, none⟩ = some (.slice none 0 0) := (blk_cell BK544.out 0).trans rfl
    have hcz55_1 : wr.cell? ⟨gb544, 1, none⟩ = some (.slice none 0 0) := (blk_cell BK544.out 1).trans rfl
    have hcz55_2 : wr.cell? ⟨gb544, 2, none⟩ = some (.slice none 0 0) := (blk_cell BK544.out 2).trans rfl
    have hcz55_3 : wr.cell? ⟨gb544, 3, none⟩ = some (.slice none 0 0) := (blk_cell BK544.out 3).trans rfl
    have hcz55_4 : wr.cell? ⟨gb544, 4, none⟩ = some (.slice none 0 0) := (blk_cell BK544.out 4).trans rfl
    have hcz55_5 : wr.cell? ⟨gb544, 5, none⟩ = some (.slice none 0 0) := (blk_cell BK544.out 5).trans rfl
    have hcz55_6 : wr.cell? ⟨gb544, 6, none⟩ = some (.slice none 0 0) := (blk_cell BK544.out 6).trans rfl
    have hfz55_0 := blk_frozen BK544.out 0
    have hfz55_1 := blk_frozen BK544.out 1
    have hfz55_2 := blk_frozen BK544.out 2
    have hfz55_3 := blk_frozen BK544.out 3
    have hfz55_4 := blk_frozen BK544.out 4
    have hfz55_5 := blk_frozen BK544.out 5
    have hfz55_6 := blk_frozen BK544.out 6
    obtain ⟨Ao56, co56, eo56⟩ := Kd.R_slice HO_546001.out
    subst eo56
    obtain ⟨Ao57, co57, eo57⟩ := Kd.R_slice HO_546002.out
    subst eo57
    obtain ⟨Ao58, co58, eo58⟩ := Kd.R_slice HO_546003.out
    subst eo58
    obtain ⟨Ao59, co59, eo59⟩ := Kd.R_slice HO_546004.out
    subst eo59
    obtain ⟨Ao60, co60, eo60⟩ := Kd.R_slice HO_546005.out
    subst eo60
    obtain ⟨Ao61, co61, eo61⟩ := Kd.R_slice HO_546006.out
    subst eo61
    go_wp2
    refine bodyPost_ret (results_ct rfl _ _ gb544 46 #[.slice Ao54 x546000_1.length co54, .slice Ao56 x546001_1.length co56, .slice Ao57 x546002_1.length co57, .slice Ao58 x546003_1.length co58, .slice Ao59 x546004_1.length co59, .slice Ao60 x546005_1.length co60, .slice Ao61 x546006_1.length co61] (0, 0) _ rfl (by (with_reducible repeat (first | refine blk_drewN ?_ _ | refine blk_drew ?_ | refine blk_alloc ?_ _)); refine blk_put (cs := #[.slice Ao54 x546000_1.length co54, .slice Ao56 x546001_1.length co56, .slice Ao57 x546002_1.length co57, .slice Ao58 x546003_1.length co58, .slice Ao59 x546004_1.length co59, .slice Ao60 x546005_1.length co60, .slice none 0 0]) ?_ 6 _ rfl; (with_reducible repeat (first | refine blk_drewN ?_ _ | refine blk_drew ?_ | refine blk_alloc ?_ _)); refine blk_put (cs := #[.slice Ao54 x546000_1.length co54, .slice Ao56 x546001_1.length co56, .slice Ao57 x546002_1.length co57, .slice Ao58 x546003_1.length co58, .slice Ao59 x546004_1.length co59, .slice none 0 0, .slice none 0 0]) ?_ 5 _ rfl; (with_reducible repeat (first | refine blk_drewN ?_ _ | refine blk_drew ?_ | refine blk_alloc ?_ _)); refine blk_put (cs := #[.slice Ao54 x546000_1.length co54, .slice Ao56 x546001_1.length co56, .slice Ao57 x546002_1.length co57, .slice Ao58 x546003_1.length co58, .slice none 0 0, .slice none 0 0, .slice none 0 0]) ?_ 4 _ rfl; (with_reducible repeat (first | refine blk_drewN ?_ _ | refine blk_drew ?_ | refine blk_alloc ?_ _)); refine blk_put (cs := #[.slice Ao54 x546000_1.length co54, .slice Ao56 x546001_1.length co56, .slice Ao57 x546002_1.length co57, .slice none 0 0, .slice none 0 0, .slice none 0 0, .slice none 0 0]) ?_ 3 _ rfl; (with_reducible repeat (first | refine blk_drewN ?_ _ | refine blk_drew ?_ | refine blk_alloc ?_ _)); refine blk_put (cs := #[.slice Ao54 x546000_1.length co54, .slice Ao56 x546001_1.length co56, .slice none 0 0, .slice none 0 0, .slice none 0 0, .slice none 0 0, .slice none 0 0]) ?_ 2 _ rfl; (with_reducible repeat (first | refine blk_drewN ?_ _ | refine blk_drew ?_ | refine blk_alloc ?_ _)); refine blk_put (cs := #[.slice Ao54 x546000_1.length co54, .slice none 0 0, .slice none 0 0, .slice none 0 0, .slice none 0 0, .slice none 0 0, .slice none 0 0]) ?_ 1 _ rfl; (with_reducible repeat (first | refine blk_drewN ?_ _ | refine blk_drew ?_ | refine blk_alloc ?_ _)); refine blk_put (cs := #[.slice none 0 0, .slice none 0 0, .slice none 0 0, .slice none 0 0, .slice none 0 0, .slice none 0 0, .slice none 0 0]) ?_ 0 _ rfl; (with_reducible repeat (first | refine blk_drewN ?_ _ | refine blk_drew ?_ | refine blk_alloc ?_ _)); exact BK544.out) Try.underlying46 rfl (by kernel_rfl)) rfl ?_
    exact ⟨_, _, _, _, _, _, _, by first | rfl | (simp [errW_none, errW_some] <;> rfl) | (simp [*, errW_none, errW_some] <;> rfl), by (with_reducible repeat (first | apply Kd.R_alloc | apply Kd.R_drewN | apply Kd.R_drew)); exact Kd.R_mono (Kd.R_far (p := ⟨gb544, 6, none⟩) (Kd.R_far (p := ⟨gb544, 5, none⟩) (Kd.R_far (p := ⟨gb544, 4, none⟩) (Kd.R_far (p := ⟨gb544, 3, none⟩) (Kd.R_far (p := ⟨gb544, 2, none⟩) (Kd.R_far (p := ⟨gb544, 1, none⟩) (Kd.R_far (p := ⟨gb544, 0, none⟩) (Kd.R_types HO_546000.out BK544.out (by decide)) (fun _ hk => hk.2) (.slice Ao54 x546000_1.length co54)) (fun _ hk => hk.2) (.slice Ao56 x546001_1.length co56)) (fun _ hk => hk.2) (.slice Ao57 x546002_1.length co57)) (fun _ hk => hk.2) (.slice Ao58 x546003_1.length co58)) (fun _ hk => hk.2) (.slice Ao59 x546004_1.length co59)) (fun _ hk => hk.2) (.slice Ao60 x546005_1.length co60)) (fun _ hk => hk.2) (.slice Ao61 x546006_1.length co61)) (fun _ hk => ⟨hk.1.1, ⟨hk.1.2.1, ⟨hk.1.2.2.1, ⟨hk.1.2.2.2.1, ⟨hk.1.2.2.2.2.1, hk.1.2.2.2.2.2⟩⟩⟩⟩⟩), by (with_reducible repeat (first | apply Kd.R_alloc | apply Kd.R_drewN | apply Kd.R_drew)); exact Kd.R_mono (Kd.R_far (p := ⟨gb544, 6, none⟩) (Kd.R_far (p := ⟨gb544, 5, none⟩) (Kd.R_far (p := ⟨gb544, 4, none⟩) (Kd.R_far (p := ⟨gb544, 3, none⟩) (Kd.R_far (p := ⟨gb544, 2, none⟩) (Kd.R_far (p := ⟨gb544, 1, none⟩) (Kd.R_far (p := ⟨gb544, 0, none⟩) (Kd.R_types HO_546001.out BK544.out (by decide)) (fun _ hk => hk.2) (.slice Ao54 x546000_1.length co54)) (fun _ hk => hk.2) (.slice Ao56 x546001_1.length co56)) (fun _ hk => hk.2) (.slice Ao57 x546002_1.length co57)) (fun _ hk => hk.2) (.slice Ao58 x546003_1.length co58)) (fun _ hk => hk.2) (.slice Ao59 x546004_1.length co59)) (fun _ hk => hk.2) (.slice Ao60 x546005_1.length co60)) (fun _ hk => hk.2) (.slice Ao61 x546006_1.length co61)) (fun _ hk => ⟨hk.1.1, ⟨hk.1.2.1, ⟨hk.1.2.2.1, ⟨hk.1.2.2.2.1, ⟨hk.1.2.2.2.2.1, hk.1.2.2.2.2.2⟩⟩⟩⟩⟩), by (with_reducible repeat (first | apply Kd.R_alloc | apply Kd.R_drewN | apply Kd.R_drew)); exact Kd.R_mono (Kd.R_far (p := ⟨gb544, 6, none⟩) (Kd.R_far (p := ⟨gb544, 5, none⟩) (Kd.R_far (p := ⟨gb544, 4, none⟩) (Kd.R_far (p := ⟨gb544, 3, none⟩) (Kd.R_far (p := ⟨gb544, 2, none⟩) (Kd.R_far (p := ⟨gb544, 1, none⟩) (Kd.R_far (p := ⟨gb544, 0, none⟩) (Kd.R_types HO_546002.out BK544.out (by decide)) (fun _ hk => hk.2) (.slice Ao54 x546000_1.length co54)) (fun _ hk => hk.2) (.slice Ao56 x546001_1.length co56)) (fun _ hk => hk.2) (.slice Ao57 x546002_1.length co57)) (fun _ hk => hk.2) (.slice Ao58 x546003_1.length co58)) (fun _ hk => hk.2) (.slice Ao59 x546004_1.length co59)) (fun _ hk => hk.2) (.slice Ao60 x546005_1.length co60)) (fun _ hk => hk.2) (.slice Ao61 x546006_1.length co61)) (fun _ hk => ⟨hk.1.1, ⟨hk.1.2.1, ⟨hk.1.2.2.1, ⟨hk.1.2.2.2.1, ⟨hk.1.2.2.2.2.1, hk.1.2.2.2.2.2⟩⟩⟩⟩⟩), by (with_reducible repeat (first | apply Kd.R_alloc | apply Kd.R_drewN | apply Kd.R_drew)); exact Kd.R_mono (Kd.R_far (p := ⟨gb544, 6, none⟩) (Kd.R_far (p := ⟨gb544, 5, none⟩) (Kd.R_far (p := ⟨gb544, 4, none⟩) (Kd.R_far (p := ⟨gb544, 3, none⟩) (Kd.R_far (p := ⟨gb544, 2, none⟩) (Kd.R_far (p := ⟨gb544, 1, none⟩) (Kd.R_far (p := ⟨gb544, 0, none⟩) (Kd.R_types HO_546003.out BK544.out (by decide)) (fun _ hk => hk.2) (.slice Ao54 x546000_1.length co54)) (fun _ hk => hk.2) (.slice Ao56 x546001_1.length co56)) (fun _ hk => hk.2) (.slice Ao57 x546002_1.length co57)) (fun _ hk => hk.2) (.slice Ao58 x546003_1.length co58)) (fun _ hk => hk.2) (.slice Ao59 x546004_1.length co59)) (fun _ hk => hk.2) (.slice Ao60 x546005_1.length co60)) (fun _ hk => hk.2) (.slice Ao61 x546006_1.length co61)) (fun _ hk => ⟨hk.1.1, ⟨hk.1.2.1, ⟨hk.1.2.2.1, ⟨hk.1.2.2.2.1, ⟨hk.1.2.2.2.2.1, hk.1.2.2.2.2.2⟩⟩⟩⟩⟩), by (with_reducible repeat (first | apply Kd.R_alloc | apply Kd.R_drewN | apply Kd.R_drew)); exact Kd.R_mono (Kd.R_far (p := ⟨gb544, 6, none⟩) (Kd.R_far (p := ⟨gb544, 5, none⟩) (Kd.R_far (p := ⟨gb544, 4, none⟩) (Kd.R_far (p := ⟨gb544, 3, none⟩) (Kd.R_far (p := ⟨gb544, 2, none⟩) (Kd.R_far (p := ⟨gb544, 1, none⟩) (Kd.R_far (p := ⟨gb544, 0, none⟩) (Kd.R_types HO_546004.out BK544.out (by decide)) (fun _ hk => hk.2) (.slice Ao54 x546000_1.length co54)) (fun _ hk => hk.2) (.slice Ao56 x546001_1.length co56)) (fun _ hk => hk.2) (.slice Ao57 x546002_1.length co57)) (fun _ hk => hk.2) (.slice Ao58 x546003_1.length co58)) (fun _ hk => hk.2) (.slice Ao59 x546004_1.length co59)) (fun _ hk => hk.2) (.slice Ao60 x546005_1.length co60)) (fun _ hk => hk.2) (.slice Ao61 x546006_1.length co61)) (fun _ hk => ⟨hk.1.1, ⟨hk.1.2.1, ⟨hk.1.2.2.1, ⟨hk.1.2.2.2.1, ⟨hk.1.2.2.2.2.1, hk.1.2.2.2.2.2⟩⟩⟩⟩⟩), by (with_reducible repeat (first | apply Kd.R_alloc | apply Kd.R_drewN | apply Kd.R_drew)); exact Kd.R_mono (Kd.R_far (p := ⟨gb544, 6, none⟩) (Kd.R_far (p := ⟨gb544, 5, none⟩) (Kd.R_far (p := ⟨gb544, 4, none⟩) (Kd.R_far (p := ⟨gb544, 3, none⟩) (Kd.R_far (p := ⟨gb544, 2, none⟩) (Kd.R_far (p := ⟨gb544, 1, none⟩) (Kd.R_far (p := ⟨gb544, 0, none⟩) (Kd.R_types HO_546005.out BK544.out (by decide)) (fun _ hk => hk.2) (.slice Ao54 x546000_1.length co54)) (fun _ hk => hk.2) (.slice Ao56 x546001_1.length co56)) (fun _ hk => hk.2) (.slice Ao57 x546002_1.length co57)) (fun _ hk => hk.2) (.slice Ao58 x546003_1.length co58)) (fun _ hk => hk.2) (.slice Ao59 x546004_1.length co59)) (fun _ hk => hk.2) (.slice Ao60 x546005_1.length co60)) (fun _ hk => hk.2) (.slice Ao61 x546006_1.length co61)) (fun _ hk => ⟨hk.1.1, ⟨hk.1.2.1, ⟨hk.1.2.2.1, ⟨hk.1.2.2.2.1, ⟨hk.1.2.2.2.2.1, hk.1.2.2.2.2.2⟩⟩⟩⟩⟩), by (with_reducible repeat (first | apply Kd.R_alloc | apply Kd.R_drewN | apply Kd.R_drew)); exact Kd.R_mono (Kd.R_far (p := ⟨gb544, 6, none⟩) (Kd.R_far (p := ⟨gb544, 5, none⟩) (Kd.R_far (p := ⟨gb544, 4, none⟩) (Kd.R_far (p := ⟨gb544, 3, none⟩) (Kd.R_far (p := ⟨gb544, 2, none⟩) (Kd.R_far (p := ⟨gb544, 1, none⟩) (Kd.R_far (p := ⟨gb544, 0, none⟩) (Kd.R_types HO_546006.out BK544.out (by decide)) (fun _ hk => hk.2) (.slice Ao54 x546000_1.length co54)) (fun _ hk => hk.2) (.slice Ao56 x546001_1.length co56)) (fun _ hk => hk.2) (.slice Ao57 x546002_1.length co57)) (fun _ hk => hk.2) (.slice Ao58 x546003_1.length co58)) (fun _ hk => hk.2) (.slice Ao59 x546004_1.length co59)) (fun _ hk => hk.2) (.slice Ao60 x546005_1.length co60)) (fun _ hk => hk.2) (.slice Ao61 x546006_1.length co61)) (fun _ hk => ⟨hk.1.1, ⟨hk.1.2.1, ⟨hk.1.2.2.1, ⟨hk.1.2.2.2.1, ⟨hk.1.2.2.2.2.1, hk.1.2.2.2.2.2⟩⟩⟩⟩⟩), by repeat (first | (with_reducible first | exact HB.out | apply below_alloc | apply pw_below_drewN | apply below_drew1 | refine below_set ?_ GE544.out | refine below_set ?_ GE545.out) | exact HB.out)⟩

-- NOT PRINTED: function 10 (rickyardlaw26_PartCuts)

-- NOT PRINTED: function 11 (rickyardlaw26_PartTurned)

-- NOT PRINTED: function 12 (rickyardlaw26_PartSums)

end Go.Proofs.Ythbknmblehecaaa.Pr
