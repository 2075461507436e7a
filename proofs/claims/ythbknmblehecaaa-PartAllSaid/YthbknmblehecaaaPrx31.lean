-- Printed by a program of this session (wip/tools/myprint.py) that runs the kit's print with contracts of this session's own.
import Derived.Test.YthbknmblehecaaaPrx0
import Derived.Test.YthbknmblehecaaaPrx29
import Derived.Test.YthbknmblehecaaaPrx30
namespace Go.Proofs.Ythbknmblehecaaa.Pr
open Go.RowKit Go.Proofs.YthbknmblehecaaaW.PrintWords Go.Proofs.YthbknmblehecaaaW.PrintLast Go.Proofs.YthbknmblehecaaaW.PrintMore
attribute [local go_sem] max2_int min2_int max_two min_two max_three min_three max_four min_four   -- for this text's walks alone
set_option linter.unusedVariables false
set_option linter.unusedSimpArgs false

/-! ### rickyardref26_All: function 31 -/
def rickyardref26_All.l0 : Nat → List (S58) → List (List (S58)) → Int → Option ((List (S58)))
 | 0, _, _, _ => none
 | k + 1, x3, x4, x5 => if x5 < (x4.length : Int) then (if 0 ≤ x5 then (if x3.length + (rd_L6 x4 x5).length < 8796093022208 then (rickyardref26_All.l0 k (x3 ++ (rd_L6 x4 x5)) x4 (wrap64 (x5 + 1))) else (none)) else (none)) else ((rickyardref13_Sort.f x3).bind fun t479 => (some t479))
def rickyardref26_All.f (k : Nat) (l0_0 : List (S58)) (l0_1 : List (S58)) (l0_2 : List (S58)) (l0_3 : List (S58)) (l0_4 : List (S58)) (l0_5 : List (S58)) (l0_6 : List (S58)) : Option ((List (S58))) := (rickyardref26_lists.f l0_0 l0_1 l0_2 l0_3 l0_4 l0_5 l0_6).bind fun t472 => (rickyardref26_All.l0 k ([] : List (S58)) t472 0)
theorem rickyardref26_All.mono_l : ∀ k, (∀ y0 y1 y2, LeO (rickyardref26_All.l0 k y0 y1 y2) (rickyardref26_All.l0 (k + 1) y0 y1 y2))
 | 0 => fun _ _ _ r h => by simp [rickyardref26_All.l0] at h
 | k + 1 => by
  have ih0 := rickyardref26_All.mono_l k
  ·intro y0 y1 y2
   unfold rickyardref26_All.l0
   repeat' first
   | (with_reducible exact ih0 _ _ _)
   | (with_reducible exact LeO.refl _)
   | (with_reducible exact LeO.none _)
   | (with_reducible refine LeO.ite ?_ ?_)
   | (with_reducible refine LeO.bind ?_ (fun _ => ?_))
   | exact ih0 _ _ _
   | exact LeO.none _
   | refine LeO.ite ?_ ?_
   | refine LeO.bind ?_ (fun _ => ?_)
theorem rickyardref26_All.mono : ∀ a0 a1 a2 a3 a4 a5 a6 k, LeO (rickyardref26_All.f k a0 a1 a2 a3 a4 a5 a6) (rickyardref26_All.f (k + 1) a0 a1 a2 a3 a4 a5 a6) := by
 intro a0 a1 a2 a3 a4 a5 a6 k
 have ih0 := rickyardref26_All.mono_l k
 unfold rickyardref26_All.f
 repeat' first
   | (with_reducible exact ih0 _ _ _)
   | (with_reducible exact LeO.refl _)
   | (with_reducible exact LeO.none _)
   | (with_reducible refine LeO.ite ?_ ?_)
   | (with_reducible refine LeO.bind ?_ (fun _ => ?_))
   | exact ih0 _ _ _
   | exact LeO.none _
   | refine LeO.ite ?_ ?_
   | refine LeO.bind ?_ (fun _ => ?_)
set_option maxHeartbeats 8000000 in
set_option maxRecDepth 100000 in
theorem rickyardref26_All.calls (k : Nat) (A0_0 : Option Addr) (c0_0 : Nat) (l0_0 : List (S58)) (A0_1 : Option Addr) (c0_1 : Nat) (l0_1 : List (S58)) (A0_2 : Option Addr) (c0_2 : Nat) (l0_2 : List (S58)) (A0_3 : Option Addr) (c0_3 : Nat) (l0_3 : List (S58)) (A0_4 : Option Addr) (c0_4 : Nat) (l0_4 : List (S58)) (A0_5 : Option Addr) (c0_5 : Nat) (l0_5 : List (S58)) (A0_6 : Option Addr) (c0_6 : Nat) (l0_6 : List (S58)) (r : List (S58)) (w : World) (hr0_0 : Kd.C k58 w A0_0 l0_0.length l0_0) (hc0_0 : l0_0.length ≤ c0_0) (hr0_1 : Kd.C k58 w A0_1 l0_1.length l0_1) (hc0_1 : l0_1.length ≤ c0_1) (hr0_2 : Kd.C k58 w A0_2 l0_2.length l0_2) (hc0_2 : l0_2.length ≤ c0_2) (hr0_3 : Kd.C k58 w A0_3 l0_3.length l0_3) (hc0_3 : l0_3.length ≤ c0_3) (hr0_4 : Kd.C k58 w A0_4 l0_4.length l0_4) (hc0_4 : l0_4.length ≤ c0_4) (hr0_5 : Kd.C k58 w A0_5 l0_5.length l0_5) (hc0_5 : l0_5.length ≤ c0_5) (hr0_6 : Kd.C k58 w A0_6 l0_6.length l0_6) (hc0_6 : l0_6.length ≤ c0_6) (h : rickyardref26_All.f k l0_0 l0_1 l0_2 l0_3 l0_4 l0_5 l0_6 = some r) :
  Calls Try.prog 31 #[.agg #[.slice A0_0 l0_0.length c0_0, .slice A0_1 l0_1.length c0_1, .slice A0_2 l0_2.length c0_2, .slice A0_3 l0_3.length c0_3, .slice A0_4 l0_4.length c0_4, .slice A0_5 l0_5.length c0_5, .slice A0_6 l0_6.length c0_6]] w fun e w' => ∃ v0_ : Value, e = .returned (v0_) ∧ Kd.R k58 58 w' w.heap.size (fun _ => True) v0_ r ∧ Below w.heap.size w w' := by
 have hu46 := Try.underlying46
 have HR0_0 := Aside0.mk hr0_0
 have HC0_0 := Aside0.mk hc0_0
 clear hr0_0 hc0_0
 have HR0_1 := Aside0.mk hr0_1
 have HC0_1 := Aside0.mk hc0_1
 clear hr0_1 hc0_1
 have HR0_2 := Aside0.mk hr0_2
 have HC0_2 := Aside0.mk hc0_2
 clear hr0_2 hc0_2
 have HR0_3 := Aside0.mk hr0_3
 have HC0_3 := Aside0.mk hc0_3
 clear hr0_3 hc0_3
 have HR0_4 := Aside0.mk hr0_4
 have HC0_4 := Aside0.mk hc0_4
 clear hr0_4 hc0_4
 have HR0_5 := Aside0.mk hr0_5
 have HC0_5 := Aside0.mk hc0_5
 clear hr0_5 hc0_5
 have HR0_6 := Aside0.mk hr0_6
 have HC0_6 := Aside0.mk hc0_6
 clear hr0_6 hc0_6
 have HB := Aside0.mk (Below.refl w.heap.size w)
 have H : ((rickyardref26_lists.f l0_0 l0_1 l0_2 l0_3 l0_4 l0_5 l0_6).bind fun t472 => (rickyardref26_All.l0 k ([] : List (S58)) t472 0)) = some r := h
 clear h
 replace H := Option.bind_eq_some_iff.mp H
 obtain ⟨t472, A20, H⟩ := H
 replace H : (rickyardref26_All.l0 k ([] : List (S58)) t472 0) = some r := H
 have A2 := Aside0.mk A20
 clear A20
 have H' := Aside0.mk H
 clear H
 go_enter Try.func31, Try.ntmps31
 go_wp2_with (first | ((with_reducible refine gate_dst (N := 1) rfl ?_); refine box_event ?hg (N := 1) ?hd (cs := #[.slice A0_0 l0_0.length c0_0, .slice A0_1 l0_1.length c0_1, .slice A0_2 l0_2.length c0_2, .slice A0_3 l0_3.length c0_3, .slice A0_4 l0_4.length c0_4, .slice A0_5 l0_5.length c0_5, .slice A0_6 l0_6.length c0_6]) (t := 46) ?hr ?_; (case hd => rfl); (case hg => rfl); (case hr => first | (go_simp; done) | (go_simp; rfl)); intro gb471 hg w3 hbox hb; have n0_ := Aside0.mk (below_step (by repeat (first | (with_reducible first | exact HB.out | apply below_alloc | apply pw_below_drewN | apply below_drew1) | exact HB.out)) hb); have n1_ := Aside0.mk (hbox); have n2_ := Aside0.mk ((by rw [hg]; exact (below_size (by repeat (first | (with_reducible first | exact HB.out | apply below_alloc | apply pw_below_drewN | apply below_drew1) | exact HB.out))) : w.heap.size ≤ gb471)); have n3_ := Aside0.mk ((by rw [hg]; exact (below_size (by repeat (first | (with_reducible first | exact HB.out | apply below_alloc | apply pw_below_drewN | apply below_drew1) | exact HB.out))) : w.heap.size ≤ gb471)); clear HB; have HB := n0_; have BK471 := n1_; have GW471 := n2_; have GE471 := n3_; clear n0_ n1_ n2_ n3_; clear hb hbox hg; have hcz4_0 : w3.cell? ⟨gb471, 0, none⟩ = some (.slice A0_0 l0_0.length c0_0) := (blk_cell BK471.out 0).trans rfl; have hcz4_1 : w3.cell? ⟨gb471, 1, none⟩ = some (.slice A0_1 l0_1.length c0_1) := (blk_cell BK471.out 1).trans rfl; have hcz4_2 : w3.cell? ⟨gb471, 2, none⟩ = some (.slice A0_2 l0_2.length c0_2) := (blk_cell BK471.out 2).trans rfl; have hcz4_3 : w3.cell? ⟨gb471, 3, none⟩ = some (.slice A0_3 l0_3.length c0_3) := (blk_cell BK471.out 3).trans rfl; have hcz4_4 : w3.cell? ⟨gb471, 4, none⟩ = some (.slice A0_4 l0_4.length c0_4) := (blk_cell BK471.out 4).trans rfl; have hcz4_5 : w3.cell? ⟨gb471, 5, none⟩ = some (.slice A0_5 l0_5.length c0_5) := (blk_cell BK471.out 5).trans rfl; have hcz4_6 : w3.cell? ⟨gb471, 6, none⟩ = some (.slice A0_6 l0_6.length c0_6) := (blk_cell BK471.out 6).trans rfl; have hfz4_0 := blk_frozen BK471.out 0; have hfz4_1 := blk_frozen BK471.out 1; have hfz4_2 := blk_frozen BK471.out 2; have hfz4_3 := blk_frozen BK471.out 3; have hfz4_4 := blk_frozen BK471.out 4; have hfz4_5 := blk_frozen BK471.out 5; have hfz4_6 := blk_frozen BK471.out 6) | ((with_reducible refine gate_callee (f := 59) rfl ?_); refine goesL_ (some 7) rfl rfl Try.func59 (by kernel_rfl) rfl #[.agg #[.slice A0_0 l0_0.length c0_0, .slice A0_1 l0_1.length c0_1, .slice A0_2 l0_2.length c0_2, .slice A0_3 l0_3.length c0_3, .slice A0_4 l0_4.length c0_4, .slice A0_5 l0_5.length c0_5, .slice A0_6 l0_6.length c0_6]] rfl (by (try simp only [List.map_toArray, List.map_cons, List.map_nil]); first | done | rfl | (simp only [List.length_drop, List.length_take]; rfl)) ?_; (with_reducible refine (rickyardref26_lists.calls (fun k_ => k_ < w.heap.size) _ _ l0_0 (fun k_ => k_ < w.heap.size) _ _ l0_1 (fun k_ => k_ < w.heap.size) _ _ l0_2 (fun k_ => k_ < w.heap.size) _ _ l0_3 (fun k_ => k_ < w.heap.size) _ _ l0_4 (fun k_ => k_ < w.heap.size) _ _ l0_5 (fun k_ => k_ < w.heap.size) _ _ l0_6 t472 _ ?side1 ?side2 ?side3 ?side4 ?side5 ?side6 ?side7 A2.out).mono ?_); (case side1 => exact Kd.V_mk HC0_0.out (Kd.F_below (Kd.C_F k58_heap HR0_0.out) (by repeat (first | (with_reducible first | exact HB.out | apply below_alloc | apply pw_below_drewN | apply below_drew1 | refine below_set ?_ GE471.out) | exact HB.out)))); (case side2 => exact Kd.V_mk HC0_1.out (Kd.F_below (Kd.C_F k58_heap HR0_1.out) (by repeat (first | (with_reducible first | exact HB.out | apply below_alloc | apply pw_below_drewN | apply below_drew1 | refine below_set ?_ GE471.out) | exact HB.out)))); (case side3 => exact Kd.V_mk HC0_2.out (Kd.F_below (Kd.C_F k58_heap HR0_2.out) (by repeat (first | (with_reducible first | exact HB.out | apply below_alloc | apply pw_below_drewN | apply below_drew1 | refine below_set ?_ GE471.out) | exact HB.out)))); (case side4 => exact Kd.V_mk HC0_3.out (Kd.F_below (Kd.C_F k58_heap HR0_3.out) (by repeat (first | (with_reducible first | exact HB.out | apply below_alloc | apply pw_below_drewN | apply below_drew1 | refine below_set ?_ GE471.out) | exact HB.out)))); (case side5 => exact Kd.V_mk HC0_4.out (Kd.F_below (Kd.C_F k58_heap HR0_4.out) (by repeat (first | (with_reducible first | exact HB.out | apply below_alloc | apply pw_below_drewN | apply below_drew1 | refine below_set ?_ GE471.out) | exact HB.out)))); (case side6 => exact Kd.V_mk HC0_5.out (Kd.F_below (Kd.C_F k58_heap HR0_5.out) (by repeat (first | (with_reducible first | exact HB.out | apply below_alloc | apply pw_below_drewN | apply below_drew1 | refine below_set ?_ GE471.out) | exact HB.out)))); (case side7 => exact Kd.V_mk HC0_6.out (Kd.F_below (Kd.C_F k58_heap HR0_6.out) (by repeat (first | (with_reducible first | exact HB.out | apply below_alloc | apply pw_below_drewN | apply below_drew1 | refine below_set ?_ GE471.out) | exact HB.out)))); rintro e w5 ⟨v473, rfl, ho0, hb⟩; refine ⟨_, rfl, ?_⟩; have n0_ := Aside0.mk (Kd.N_lower (Kd.N_mono (ok' := fun k_ => k_ ≠ gb471) ho0 (fun k_ hk_ => Or.elim hk_ (fun hs_ => Or.elim hs_ (fun hs_ => fun e_ => Nat.not_le.2 hs_ (by rw [e_]; exact GW471.out)) (fun hs_ => Or.elim hs_ (fun hs_ => fun e_ => Nat.not_le.2 hs_ (by rw [e_]; exact GW471.out)) (fun hs_ => Or.elim hs_ (fun hs_ => fun e_ => Nat.not_le.2 hs_ (by rw [e_]; exact GW471.out)) (fun hs_ => Or.elim hs_ (fun hs_ => fun e_ => Nat.not_le.2 hs_ (by rw [e_]; exact GW471.out)) (fun hs_ => Or.elim hs_ (fun hs_ => fun e_ => Nat.not_le.2 hs_ (by rw [e_]; exact GW471.out)) (fun hs_ => Or.elim hs_ (fun hs_ => fun e_ => Nat.not_le.2 hs_ (by rw [e_]; exact GW471.out)) (fun hs_ => fun e_ => Nat.not_le.2 hs_ (by rw [e_]; exact GW471.out)))))))) (fun hn_ => (Kd.freshB (g := gb471) (o := .cells #[.slice A0_0 l0_0.length c0_0, .slice A0_1 l0_1.length c0_1, .slice A0_2 l0_2.length c0_2, .slice A0_3 l0_3.length c0_3, .slice A0_4 l0_4.length c0_4, .slice A0_5 l0_5.length c0_5, .slice A0_6 l0_6.length c0_6] 46 (0, 0)) (by (with_reducible repeat (first | refine blk_drewN ?_ _ | refine blk_drew ?_ | refine blk_alloc ?_ _)); exact BK471.out) k_ hn_)))) (below_size (by repeat (first | (with_reducible first | exact HB.out | apply below_alloc | apply pw_below_drewN | apply below_drew1 | refine below_set ?_ GE471.out) | exact HB.out)))); have n1_ := Aside0.mk (blk_below (g := gb471) (o := .cells #[.slice A0_0 l0_0.length c0_0, .slice A0_1 l0_1.length c0_1, .slice A0_2 l0_2.length c0_2, .slice A0_3 l0_3.length c0_3, .slice A0_4 l0_4.length c0_4, .slice A0_5 l0_5.length c0_5, .slice A0_6 l0_6.length c0_6] 46 (0, 0)) (by (with_reducible repeat (first | refine blk_drewN ?_ _ | refine blk_drew ?_ | refine blk_alloc ?_ _)); exact BK471.out) hb); have n2_ := Aside0.mk (below_step (by repeat (first | (with_reducible first | exact HB.out | apply below_alloc | apply pw_below_drewN | apply below_drew1 | refine below_set ?_ GE471.out) | exact HB.out)) hb); clear BK471; clear HB; have HO474 := n0_; have BK471 := n1_; have HB := n2_; clear n0_ n1_ n2_; (try clear hb); (try clear hb2); (try clear hk); (try clear hi); (try clear ho0)))
 go_loopg [3, 5] k (fun kq v3 v5 w' => ∃ (x3_1 : List (S58)) (x5_1 : Int), v5 = .int .i64 x5_1 ∧ Aside0 (rickyardref26_All.l0 kq x3_1 t472 x5_1 = some r) ∧ Aside0 (kq ≤ k) ∧ Aside0 (Kd.R k58 58 w' w.heap.size (fun _ => True) v3 x3_1) ∧ Aside0 (Kd.N (Kd.slice 58 k58) 44 w' w.heap.size (fun k_ => some k_ ≠ (v3 : Value).ownBlock ∧ k_ ≠ gb471) v473 t472) ∧ Aside0 (w'.heap[gb471]? = some (.cells #[(.slice A0_0 l0_0.length c0_0), (.slice A0_1 l0_1.length c0_1), (.slice A0_2 l0_2.length c0_2), (.slice A0_3 l0_3.length c0_3), (.slice A0_4 l0_4.length c0_4), (.slice A0_5 l0_5.length c0_5), (.slice A0_6 l0_6.length c0_6)] 46 (0, 0))) ∧ Aside0 (Below w.heap.size w w'))
 case atStart => exact ⟨(([] : List (S58))), (0), (by first | rfl | (simp; done) | (simp [*]; done)), H', ⟨Nat.le_refl _⟩, ⟨by first | exact Kd.R_nil _ _ _ _ _ | exact Kd.N_nil _ _ _ _ _ | exact Kd.V_nil _ _ _ _ _ | exact Kd.Q_nil _ _ _ _ _ | exact Kd.S_nil _ _ _ _ _⟩, ⟨by (with_reducible repeat (first | apply Kd.N_alloc | apply Kd.N_drewN | apply Kd.N_drew)); exact Kd.N_mono HO474.out (fun _ hk => ⟨(by simp [Value.ownBlock]), hk⟩)⟩, ⟨by (with_reducible repeat (first | refine blk_drewN ?_ _ | refine blk_drew ?_ | refine blk_alloc ?_ _)); exact BK471.out⟩, ⟨by repeat (first | (with_reducible first | exact HB.out | apply below_alloc | apply pw_below_drewN | apply below_drew1 | refine below_set ?_ GE471.out) | exact HB.out)⟩⟩
 case round =>
  clear H'
  try clear p2
  try clear c3
  try clear c5
  try clear hcz4_0
  try clear hcz4_1
  try clear hcz4_2
  try clear hcz4_3
  try clear hcz4_4
  try clear hcz4_5
  try clear hcz4_6
  try clear hfz4_0
  try clear hfz4_1
  try clear hfz4_2
  try clear hfz4_3
  try clear hfz4_4
  try clear hfz4_5
  try clear hfz4_6
  obtain ⟨x3_1, x5_1, rfl, HA, HK1, HO_3, HO_4, BK471, HB⟩ := hrel
  cases gk with
  | zero => exact absurd HA.out (by simp [rickyardref26_All.l0])
  | succ k1 =>
   have H := HA.out
   clear HA
   simp only [rickyardref26_All.l0] at H
   by_cases c6 : x5_1 < (t472.length : Int)
   ·rw [if_pos c6] at H
    have c6b0 : decide (x5_1 < (t472.length : Int)) = true := decide_eq_true c6
    clear c6
    by_cases c7 : 0 ≤ x5_1
    ·rw [if_pos c7] at H
     have c7b0 : decide (0 ≤ x5_1) = true := decide_eq_true c7
     clear c7
     by_cases c8 : x3_1.length + (rd_L6 t472 x5_1).length < 8796093022208
     ·rw [if_pos c8] at H
      have LMc8 := Aside0.mk c8
      clear c8
      obtain ⟨y476, hy476⟩ : ∃ y_ : List (S58), y_ = (x3_1 ++ (rd_L6 t472 x5_1)) := ⟨_, rfl⟩
      replace H : (rickyardref26_All.l0 k1 y476 t472 (wrap64 (x5_1 + 1))) = some r := by first | (rw [hy476]; with_reducible exact H) | (have H2_ := (Option.bind_some _ _).symm.trans H; rw [hy476]; with_reducible exact H2_) | (have H2_ := (Option.bind_some _ _).symm.trans H; with_reducible exact H2_) | with_reducible exact H | (rw [hy476]; exact H) | exact H
      have Ny476 := Aside0.mk hy476
      clear hy476
      have H' := Aside0.mk H
      clear H
      obtain ⟨Ao9, co9, eo9⟩ := Kd.N_slice HO_4.out
      subst eo9
      have p475 : 0 ≤ (x5_1 : Int) := of_decide_eq_true (by first | (with_reducible assumption) | assumption)
      have q475 : x5_1 < (t472.length : Int) := of_decide_eq_true (by first | (with_reducible assumption) | assumption)
      obtain ⟨ad475, A475_0, c475_0, e475, hx475_0, hl475_0, hi475_0⟩ := at_L6 (Kd.N_reads' HO_4.out).2.2 x5_1 p475 q475
      cases e475
      obtain ⟨ce475, hce475, hMe475, hcc475⟩ := Kd.N_get HO_4.out [] x5_1 p475 (by first | exact q475 | exact of_decide_eq_true (by first | (with_reducible assumption) | assumption) | (have e_ := (Kd.N_reads' HO_4.out).1; omega))
      obtain ⟨ua475_0, uc475_0, rfl, ul475_0, ge475_0⟩ := Kd.FK_slice_open hMe475
      have hv475_0 := hcc475 0 _ rfl
      rw [Nat.add_zero, show ((Kd.slice 58 k58)).sz = 1 from rfl, Nat.mul_one] at hv475_0
      replace hv475_0 := Option.some.inj (hv475_0.symm.trans hx475_0)
      injection hv475_0 with hva_ hvn_ hvc_
      rw [hva_] at ge475_0
      rw [hvc_] at ul475_0
      have HL475_0 := Aside0.mk (show Kd.V k58 58 _ w.heap.size _ _ (rd_L6 t472 x5_1) from Kd.V_mk ul475_0 ge475_0)
      clear hva_ hvn_ hvc_ ge475_0 ul475_0
      clear hcc475 hce475
      have HR475_0 := Aside0.mk hi475_0
      have HC475_0 := Aside0.mk hl475_0
      clear hi475_0 hl475_0
      replace p475 := eq_true p475
      replace q475 := eq_true q475
      go_wp2_with (first | ((with_reducible refine gate_builtin (b := .append) (xs := #[.tmp 14, .tmp 18]) rfl ?_); at_builtin; refine Kd.R_append_rows k58 (w0 := w) w.heap.size rfl (.tmp 14) (.tmp 18) 44 58 (.agg #[(.int .i64 0), (.int .i64 0)]) 16 rfl Try.underlying44 info58 rfl (by decide) (by omega) u3 x3_1 (rd_L6 t472 x5_1) _ _ _ (fun _ => True) (fun _ => False) rfl rfl ?aO ?aR (fun _ _ h => h) (fun _ h => h.elim) ?aF ?aB ?aS ?aL ?_; (case aR => repeat (first | exact (by repeat (first | (with_reducible exact HR475_0.out) | (with_reducible refine Kd.C_alloc ?_ _) | (with_reducible refine Kd.C_drewN ?_ _) | (with_reducible refine Kd.C_drew ?_) | exact HR475_0.out)) | (with_reducible refine Kd.C_alloc ?_ _) | (with_reducible refine Kd.C_drewN ?_ _) | (with_reducible refine Kd.C_drew ?_))); (case aB => exact (by repeat (first | (with_reducible first | exact HB.out | apply below_alloc | apply pw_below_drewN | apply below_drew1 | refine below_set ?_ GE471.out) | exact HB.out))); (case aF => exact (fun _ _ => trivial)); (case aO => exact (by (with_reducible repeat (first | apply Kd.R_alloc | apply Kd.R_drewN | apply Kd.R_drew)); exact HO_3.out)); (case aS => exact (below_size (by repeat (first | (with_reducible first | exact HB.out | apply below_alloc | apply pw_below_drewN | apply below_drew1 | refine below_set ?_ GE471.out) | exact HB.out)))); (case aL => have := LMc8.out; omega); intro v477 w10 ho hb hg hat; rw [← Ny476.out] at ho; have n0_ := Aside0.mk (Kd.N_afterv (ok := (fun k_ => k_ ≠ gb471)) (by (with_reducible repeat (first | apply Kd.N_alloc | apply Kd.N_drewN | apply Kd.N_drew)); exact Kd.N_mono HO_4.out (fun _ hk => ⟨hk.2, hk.1⟩)) hg hat); have n1_ := Aside0.mk (blk_grown (g := gb471) (o := .cells #[.slice A0_0 l0_0.length c0_0, .slice A0_1 l0_1.length c0_1, .slice A0_2 l0_2.length c0_2, .slice A0_3 l0_3.length c0_3, .slice A0_4 l0_4.length c0_4, .slice A0_5 l0_5.length c0_5, .slice A0_6 l0_6.length c0_6] 46 (0, 0)) (by (with_reducible repeat (first | refine blk_drewN ?_ _ | refine blk_drew ?_ | refine blk_alloc ?_ _)); exact BK471.out) hg (Kd.R_ne HO_3.out BK471.out (by decide))); have n2_ := Aside0.mk (Kd.V_afterv (ok := (fun k_ => some k_ ≠ (.slice (some ad475) t472.length co9 : Value).ownBlock ∧ k_ ≠ gb471)) (by (with_reducible repeat (first | apply Kd.V_alloc | apply Kd.V_drewN | apply Kd.V_drew)); exact Kd.V_mono HL475_0.out (fun _ hk => ⟨⟨hk.2, hk.1.2⟩, hk.1.1⟩)) hg hat); have n3_ := Aside0.mk (hb); have n4_ := Aside0.mk (ho); clear HO_4; clear BK471; clear HL475_0; clear HB; clear HO_3; have HO_4 := n0_; have BK471 := n1_; have HL475_0 := n2_; have HB := n3_; have HO478 := n4_; clear n0_ n1_ n2_ n3_ n4_; clear ho hb hg hat))
      go_roundg k1
      case measure => have := HK1.out; omega
      case rel => exact ⟨(y476), (wrap64 (x5_1 + 1)), (by first | rfl | (simp; done) | (simp [*]; done)), H', ⟨by have := HK1.out; omega⟩, ⟨by (with_reducible repeat (first | apply Kd.R_alloc | apply Kd.R_drewN | apply Kd.R_drew)); exact HO478.out⟩, ⟨by (with_reducible repeat (first | apply Kd.N_alloc | apply Kd.N_drewN | apply Kd.N_drew)); exact Kd.N_mono HO_4.out (fun _ hk => ⟨hk.2, hk.1⟩)⟩, ⟨by (with_reducible repeat (first | refine blk_drewN ?_ _ | refine blk_drew ?_ | refine blk_alloc ?_ _)); exact BK471.out⟩, ⟨by repeat (first | (with_reducible first | exact HB.out | apply below_alloc | apply pw_below_drewN | apply below_drew1 | refine below_set ?_ GE471.out) | exact HB.out)⟩⟩
     ·rw [if_neg c8] at H
      exact absurd H (by simp)
    ·rw [if_neg c7] at H
     exact absurd H (by simp)
   ·rw [if_neg c6] at H
    have c6b0 : decide (x5_1 < (t472.length : Int)) = false := decide_eq_false c6
    clear c6
    replace H := Option.bind_eq_some_iff.mp H
    obtain ⟨t479, A110, H⟩ := H
    replace H : (some t479) = some r := H
    have A11 := Aside0.mk A110
    clear A110
    obtain rfl := Option.some.inj H
    obtain ⟨Ao12, co12, eo12⟩ := Kd.N_slice HO_4.out
    subst eo12
    obtain ⟨Ao13, co13, eo13⟩ := Kd.R_slice HO_3.out
    subst eo13
    go_wp2_with (first | ((with_reducible refine gate_callee (f := 60) rfl ?_); refine goesL_ (some 21) rfl rfl Try.func60 (by kernel_rfl) rfl #[.slice Ao13 x3_1.length co13] rfl (by (try simp only [List.map_toArray, List.map_cons, List.map_nil]); first | done | rfl | (simp only [List.length_drop, List.length_take]; rfl)) ?_; (with_reducible refine (rickyardref13_Sort.calls _ _ x3_1 t479 _ ?side1 ?side2 A11.out).mono ?_); (case side1 => repeat (first | exact (Kd.R_reads' HO_3.out).2.2 | (with_reducible refine Kd.C_alloc ?_ _) | (with_reducible refine Kd.C_drewN ?_ _) | (with_reducible refine Kd.C_drew ?_))); (case side2 => exact (Kd.R_reads' HO_3.out).2.1); rintro e w14 ⟨v480, rfl, ho0, hb⟩; refine ⟨_, rfl, ?_⟩; have n0_ := Aside0.mk (Kd.R_elder' (by (with_reducible repeat (first | apply Kd.R_alloc | apply Kd.R_drewN | apply Kd.R_drew)); exact HO_3.out) (Kd.R_base ho0) hb); have n1_ := Aside0.mk (Kd.N_elder' (by (with_reducible repeat (first | apply Kd.N_alloc | apply Kd.N_drewN | apply Kd.N_drew)); exact HO_4.out) (Kd.R_base ho0) hb); have n2_ := Aside0.mk (Kd.R_lower (Kd.R_new' ho0 (Kd.R_lt (by (with_reducible repeat (first | apply Kd.R_alloc | apply Kd.R_drewN | apply Kd.R_drew)); exact HO_3.out))) (below_size (by repeat (first | (with_reducible first | exact HB.out | apply below_alloc | apply pw_below_drewN | apply below_drew1 | refine below_set ?_ GE471.out) | exact HB.out)))); have n3_ := Aside0.mk (blk_below (g := gb471) (o := .cells #[.slice A0_0 l0_0.length c0_0, .slice A0_1 l0_1.length c0_1, .slice A0_2 l0_2.length c0_2, .slice A0_3 l0_3.length c0_3, .slice A0_4 l0_4.length c0_4, .slice A0_5 l0_5.length c0_5, .slice A0_6 l0_6.length c0_6] 46 (0, 0)) (by (with_reducible repeat (first | refine blk_drewN ?_ _ | refine blk_drew ?_ | refine blk_alloc ?_ _)); exact BK471.out) hb); have n4_ := Aside0.mk (below_step (by repeat (first | (with_reducible first | exact HB.out | apply below_alloc | apply pw_below_drewN | apply below_drew1 | refine below_set ?_ GE471.out) | exact HB.out)) hb); clear HO_3; clear HO_4; clear BK471; clear HB; have HO_3 := n0_; have HO_4 := n1_; have HO481 := n2_; have BK471 := n3_; have HB := n4_; clear n0_ n1_ n2_ n3_ n4_; (try clear hb); (try clear hb2); (try clear hk); (try clear hi); (try clear ho0)))
    go_ret
    exact ⟨_, by first | rfl | (simp [errW_none, errW_some] <;> rfl) | (simp [*, errW_none, errW_some] <;> rfl), by (with_reducible repeat (first | apply Kd.R_alloc | apply Kd.R_drewN | apply Kd.R_drew)); exact Kd.R_mono HO481.out (fun _ hk => trivial), by repeat (first | (with_reducible first | exact HB.out | apply below_alloc | apply pw_below_drewN | apply below_drew1 | refine below_set ?_ GE471.out) | exact HB.out)⟩

/-! ### rickyardref26_MayPiece: function 64 -/
def rickyardref26_MayPiece.f (a0_0 : Int) (a0_1 : Int) : Option (Bool) := if a0_0 ≥ 0 then (if a0_0 ≤ 2147483648 then (if a0_1 ≥ 1 then (some (decide (a0_1 ≤ 2147483648))) else (some false)) else (some false)) else (some false)
set_option maxHeartbeats 8000000 in
set_option maxRecDepth 100000 in
theorem rickyardref26_MayPiece.calls (a0_0 : Int) (a0_1 : Int) (r : Bool) (w : World) (h : rickyardref26_MayPiece.f a0_0 a0_1 = some r) :
  Calls Try.prog 64 #[.agg #[.int .i64 a0_0, .int .i64 a0_1]] w fun e w' => e = .returned (.bool r) ∧ Below w.heap.size w w' := by
 have hu58 := Try.underlying58
 have HB := Aside0.mk (Below.refl w.heap.size w)
 have H : (if a0_0 ≥ 0 then (if a0_0 ≤ 2147483648 then (if a0_1 ≥ 1 then (some (decide (a0_1 ≤ 2147483648))) else (some false)) else (some false)) else (some false)) = some r := h
 clear h
 by_cases c2 : a0_0 ≥ 0
 ·rw [if_pos c2] at H
  have c2b0 : decide (0 ≤ a0_0) = true := decide_eq_true c2
  clear c2
  by_cases c3 : a0_0 ≤ 2147483648
  ·rw [if_pos c3] at H
   have c3b0 : decide (a0_0 ≤ 2147483648) = true := decide_eq_true c3
   clear c3
   by_cases c4 : a0_1 ≥ 1
   ·rw [if_pos c4] at H
    have c4b0 : decide (1 ≤ a0_1) = true := decide_eq_true c4
    clear c4
    obtain rfl := Option.some.inj H
    go_enter Try.func64, Try.ntmps64
    go_wp2_with (first | ((with_reducible refine gate_dst (N := 1) rfl ?_); refine box_event ?hg (N := 1) ?hd (cs := #[.int .i64 a0_0, .int .i64 a0_1]) (t := 58) ?hr ?_; (case hd => rfl); (case hg => rfl); (case hr => first | (go_simp; done) | (go_simp; rfl)); intro gb482 hg w5 hbox hb; have n0_ := Aside0.mk (below_step (by repeat (first | (with_reducible first | exact HB.out | apply below_alloc | apply pw_below_drewN | apply below_drew1) | exact HB.out)) hb); have n1_ := Aside0.mk (hbox); have n2_ := Aside0.mk ((by rw [hg]; exact (below_size (by repeat (first | (with_reducible first | exact HB.out | apply below_alloc | apply pw_below_drewN | apply below_drew1) | exact HB.out))) : w.heap.size ≤ gb482)); have n3_ := Aside0.mk ((by rw [hg]; exact (below_size (by repeat (first | (with_reducible first | exact HB.out | apply below_alloc | apply pw_below_drewN | apply below_drew1) | exact HB.out))) : w.heap.size ≤ gb482)); clear HB; have HB := n0_; have BK482 := n1_; have GW482 := n2_; have GE482 := n3_; clear n0_ n1_ n2_ n3_; clear hb hbox hg; have hcz6_0 : w5.cell? ⟨gb482, 0, none⟩ = some (.int .i64 a0_0) := (blk_cell BK482.out 0).trans rfl; have hcz6_1 : w5.cell? ⟨gb482, 1, none⟩ = some (.int .i64 a0_1) := (blk_cell BK482.out 1).trans rfl; have hfz6_0 := blk_frozen BK482.out 0; have hfz6_1 := blk_frozen BK482.out 1))
    go_ret
    exact ⟨by first | rfl | (simp [errW_none, errW_some] <;> rfl) | (simp [*, errW_none, errW_some] <;> rfl), by repeat (first | (with_reducible first | exact HB.out | apply below_alloc | apply pw_below_drewN | apply below_drew1 | refine below_set ?_ GE482.out) | exact HB.out)⟩
   ·rw [if_neg c4] at H
    have c4b0 : decide (1 ≤ a0_1) = false := decide_eq_false c4
    clear c4
    obtain rfl := Option.some.inj H
    go_enter Try.func64, Try.ntmps64
    go_wp2_with (first | ((with_reducible refine gate_dst (N := 1) rfl ?_); refine box_event ?hg (N := 1) ?hd (cs := #[.int .i64 a0_0, .int .i64 a0_1]) (t := 58) ?hr ?_; (case hd => rfl); (case hg => rfl); (case hr => first | (go_simp; done) | (go_simp; rfl)); intro gb482 hg w7 hbox hb; have n0_ := Aside0.mk (below_step (by repeat (first | (with_reducible first | exact HB.out | apply below_alloc | apply pw_below_drewN | apply below_drew1) | exact HB.out)) hb); have n1_ := Aside0.mk (hbox); have n2_ := Aside0.mk ((by rw [hg]; exact (below_size (by repeat (first | (with_reducible first | exact HB.out | apply below_alloc | apply pw_below_drewN | apply below_drew1) | exact HB.out))) : w.heap.size ≤ gb482)); have n3_ := Aside0.mk ((by rw [hg]; exact (below_size (by repeat (first | (with_reducible first | exact HB.out | apply below_alloc | apply pw_below_drewN | apply below_drew1) | exact HB.out))) : w.heap.size ≤ gb482)); clear HB; have HB := n0_; have BK482 := n1_; have GW482 := n2_; have GE482 := n3_; clear n0_ n1_ n2_ n3_; clear hb hbox hg; have hcz8_0 : w7.cell? ⟨gb482, 0, none⟩ = some (.int .i64 a0_0) := (blk_cell BK482.out 0).trans rfl; have hcz8_1 : w7.cell? ⟨gb482, 1, none⟩ = some (.int .i64 a0_1) := (blk_cell BK482.out 1).trans rfl; have hfz8_0 := blk_frozen BK482.out 0; have hfz8_1 := blk_frozen BK482.out 1))
    go_ret
    exact ⟨by first | rfl | (simp [errW_none, errW_some] <;> rfl) | (simp [*, errW_none, errW_some] <;> rfl), by repeat (first | (with_reducible first | exact HB.out | apply below_alloc | apply pw_below_drewN | apply below_drew1 | refine below_set ?_ GE482.out) | exact HB.out)⟩
  ·rw [if_neg c3] at H
   have c3b0 : decide (a0_0 ≤ 2147483648) = false := decide_eq_false c3
   clear c3
   obtain rfl := Option.some.inj H
   go_enter Try.func64, Try.ntmps64
   go_wp2_with (first | ((with_reducible refine gate_dst (N := 1) rfl ?_); refine box_event ?hg (N := 1) ?hd (cs := #[.int .i64 a0_0, .int .i64 a0_1]) (t := 58) ?hr ?_; (case hd => rfl); (case hg => rfl); (case hr => first | (go_simp; done) | (go_simp; rfl)); intro gb482 hg w9 hbox hb; have n0_ := Aside0.mk (below_step (by repeat (first | (with_reducible first | exact HB.out | apply below_alloc | apply pw_below_drewN | apply below_drew1) | exact HB.out)) hb); have n1_ := Aside0.mk (hbox); have n2_ := Aside0.mk ((by rw [hg]; exact (below_size (by repeat (first | (with_reducible first | exact HB.out | apply below_alloc | apply pw_below_drewN | apply below_drew1) | exact HB.out))) : w.heap.size ≤ gb482)); have n3_ := Aside0.mk ((by rw [hg]; exact (below_size (by repeat (first | (with_reducible first | exact HB.out | apply below_alloc | apply pw_below_drewN | apply below_drew1) | exact HB.out))) : w.heap.size ≤ gb482)); clear HB; have HB := n0_; have BK482 := n1_; have GW482 := n2_; have GE482 := n3_; clear n0_ n1_ n2_ n3_; clear hb hbox hg; have hcz10_0 : w9.cell? ⟨gb482, 0, none⟩ = some (.int .i64 a0_0) := (blk_cell BK482.out 0).trans rfl; have hcz10_1 : w9.cell? ⟨gb482, 1, none⟩ = some (.int .i64 a0_1) := (blk_cell BK482.out 1).trans rfl; have hfz10_0 := blk_frozen BK482.out 0; have hfz10_1 := blk_frozen BK482.out 1))
   go_ret
   exact ⟨by first | rfl | (simp [errW_none, errW_some] <;> rfl) | (simp [*, errW_none, errW_some] <;> rfl), by repeat (first | (with_reducible first | exact HB.out | apply below_alloc | apply pw_below_drewN | apply below_drew1 | refine below_set ?_ GE482.out) | exact HB.out)⟩
 ·rw [if_neg c2] at H
  have c2b0 : decide (0 ≤ a0_0) = false := decide_eq_false c2
  clear c2
  obtain rfl := Option.some.inj H
  go_enter Try.func64, Try.ntmps64
  go_wp2_with (first | ((with_reducible refine gate_dst (N := 1) rfl ?_); refine box_event ?hg (N := 1) ?hd (cs := #[.int .i64 a0_0, .int .i64 a0_1]) (t := 58) ?hr ?_; (case hd => rfl); (case hg => rfl); (case hr => first | (go_simp; done) | (go_simp; rfl)); intro gb482 hg w11 hbox hb; have n0_ := Aside0.mk (below_step (by repeat (first | (with_reducible first | exact HB.out | apply below_alloc | apply pw_below_drewN | apply below_drew1) | exact HB.out)) hb); have n1_ := Aside0.mk (hbox); have n2_ := Aside0.mk ((by rw [hg]; exact (below_size (by repeat (first | (with_reducible first | exact HB.out | apply below_alloc | apply pw_below_drewN | apply below_drew1) | exact HB.out))) : w.heap.size ≤ gb482)); have n3_ := Aside0.mk ((by rw [hg]; exact (below_size (by repeat (first | (with_reducible first | exact HB.out | apply below_alloc | apply pw_below_drewN | apply below_drew1) | exact HB.out))) : w.heap.size ≤ gb482)); clear HB; have HB := n0_; have BK482 := n1_; have GW482 := n2_; have GE482 := n3_; clear n0_ n1_ n2_ n3_; clear hb hbox hg; have hcz12_0 : w11.cell? ⟨gb482, 0, none⟩ = some (.int .i64 a0_0) := (blk_cell BK482.out 0).trans rfl; have hcz12_1 : w11.cell? ⟨gb482, 1, none⟩ = some (.int .i64 a0_1) := (blk_cell BK482.out 1).trans rfl; have hfz12_0 := blk_frozen BK482.out 0; have hfz12_1 := blk_frozen BK482.out 1))
  go_ret
  exact ⟨by first | rfl | (simp [errW_none, errW_some] <;> rfl) | (simp [*, errW_none, errW_some] <;> rfl), by repeat (first | (with_reducible first | exact HB.out | apply below_alloc | apply pw_below_drewN | apply below_drew1 | refine below_set ?_ GE482.out) | exact HB.out)⟩

/-! ### rickyardref26_Kind: function 33 -/
mutual
def rickyardref26_Kind.l0 : Nat → Int → List (List (S58)) → Int → Option (Int)
 | 0, _, _, _ => none
 | k + 1, x1, x5, x6 => if x6 < (x5.length : Int) then (rickyardref26_Kind.l1 k x1 x5 x6 0) else (some 0)
def rickyardref26_Kind.l1 : Nat → Int → List (List (S58)) → Int → Int → Option (Int)
 | 0, _, _, _, _ => none
 | k + 1, x1, x5, x6, x7 => if 0 ≤ x6 then (if x6 < (x5.length : Int) then (if x7 < ((rd_L6 x5 x6).length : Int) then (if 0 ≤ x7 then ((rickyardref26_MayPiece.f ((rd_T58 (rd_L6 x5 x6) x7).f0) ((rd_T58 (rd_L6 x5 x6) x7).f1)).bind fun t491 => (if t491 = true then (if x1 ≥ ((rd_T58 (rd_L6 x5 x6) x7).f0) then (if x1 < (wrap64 (((rd_T58 (rd_L6 x5 x6) x7).f0) + ((rd_T58 (rd_L6 x5 x6) x7).f1))) then (some (wrap64 (x6 + 1))) else (rickyardref26_Kind.l1 k x1 x5 x6 (wrap64 (x7 + 1)))) else (rickyardref26_Kind.l1 k x1 x5 x6 (wrap64 (x7 + 1)))) else (rickyardref26_Kind.l1 k x1 x5 x6 (wrap64 (x7 + 1))))) else (none)) else (rickyardref26_Kind.l0 k x1 x5 (wrap64 (x6 + 1)))) else (none)) else (none)
end
def rickyardref26_Kind.f (k : Nat) (l0_0 : List (S58)) (l0_1 : List (S58)) (l0_2 : List (S58)) (l0_3 : List (S58)) (l0_4 : List (S58)) (l0_5 : List (S58)) (l0_6 : List (S58)) (a1 : Int) : Option (Int) := (rickyardref26_lists.f l0_0 l0_1 l0_2 l0_3 l0_4 l0_5 l0_6).bind fun t484 => (rickyardref26_Kind.l0 k a1 t484 0)
theorem rickyardref26_Kind.mono_l : ∀ k, (∀ y0 y1 y2, LeO (rickyardref26_Kind.l0 k y0 y1 y2) (rickyardref26_Kind.l0 (k + 1) y0 y1 y2)) ∧ (∀ y0 y1 y2 y3, LeO (rickyardref26_Kind.l1 k y0 y1 y2 y3) (rickyardref26_Kind.l1 (k + 1) y0 y1 y2 y3))
 | 0 => ⟨fun _ _ _ r h => by simp [rickyardref26_Kind.l0] at h, fun _ _ _ _ r h => by simp [rickyardref26_Kind.l1] at h⟩
 | k + 1 => by
  obtain ⟨ih0, ih1⟩ := rickyardref26_Kind.mono_l k
  refine ⟨?_, ?_⟩
  ·intro y0 y1 y2
   unfold rickyardref26_Kind.l0
   repeat' first
   | (with_reducible exact ih0 _ _ _)
   | (with_reducible exact ih1 _ _ _ _)
   | (with_reducible exact LeO.refl _)
   | (with_reducible exact LeO.none _)
   | (with_reducible refine LeO.ite ?_ ?_)
   | (with_reducible refine LeO.bind ?_ (fun _ => ?_))
   | exact ih0 _ _ _
   | exact ih1 _ _ _ _
   | exact LeO.none _
   | refine LeO.ite ?_ ?_
   | refine LeO.bind ?_ (fun _ => ?_)
  ·intro y0 y1 y2 y3
   unfold rickyardref26_Kind.l1
   repeat' first
   | (with_reducible exact ih0 _ _ _)
   | (with_reducible exact ih1 _ _ _ _)
   | (with_reducible exact LeO.refl _)
   | (with_reducible exact LeO.none _)
   | (with_reducible refine LeO.ite ?_ ?_)
   | (with_reducible refine LeO.bind ?_ (fun _ => ?_))
   | exact ih0 _ _ _
   | exact ih1 _ _ _ _
   | exact LeO.none _
   | refine LeO.ite ?_ ?_
   | refine LeO.bind ?_ (fun _ => ?_)
theorem rickyardref26_Kind.mono : ∀ a0 a1 a2 a3 a4 a5 a6 a7 k, LeO (rickyardref26_Kind.f k a0 a1 a2 a3 a4 a5 a6 a7) (rickyardref26_Kind.f (k + 1) a0 a1 a2 a3 a4 a5 a6 a7) := by
 intro a0 a1 a2 a3 a4 a5 a6 a7 k
 obtain ⟨ih0, ih1⟩ := rickyardref26_Kind.mono_l k
 unfold rickyardref26_Kind.f
 repeat' first
   | (with_reducible exact ih0 _ _ _)
   | (with_reducible exact ih1 _ _ _ _)
   | (with_reducible exact LeO.refl _)
   | (with_reducible exact LeO.none _)
   | (with_reducible refine LeO.ite ?_ ?_)
   | (with_reducible refine LeO.bind ?_ (fun _ => ?_))
   | exact ih0 _ _ _
   | exact ih1 _ _ _ _
   | exact LeO.none _
   | refine LeO.ite ?_ ?_
   | refine LeO.bind ?_ (fun _ => ?_)
set_option maxHeartbeats 8000000 in
set_option maxRecDepth 100000 in
theorem rickyardref26_Kind.calls (k : Nat) (A0_0 : Option Addr) (c0_0 : Nat) (l0_0 : List (S58)) (A0_1 : Option Addr) (c0_1 : Nat) (l0_1 : List (S58)) (A0_2 : Option Addr) (c0_2 : Nat) (l0_2 : List (S58)) (A0_3 : Option Addr) (c0_3 : Nat) (l0_3 : List (S58)) (A0_4 : Option Addr) (c0_4 : Nat) (l0_4 : List (S58)) (A0_5 : Option Addr) (c0_5 : Nat) (l0_5 : List (S58)) (A0_6 : Option Addr) (c0_6 : Nat) (l0_6 : List (S58)) (a1 : Int) (r : Int) (w : World) (hr0_0 : Kd.C k58 w A0_0 l0_0.length l0_0) (hc0_0 : l0_0.length ≤ c0_0) (hr0_1 : Kd.C k58 w A0_1 l0_1.length l0_1) (hc0_1 : l0_1.length ≤ c0_1) (hr0_2 : Kd.C k58 w A0_2 l0_2.length l0_2) (hc0_2 : l0_2.length ≤ c0_2) (hr0_3 : Kd.C k58 w A0_3 l0_3.length l0_3) (hc0_3 : l0_3.length ≤ c0_3) (hr0_4 : Kd.C k58 w A0_4 l0_4.length l0_4) (hc0_4 : l0_4.length ≤ c0_4) (hr0_5 : Kd.C k58 w A0_5 l0_5.length l0_5) (hc0_5 : l0_5.length ≤ c0_5) (hr0_6 : Kd.C k58 w A0_6 l0_6.length l0_6) (hc0_6 : l0_6.length ≤ c0_6) (h : rickyardref26_Kind.f k l0_0 l0_1 l0_2 l0_3 l0_4 l0_5 l0_6 a1 = some r) :
  Calls Try.prog 33 #[.agg #[.slice A0_0 l0_0.length c0_0, .slice A0_1 l0_1.length c0_1, .slice A0_2 l0_2.length c0_2, .slice A0_3 l0_3.length c0_3, .slice A0_4 l0_4.length c0_4, .slice A0_5 l0_5.length c0_5, .slice A0_6 l0_6.length c0_6], .int .i64 a1] w fun e w' => e = .returned (.int .i64 r) ∧ Below w.heap.size w w' := by
 have hu46 := Try.underlying46
 have hu58 := Try.underlying58
 have HR0_0 := Aside0.mk hr0_0
 have HC0_0 := Aside0.mk hc0_0
 clear hr0_0 hc0_0
 have HR0_1 := Aside0.mk hr0_1
 have HC0_1 := Aside0.mk hc0_1
 clear hr0_1 hc0_1
 have HR0_2 := Aside0.mk hr0_2
 have HC0_2 := Aside0.mk hc0_2
 clear hr0_2 hc0_2
 have HR0_3 := Aside0.mk hr0_3
 have HC0_3 := Aside0.mk hc0_3
 clear hr0_3 hc0_3
 have HR0_4 := Aside0.mk hr0_4
 have HC0_4 := Aside0.mk hc0_4
 clear hr0_4 hc0_4
 have HR0_5 := Aside0.mk hr0_5
 have HC0_5 := Aside0.mk hc0_5
 clear hr0_5 hc0_5
 have HR0_6 := Aside0.mk hr0_6
 have HC0_6 := Aside0.mk hc0_6
 clear hr0_6 hc0_6
 have HB := Aside0.mk (Below.refl w.heap.size w)
 have H : ((rickyardref26_lists.f l0_0 l0_1 l0_2 l0_3 l0_4 l0_5 l0_6).bind fun t484 => (rickyardref26_Kind.l0 k a1 t484 0)) = some r := h
 clear h
 replace H := Option.bind_eq_some_iff.mp H
 obtain ⟨t484, A30, H⟩ := H
 replace H : (rickyardref26_Kind.l0 k a1 t484 0) = some r := H
 have A3 := Aside0.mk A30
 clear A30
 have H' := Aside0.mk H
 clear H
 go_enter Try.func33, Try.ntmps33
 go_wp2_with (first | ((with_reducible refine gate_dst (N := 2) rfl ?_); refine box_event ?hg (N := 2) ?hd (cs := #[.slice A0_0 l0_0.length c0_0, .slice A0_1 l0_1.length c0_1, .slice A0_2 l0_2.length c0_2, .slice A0_3 l0_3.length c0_3, .slice A0_4 l0_4.length c0_4, .slice A0_5 l0_5.length c0_5, .slice A0_6 l0_6.length c0_6]) (t := 46) ?hr ?_; (case hd => rfl); (case hg => rfl); (case hr => first | (go_simp; done) | (go_simp; rfl)); intro gb483 hg w4 hbox hb; have n0_ := Aside0.mk (below_step (by repeat (first | (with_reducible first | exact HB.out | apply below_alloc | apply pw_below_drewN | apply below_drew1) | exact HB.out)) hb); have n1_ := Aside0.mk (hbox); have n2_ := Aside0.mk ((by rw [hg]; exact (below_size (by repeat (first | (with_reducible first | exact HB.out | apply below_alloc | apply pw_below_drewN | apply below_drew1) | exact HB.out))) : w.heap.size ≤ gb483)); have n3_ := Aside0.mk ((by rw [hg]; exact (below_size (by repeat (first | (with_reducible first | exact HB.out | apply below_alloc | apply pw_below_drewN | apply below_drew1) | exact HB.out))) : w.heap.size ≤ gb483)); clear HB; have HB := n0_; have BK483 := n1_; have GW483 := n2_; have GE483 := n3_; clear n0_ n1_ n2_ n3_; clear hb hbox hg; have hcz5_0 : w4.cell? ⟨gb483, 0, none⟩ = some (.slice A0_0 l0_0.length c0_0) := (blk_cell BK483.out 0).trans rfl; have hcz5_1 : w4.cell? ⟨gb483, 1, none⟩ = some (.slice A0_1 l0_1.length c0_1) := (blk_cell BK483.out 1).trans rfl; have hcz5_2 : w4.cell? ⟨gb483, 2, none⟩ = some (.slice A0_2 l0_2.length c0_2) := (blk_cell BK483.out 2).trans rfl; have hcz5_3 : w4.cell? ⟨gb483, 3, none⟩ = some (.slice A0_3 l0_3.length c0_3) := (blk_cell BK483.out 3).trans rfl; have hcz5_4 : w4.cell? ⟨gb483, 4, none⟩ = some (.slice A0_4 l0_4.length c0_4) := (blk_cell BK483.out 4).trans rfl; have hcz5_5 : w4.cell? ⟨gb483, 5, none⟩ = some (.slice A0_5 l0_5.length c0_5) := (blk_cell BK483.out 5).trans rfl; have hcz5_6 : w4.cell? ⟨gb483, 6, none⟩ = some (.slice A0_6 l0_6.length c0_6) := (blk_cell BK483.out 6).trans rfl; have hfz5_0 := blk_frozen BK483.out 0; have hfz5_1 := blk_frozen BK483.out 1; have hfz5_2 := blk_frozen BK483.out 2; have hfz5_3 := blk_frozen BK483.out 3; have hfz5_4 := blk_frozen BK483.out 4; have hfz5_5 := blk_frozen BK483.out 5; have hfz5_6 := blk_frozen BK483.out 6) | ((with_reducible refine gate_callee (f := 59) rfl ?_); refine goesL_ (some 10) rfl rfl Try.func59 (by kernel_rfl) rfl #[.agg #[.slice A0_0 l0_0.length c0_0, .slice A0_1 l0_1.length c0_1, .slice A0_2 l0_2.length c0_2, .slice A0_3 l0_3.length c0_3, .slice A0_4 l0_4.length c0_4, .slice A0_5 l0_5.length c0_5, .slice A0_6 l0_6.length c0_6]] rfl (by (try simp only [List.map_toArray, List.map_cons, List.map_nil]); first | done | rfl | (simp only [List.length_drop, List.length_take]; rfl)) ?_; (with_reducible refine (rickyardref26_lists.calls (fun k_ => k_ < w.heap.size) _ _ l0_0 (fun k_ => k_ < w.heap.size) _ _ l0_1 (fun k_ => k_ < w.heap.size) _ _ l0_2 (fun k_ => k_ < w.heap.size) _ _ l0_3 (fun k_ => k_ < w.heap.size) _ _ l0_4 (fun k_ => k_ < w.heap.size) _ _ l0_5 (fun k_ => k_ < w.heap.size) _ _ l0_6 t484 _ ?side1 ?side2 ?side3 ?side4 ?side5 ?side6 ?side7 A3.out).mono ?_); (case side1 => exact Kd.V_mk HC0_0.out (Kd.F_below (Kd.C_F k58_heap HR0_0.out) (by repeat (first | (with_reducible first | exact HB.out | apply below_alloc | apply pw_below_drewN | apply below_drew1 | refine below_set ?_ GE483.out) | exact HB.out)))); (case side2 => exact Kd.V_mk HC0_1.out (Kd.F_below (Kd.C_F k58_heap HR0_1.out) (by repeat (first | (with_reducible first | exact HB.out | apply below_alloc | apply pw_below_drewN | apply below_drew1 | refine below_set ?_ GE483.out) | exact HB.out)))); (case side3 => exact Kd.V_mk HC0_2.out (Kd.F_below (Kd.C_F k58_heap HR0_2.out) (by repeat (first | (with_reducible first | exact HB.out | apply below_alloc | apply pw_below_drewN | apply below_drew1 | refine below_set ?_ GE483.out) | exact HB.out)))); (case side4 => exact Kd.V_mk HC0_3.out (Kd.F_below (Kd.C_F k58_heap HR0_3.out) (by repeat (first | (with_reducible first | exact HB.out | apply below_alloc | apply pw_below_drewN | apply below_drew1 | refine below_set ?_ GE483.out) | exact HB.out)))); (case side5 => exact Kd.V_mk HC0_4.out (Kd.F_below (Kd.C_F k58_heap HR0_4.out) (by repeat (first | (with_reducible first | exact HB.out | apply below_alloc | apply pw_below_drewN | apply below_drew1 | refine below_set ?_ GE483.out) | exact HB.out)))); (case side6 => exact Kd.V_mk HC0_5.out (Kd.F_below (Kd.C_F k58_heap HR0_5.out) (by repeat (first | (with_reducible first | exact HB.out | apply below_alloc | apply pw_below_drewN | apply below_drew1 | refine below_set ?_ GE483.out) | exact HB.out)))); (case side7 => exact Kd.V_mk HC0_6.out (Kd.F_below (Kd.C_F k58_heap HR0_6.out) (by repeat (first | (with_reducible first | exact HB.out | apply below_alloc | apply pw_below_drewN | apply below_drew1 | refine below_set ?_ GE483.out) | exact HB.out)))); rintro e w6 ⟨v485, rfl, ho0, hb⟩; refine ⟨_, rfl, ?_⟩; have n0_ := Aside0.mk (Kd.N_lower (Kd.N_mono (ok' := fun k_ => k_ ≠ gb483) ho0 (fun k_ hk_ => Or.elim hk_ (fun hs_ => Or.elim hs_ (fun hs_ => fun e_ => Nat.not_le.2 hs_ (by rw [e_]; exact GW483.out)) (fun hs_ => Or.elim hs_ (fun hs_ => fun e_ => Nat.not_le.2 hs_ (by rw [e_]; exact GW483.out)) (fun hs_ => Or.elim hs_ (fun hs_ => fun e_ => Nat.not_le.2 hs_ (by rw [e_]; exact GW483.out)) (fun hs_ => Or.elim hs_ (fun hs_ => fun e_ => Nat.not_le.2 hs_ (by rw [e_]; exact GW483.out)) (fun hs_ => Or.elim hs_ (fun hs_ => fun e_ => Nat.not_le.2 hs_ (by rw [e_]; exact GW483.out)) (fun hs_ => Or.elim hs_ (fun hs_ => fun e_ => Nat.not_le.2 hs_ (by rw [e_]; exact GW483.out)) (fun hs_ => fun e_ => Nat.not_le.2 hs_ (by rw [e_]; exact GW483.out)))))))) (fun hn_ => (Kd.freshB (g := gb483) (o := .cells #[.slice A0_0 l0_0.length c0_0, .slice A0_1 l0_1.length c0_1, .slice A0_2 l0_2.length c0_2, .slice A0_3 l0_3.length c0_3, .slice A0_4 l0_4.length c0_4, .slice A0_5 l0_5.length c0_5, .slice A0_6 l0_6.length c0_6] 46 (0, 0)) (by (with_reducible repeat (first | refine blk_drewN ?_ _ | refine blk_drew ?_ | refine blk_alloc ?_ _)); exact BK483.out) k_ hn_)))) (below_size (by repeat (first | (with_reducible first | exact HB.out | apply below_alloc | apply pw_below_drewN | apply below_drew1 | refine below_set ?_ GE483.out) | exact HB.out)))); have n1_ := Aside0.mk (blk_below (g := gb483) (o := .cells #[.slice A0_0 l0_0.length c0_0, .slice A0_1 l0_1.length c0_1, .slice A0_2 l0_2.length c0_2, .slice A0_3 l0_3.length c0_3, .slice A0_4 l0_4.length c0_4, .slice A0_5 l0_5.length c0_5, .slice A0_6 l0_6.length c0_6] 46 (0, 0)) (by (with_reducible repeat (first | refine blk_drewN ?_ _ | refine blk_drew ?_ | refine blk_alloc ?_ _)); exact BK483.out) hb); have n2_ := Aside0.mk (below_step (by repeat (first | (with_reducible first | exact HB.out | apply below_alloc | apply pw_below_drewN | apply below_drew1 | refine below_set ?_ GE483.out) | exact HB.out)) hb); clear BK483; clear HB; have HO486 := n0_; have BK483 := n1_; have HB := n2_; clear n0_ n1_ n2_; (try clear hb); (try clear hb2); (try clear hk); (try clear hi); (try clear ho0)))
 go_loopg [6] k (fun kq v6 w' => ∃ (x6_1 : Int), v6 = .int .i64 x6_1 ∧ Aside0 (rickyardref26_Kind.l0 kq a1 t484 x6_1 = some r) ∧ Aside0 (kq ≤ k) ∧ Aside0 (Kd.N (Kd.slice 58 k58) 44 w' w.heap.size (fun k_ => k_ ≠ gb483) v485 t484) ∧ Aside0 (w'.heap[gb483]? = some (.cells #[(.slice A0_0 l0_0.length c0_0), (.slice A0_1 l0_1.length c0_1), (.slice A0_2 l0_2.length c0_2), (.slice A0_3 l0_3.length c0_3), (.slice A0_4 l0_4.length c0_4), (.slice A0_5 l0_5.length c0_5), (.slice A0_6 l0_6.length c0_6)] 46 (0, 0))) ∧ Aside0 (Below w.heap.size w w'))
 case atStart => exact ⟨(0), (by first | rfl | (simp; done) | (simp [*]; done)), H', ⟨Nat.le_refl _⟩, ⟨by (with_reducible repeat (first | apply Kd.N_alloc | apply Kd.N_drewN | apply Kd.N_drew)); exact HO486.out⟩, ⟨by (with_reducible repeat (first | refine blk_drewN ?_ _ | refine blk_drew ?_ | refine blk_alloc ?_ _)); exact BK483.out⟩, ⟨by repeat (first | (with_reducible first | exact HB.out | apply below_alloc | apply pw_below_drewN | apply below_drew1 | refine below_set ?_ GE483.out) | exact HB.out)⟩⟩
 case round =>
  clear H'
  try clear p2
  try clear c3
  try clear c5
  try clear hcz5_0
  try clear hcz5_1
  try clear hcz5_2
  try clear hcz5_3
  try clear hcz5_4
  try clear hcz5_5
  try clear hcz5_6
  try clear hfz5_0
  try clear hfz5_1
  try clear hfz5_2
  try clear hfz5_3
  try clear hfz5_4
  try clear hfz5_5
  try clear hfz5_6
  obtain ⟨x6_1, rfl, HA, HK1, HO_5, BK483, HB⟩ := hrel
  cases gk with
  | zero => exact absurd HA.out (by simp [rickyardref26_Kind.l0])
  | succ k1 =>
   have H := HA.out
   clear HA
   simp only [rickyardref26_Kind.l0] at H
   by_cases c7 : x6_1 < (t484.length : Int)
   ·rw [if_pos c7] at H
    have c7b0 : decide (x6_1 < (t484.length : Int)) = true := decide_eq_true c7
    clear c7
    have H' := Aside0.mk H
    clear H
    obtain ⟨Ao8, co8, eo8⟩ := Kd.N_slice HO_5.out
    subst eo8
    go_wp2
    go_loopg [7] k1 (fun kq v7 w' => ∃ (x7_2 : Int), v7 = .int .i64 x7_2 ∧ Aside0 (rickyardref26_Kind.l1 kq a1 t484 x6_1 x7_2 = some r) ∧ Aside0 (kq ≤ k1) ∧ Aside0 (Kd.N (Kd.slice 58 k58) 44 w' w.heap.size (fun k_ => k_ ≠ gb483) (.slice Ao8 t484.length co8) t484) ∧ Aside0 (w'.heap[gb483]? = some (.cells #[(.slice A0_0 l0_0.length c0_0), (.slice A0_1 l0_1.length c0_1), (.slice A0_2 l0_2.length c0_2), (.slice A0_3 l0_3.length c0_3), (.slice A0_4 l0_4.length c0_4), (.slice A0_5 l0_5.length c0_5), (.slice A0_6 l0_6.length c0_6)] 46 (0, 0))) ∧ Aside0 (Below w.heap.size w w'))
    case atStart => exact ⟨(0), (by first | rfl | (simp; done) | (simp [*]; done)), H', ⟨Nat.le_refl _⟩, ⟨by (with_reducible repeat (first | apply Kd.N_alloc | apply Kd.N_drewN | apply Kd.N_drew)); exact HO_5.out⟩, ⟨by (with_reducible repeat (first | refine blk_drewN ?_ _ | refine blk_drew ?_ | refine blk_alloc ?_ _)); exact BK483.out⟩, ⟨by repeat (first | (with_reducible first | exact HB.out | apply below_alloc | apply pw_below_drewN | apply below_drew1 | refine below_set ?_ GE483.out) | exact HB.out)⟩⟩
    case round =>
     clear H'
     try clear p2
     try clear c3
     try clear c5
     try clear c7
     try clear c7b0
     try clear hcz5_0
     try clear hcz5_1
     try clear hcz5_2
     try clear hcz5_3
     try clear hcz5_4
     try clear hcz5_5
     try clear hcz5_6
     try clear hfz5_0
     try clear hfz5_1
     try clear hfz5_2
     try clear hfz5_3
     try clear hfz5_4
     try clear hfz5_5
     try clear hfz5_6
     try clear p2
     obtain ⟨x7_2, rfl, HA, HK2, HO_5, BK483, HB⟩ := hrel
     cases gk with
     | zero => exact absurd HA.out (by simp [rickyardref26_Kind.l1])
     | succ k2 =>
      have H := HA.out
      clear HA
      simp only [rickyardref26_Kind.l1] at H
      by_cases c9 : 0 ≤ x6_1
      ·rw [if_pos c9] at H
       have c9b0 : decide (0 ≤ x6_1) = true := decide_eq_true c9
       clear c9
       by_cases c10 : x6_1 < (t484.length : Int)
       ·rw [if_pos c10] at H
        have c10b0 : decide (x6_1 < (t484.length : Int)) = true := decide_eq_true c10
        clear c10
        by_cases c11 : x7_2 < ((rd_L6 t484 x6_1).length : Int)
        ·rw [if_pos c11] at H
         have c11b0 : decide (x7_2 < ((rd_L6 t484 x6_1).length : Int)) = true := decide_eq_true c11
         clear c11
         by_cases c12 : 0 ≤ x7_2
         ·rw [if_pos c12] at H
          have c12b0 : decide (0 ≤ x7_2) = true := decide_eq_true c12
          clear c12
          replace H := Option.bind_eq_some_iff.mp H
          obtain ⟨t491, A130, H⟩ := H
          replace H : (if t491 = true then (if a1 ≥ ((rd_T58 (rd_L6 t484 x6_1) x7_2).f0) then (if a1 < (wrap64 (((rd_T58 (rd_L6 t484 x6_1) x7_2).f0) + ((rd_T58 (rd_L6 t484 x6_1) x7_2).f1))) then (some (wrap64 (x6_1 + 1))) else (rickyardref26_Kind.l1 k2 a1 t484 x6_1 (wrap64 (x7_2 + 1)))) else (rickyardref26_Kind.l1 k2 a1 t484 x6_1 (wrap64 (x7_2 + 1)))) else (rickyardref26_Kind.l1 k2 a1 t484 x6_1 (wrap64 (x7_2 + 1)))) = some r := H
          have A13 := Aside0.mk A130
          clear A130
          by_cases c14 : t491 = true
          ·subst c14
           have H1 : (if a1 ≥ ((rd_T58 (rd_L6 t484 x6_1) x7_2).f0) then (if a1 < (wrap64 (((rd_T58 (rd_L6 t484 x6_1) x7_2).f0) + ((rd_T58 (rd_L6 t484 x6_1) x7_2).f1))) then (some (wrap64 (x6_1 + 1))) else (rickyardref26_Kind.l1 k2 a1 t484 x6_1 (wrap64 (x7_2 + 1)))) else (rickyardref26_Kind.l1 k2 a1 t484 x6_1 (wrap64 (x7_2 + 1)))) = some r := by rw [if_pos rfl] at H; exact H
           clear H
           have H := H1
           clear H1
           by_cases c15 : a1 ≥ ((rd_T58 (rd_L6 t484 x6_1) x7_2).f0)
           ·rw [if_pos c15] at H
            have c15b0 : decide (((rd_T58 (rd_L6 t484 x6_1) x7_2).f0) ≤ a1) = true := decide_eq_true c15
            clear c15
            by_cases c16 : a1 < (wrap64 (((rd_T58 (rd_L6 t484 x6_1) x7_2).f0) + ((rd_T58 (rd_L6 t484 x6_1) x7_2).f1)))
            ·rw [if_pos c16] at H
             have c16b0 : decide (a1 < (wrap64 (((rd_T58 (rd_L6 t484 x6_1) x7_2).f0) + ((rd_T58 (rd_L6 t484 x6_1) x7_2).f1)))) = true := decide_eq_true c16
             clear c16
             obtain rfl := Option.some.inj H
             have p487 : 0 ≤ (x6_1 : Int) := of_decide_eq_true (by first | (with_reducible assumption) | assumption)
             have q487 : x6_1 < (t484.length : Int) := of_decide_eq_true (by first | (with_reducible assumption) | assumption)
             obtain ⟨ad487, A487_0, c487_0, e487, hx487_0, hl487_0, hi487_0⟩ := at_L6 (Kd.N_reads' HO_5.out).2.2 x6_1 p487 q487
             cases e487
             obtain ⟨ce487, hce487, hMe487, hcc487⟩ := Kd.N_get HO_5.out [] x6_1 p487 (by first | exact q487 | exact of_decide_eq_true (by first | (with_reducible assumption) | assumption) | (have e_ := (Kd.N_reads' HO_5.out).1; omega))
             obtain ⟨ua487_0, uc487_0, rfl, ul487_0, ge487_0⟩ := Kd.FK_slice_open hMe487
             have hv487_0 := hcc487 0 _ rfl
             rw [Nat.add_zero, show ((Kd.slice 58 k58)).sz = 1 from rfl, Nat.mul_one] at hv487_0
             replace hv487_0 := Option.some.inj (hv487_0.symm.trans hx487_0)
             injection hv487_0 with hva_ hvn_ hvc_
             rw [hva_] at ge487_0
             rw [hvc_] at ul487_0
             have HL487_0 := Aside0.mk (show Kd.V k58 58 _ w.heap.size _ _ (rd_L6 t484 x6_1) from Kd.V_mk ul487_0 ge487_0)
             clear hva_ hvn_ hvc_ ge487_0 ul487_0
             clear hcc487 hce487
             have HR487_0 := Aside0.mk hi487_0
             have HC487_0 := Aside0.mk hl487_0
             clear hi487_0 hl487_0
             replace p487 := eq_true p487
             replace q487 := eq_true q487
             have p488 : 0 ≤ (x6_1 : Int) := of_decide_eq_true (by first | (with_reducible assumption) | assumption)
             have q488 : x6_1 < (t484.length : Int) := of_decide_eq_true (by first | (with_reducible assumption) | assumption)
             obtain ⟨ad488, A488_0, c488_0, e488, hx488_0, hl488_0, hi488_0⟩ := at_L6 (Kd.N_reads' HO_5.out).2.2 x6_1 p488 q488
             obtain rfl : ad487 = ad488 := (by injection e488)
             obtain ⟨ce488, hce488, hMe488, hcc488⟩ := Kd.N_get HO_5.out [] x6_1 p488 (by first | exact q488 | exact of_decide_eq_true (by first | (with_reducible assumption) | assumption) | (have e_ := (Kd.N_reads' HO_5.out).1; omega))
             obtain ⟨ua488_0, uc488_0, rfl, ul488_0, ge488_0⟩ := Kd.FK_slice_open hMe488
             have hv488_0 := hcc488 0 _ rfl
             rw [Nat.add_zero, show ((Kd.slice 58 k58)).sz = 1 from rfl, Nat.mul_one] at hv488_0
             replace hv488_0 := Option.some.inj (hv488_0.symm.trans hx488_0)
             injection hv488_0 with hva_ hvn_ hvc_
             rw [hva_] at ge488_0
             rw [hvc_] at ul488_0
             have HL488_0 := Aside0.mk (show Kd.V k58 58 _ w.heap.size _ _ (rd_L6 t484 x6_1) from Kd.V_mk ul488_0 ge488_0)
             clear hva_ hvn_ hvc_ ge488_0 ul488_0
             clear hcc488 hce488
             have HR488_0 := Aside0.mk hi488_0
             have HC488_0 := Aside0.mk hl488_0
             clear hi488_0 hl488_0
             replace p488 := eq_true p488
             replace q488 := eq_true q488
             have ea_ := Option.some.inj (hx487_0.symm.trans hx488_0)
             injection ea_ with ea_ en_ ec_
             subst ea_
             subst ec_
             clear en_
             have p489 : 0 ≤ (x7_2 : Int) := of_decide_eq_true (by first | (with_reducible assumption) | assumption)
             have q489 : x7_2 < ((rd_L6 t484 x6_1).length : Int) := of_decide_eq_true (by first | (with_reducible assumption) | assumption)
             obtain ⟨ad489, e489, hx489_0, hx489_1⟩ := at_T58 (by repeat (first | (with_reducible exact HR488_0.out) | (with_reducible refine Kd.C_alloc ?_ _) | (with_reducible refine Kd.C_drewN ?_ _) | (with_reducible refine Kd.C_drew ?_) | exact HR488_0.out)) x7_2 p489 q489
             cases e489
             replace p489 := eq_true p489
             replace q489 := eq_true q489
             go_wp2_with (first | ((with_reducible refine gate_dst (N := 8) rfl ?_); refine box_event ?hg (N := 8) ?hd (cs := #[.int .i64 0, .int .i64 0]) (t := 58) ?hr ?_; (case hd => rfl); (case hg => rfl); (case hr => first | (go_simp; done) | (go_simp; rfl)); intro gb490 hg w17 hbox hb; have n0_ := Aside0.mk (Kd.N_below (Kd.N_elderB (by (with_reducible repeat (first | apply Kd.N_alloc | apply Kd.N_drewN | apply Kd.N_drew)); exact HO_5.out) gb490 (Nat.le_of_eq hg.symm)) hb); have n1_ := Aside0.mk (Kd.V_below (Kd.V_elderB (by (with_reducible repeat (first | apply Kd.V_alloc | apply Kd.V_drewN | apply Kd.V_drew)); exact HL487_0.out) gb490 (Nat.le_of_eq hg.symm)) hb); have n2_ := Aside0.mk (Kd.V_below (Kd.V_elderB (by (with_reducible repeat (first | apply Kd.V_alloc | apply Kd.V_drewN | apply Kd.V_drew)); exact HL488_0.out) gb490 (Nat.le_of_eq hg.symm)) hb); have n3_ := Aside0.mk (blk_below (g := gb483) (o := .cells #[.slice A0_0 l0_0.length c0_0, .slice A0_1 l0_1.length c0_1, .slice A0_2 l0_2.length c0_2, .slice A0_3 l0_3.length c0_3, .slice A0_4 l0_4.length c0_4, .slice A0_5 l0_5.length c0_5, .slice A0_6 l0_6.length c0_6] 46 (0, 0)) (by (with_reducible repeat (first | refine blk_drewN ?_ _ | refine blk_drew ?_ | refine blk_alloc ?_ _)); exact BK483.out) hb); have n4_ := Aside0.mk (Kd.C_below (by repeat (first | (with_reducible exact HR487_0.out) | (with_reducible refine Kd.C_alloc ?_ _) | (with_reducible refine Kd.C_drewN ?_ _) | (with_reducible refine Kd.C_drew ?_) | exact HR487_0.out)) hb); have n5_ := Aside0.mk (Kd.C_below (by repeat (first | (with_reducible exact HR488_0.out) | (with_reducible refine Kd.C_alloc ?_ _) | (with_reducible refine Kd.C_drewN ?_ _) | (with_reducible refine Kd.C_drew ?_) | exact HR488_0.out)) hb); have n6_ := Aside0.mk (below_step (by repeat (first | (with_reducible first | exact HB.out | apply below_alloc | apply pw_below_drewN | apply below_drew1 | refine below_set ?_ GE483.out) | exact HB.out)) hb); have n7_ := Aside0.mk (hbox); have n8_ := Aside0.mk ((by rw [hg]; exact (below_size (by repeat (first | (with_reducible first | exact HB.out | apply below_alloc | apply pw_below_drewN | apply below_drew1 | refine below_set ?_ GE483.out) | exact HB.out))) : w.heap.size ≤ gb490)); have n9_ := Aside0.mk ((by rw [hg]; exact (below_size (by repeat (first | (with_reducible first | exact HB.out | apply below_alloc | apply pw_below_drewN | apply below_drew1 | refine below_set ?_ GE483.out) | exact HB.out))) : w.heap.size ≤ gb490)); have n10_ := Aside0.mk ((by rw [hg]; exact Nat.ne_of_lt (blk_lt (g := gb483) (o := .cells #[.slice A0_0 l0_0.length c0_0, .slice A0_1 l0_1.length c0_1, .slice A0_2 l0_2.length c0_2, .slice A0_3 l0_3.length c0_3, .slice A0_4 l0_4.length c0_4, .slice A0_5 l0_5.length c0_5, .slice A0_6 l0_6.length c0_6] 46 (0, 0)) (by (with_reducible repeat (first | refine blk_drewN ?_ _ | refine blk_drew ?_ | refine blk_alloc ?_ _)); exact BK483.out)) : gb483 ≠ gb490)); have n11_ := Aside0.mk ((by rw [hg]; exact Nat.ne_of_gt (blk_lt (g := gb483) (o := .cells #[.slice A0_0 l0_0.length c0_0, .slice A0_1 l0_1.length c0_1, .slice A0_2 l0_2.length c0_2, .slice A0_3 l0_3.length c0_3, .slice A0_4 l0_4.length c0_4, .slice A0_5 l0_5.length c0_5, .slice A0_6 l0_6.length c0_6] 46 (0, 0)) (by (with_reducible repeat (first | refine blk_drewN ?_ _ | refine blk_drew ?_ | refine blk_alloc ?_ _)); exact BK483.out)) : gb490 ≠ gb483)); clear HO_5; clear HL487_0; clear HL488_0; clear BK483; clear HR487_0; clear HR488_0; clear HB; have HO_5 := n0_; have HL487_0 := n1_; have HL488_0 := n2_; have BK483 := n3_; have HR487_0 := n4_; have HR488_0 := n5_; have HB := n6_; have BK490 := n7_; have GW490 := n8_; have GE490 := n9_; have NB483_490 := n10_; have NB490_483 := n11_; clear n0_ n1_ n2_ n3_ n4_ n5_ n6_ n7_ n8_ n9_ n10_ n11_; clear hb hbox hg; have hnb18 := NB490_483.out; have hnc18 := NB483_490.out; have hcz19_0 : w17.cell? ⟨gb490, 0, none⟩ = some (.int .i64 0) := (blk_cell BK490.out 0).trans rfl; have hcz19_1 : w17.cell? ⟨gb490, 1, none⟩ = some (.int .i64 0) := (blk_cell BK490.out 1).trans rfl; have hfz19_0 := blk_frozen BK490.out 0; have hfz19_1 := blk_frozen BK490.out 1) | ((with_reducible refine gate_callee (f := 64) rfl ?_); refine goesL_ (some 34) rfl rfl Try.func64 (by kernel_rfl) rfl #[.agg #[.int .i64 ((rd_T58 (rd_L6 t484 x6_1) x7_2).f0), .int .i64 ((rd_T58 (rd_L6 t484 x6_1) x7_2).f1)]] rfl (by (try simp only [List.map_toArray, List.map_cons, List.map_nil]); first | done | rfl | (simp only [List.length_drop, List.length_take]; rfl)) ?_; (with_reducible refine (rickyardref26_MayPiece.calls ((rd_T58 (rd_L6 t484 x6_1) x7_2).f0) ((rd_T58 (rd_L6 t484 x6_1) x7_2).f1) true _ A13.out).mono ?_); rintro e w20 ⟨rfl, hb⟩; refine ⟨_, rfl, ?_⟩; have n0_ := Aside0.mk (Kd.N_below (by (with_reducible repeat (first | apply Kd.N_alloc | apply Kd.N_drewN | apply Kd.N_drew)); exact (Kd.N_mono (Kd.N_far (p := ⟨gb490, 1, none⟩) (Kd.N_far (p := ⟨gb490, 0, none⟩) (Kd.N_mono HO_5.out (fun k_ hk => (⟨hk, hk.2⟩ : _ ∧ k_ ≠ gb490))) (fun _ hk => hk.2) (.int .i64 ((rd_T58 (rd_L6 t484 x6_1) x7_2).f0))) (fun _ hk => hk.2) (.int .i64 ((rd_T58 (rd_L6 t484 x6_1) x7_2).f1))) (fun _ h_ => h_.1))) hb); have n1_ := Aside0.mk (Kd.V_below (by (with_reducible repeat (first | apply Kd.V_alloc | apply Kd.V_drewN | apply Kd.V_drew)); exact (Kd.V_mono (Kd.V_far (p := ⟨gb490, 1, none⟩) (Kd.V_far (p := ⟨gb490, 0, none⟩) (Kd.V_mono HL487_0.out (fun k_ hk => (⟨hk, hk.2⟩ : _ ∧ k_ ≠ gb490))) (fun _ hk => hk.2) (.int .i64 ((rd_T58 (rd_L6 t484 x6_1) x7_2).f0))) (fun _ hk => hk.2) (.int .i64 ((rd_T58 (rd_L6 t484 x6_1) x7_2).f1))) (fun _ h_ => h_.1))) hb); have n2_ := Aside0.mk (Kd.V_below (by (with_reducible repeat (first | apply Kd.V_alloc | apply Kd.V_drewN | apply Kd.V_drew)); exact (Kd.V_mono (Kd.V_far (p := ⟨gb490, 1, none⟩) (Kd.V_far (p := ⟨gb490, 0, none⟩) (Kd.V_mono HL488_0.out (fun k_ hk => (⟨hk, hk.2⟩ : _ ∧ k_ ≠ gb490))) (fun _ hk => hk.2) (.int .i64 ((rd_T58 (rd_L6 t484 x6_1) x7_2).f0))) (fun _ hk => hk.2) (.int .i64 ((rd_T58 (rd_L6 t484 x6_1) x7_2).f1))) (fun _ h_ => h_.1))) hb); have n3_ := Aside0.mk (blk_below (g := gb483) (o := .cells #[.slice A0_0 l0_0.length c0_0, .slice A0_1 l0_1.length c0_1, .slice A0_2 l0_2.length c0_2, .slice A0_3 l0_3.length c0_3, .slice A0_4 l0_4.length c0_4, .slice A0_5 l0_5.length c0_5, .slice A0_6 l0_6.length c0_6] 46 (0, 0)) (by (with_reducible repeat (first | refine blk_drewN ?_ _ | refine blk_drew ?_ | refine blk_alloc ?_ _)); refine blk_far ?_ NB483_490.out _; (with_reducible repeat (first | refine blk_drewN ?_ _ | refine blk_drew ?_ | refine blk_alloc ?_ _)); refine blk_far ?_ NB483_490.out _; (with_reducible repeat (first | refine blk_drewN ?_ _ | refine blk_drew ?_ | refine blk_alloc ?_ _)); exact BK483.out) hb); have n4_ := Aside0.mk (Kd.C_below ((Kd.V_reads' (by (with_reducible repeat (first | apply Kd.V_alloc | apply Kd.V_drewN | apply Kd.V_drew)); exact (Kd.V_mono (Kd.V_far (p := ⟨gb490, 1, none⟩) (Kd.V_far (p := ⟨gb490, 0, none⟩) (Kd.V_mono HL487_0.out (fun k_ hk => (⟨hk, hk.2⟩ : _ ∧ k_ ≠ gb490))) (fun _ hk => hk.2) (.int .i64 ((rd_T58 (rd_L6 t484 x6_1) x7_2).f0))) (fun _ hk => hk.2) (.int .i64 ((rd_T58 (rd_L6 t484 x6_1) x7_2).f1))) (fun _ h_ => h_.1)))).2.2) hb); have n5_ := Aside0.mk (Kd.C_below ((Kd.V_reads' (by (with_reducible repeat (first | apply Kd.V_alloc | apply Kd.V_drewN | apply Kd.V_drew)); exact (Kd.V_mono (Kd.V_far (p := ⟨gb490, 1, none⟩) (Kd.V_far (p := ⟨gb490, 0, none⟩) (Kd.V_mono HL488_0.out (fun k_ hk => (⟨hk, hk.2⟩ : _ ∧ k_ ≠ gb490))) (fun _ hk => hk.2) (.int .i64 ((rd_T58 (rd_L6 t484 x6_1) x7_2).f0))) (fun _ hk => hk.2) (.int .i64 ((rd_T58 (rd_L6 t484 x6_1) x7_2).f1))) (fun _ h_ => h_.1)))).2.2) hb); have n6_ := Aside0.mk (blk_below (g := gb490) (o := .cells #[.int .i64 ((rd_T58 (rd_L6 t484 x6_1) x7_2).f0), .int .i64 ((rd_T58 (rd_L6 t484 x6_1) x7_2).f1)] 58 (0, 0)) (by (with_reducible repeat (first | refine blk_drewN ?_ _ | refine blk_drew ?_ | refine blk_alloc ?_ _)); refine blk_put (cs := #[.int .i64 ((rd_T58 (rd_L6 t484 x6_1) x7_2).f0), .int .i64 0]) ?_ 1 _ rfl; (with_reducible repeat (first | refine blk_drewN ?_ _ | refine blk_drew ?_ | refine blk_alloc ?_ _)); refine blk_put (cs := #[.int .i64 0, .int .i64 0]) ?_ 0 _ rfl; (with_reducible repeat (first | refine blk_drewN ?_ _ | refine blk_drew ?_ | refine blk_alloc ?_ _)); exact BK490.out) hb); have n7_ := Aside0.mk (below_step (by repeat (first | (with_reducible first | exact HB.out | apply below_alloc | apply pw_below_drewN | apply below_drew1 | refine below_set ?_ GE483.out | refine below_set ?_ GE490.out) | exact HB.out)) hb); clear HO_5; clear HL487_0; clear HL488_0; clear BK483; clear HR487_0; clear HR488_0; clear BK490; clear HB; have HO_5 := n0_; have HL487_0 := n1_; have HL488_0 := n2_; have BK483 := n3_; have HR487_0 := n4_; have HR488_0 := n5_; have BK490 := n6_; have HB := n7_; clear n0_ n1_ n2_ n3_ n4_ n5_ n6_ n7_; (try clear hb); (try clear hb2); (try clear hk); (try clear hi); have hcz21_0 : w20.cell? ⟨gb490, 0, none⟩ = some (.int .i64 ((rd_T58 (rd_L6 t484 x6_1) x7_2).f0)) := (blk_cell BK490.out 0).trans rfl; have hcz21_1 : w20.cell? ⟨gb490, 1, none⟩ = some (.int .i64 ((rd_T58 (rd_L6 t484 x6_1) x7_2).f1)) := (blk_cell BK490.out 1).trans rfl; have hfz21_0 := blk_frozen BK490.out 0; have hfz21_1 := blk_frozen BK490.out 1))
             go_ret
             exact ⟨by first | rfl | (simp [errW_none, errW_some] <;> rfl) | (simp [*, errW_none, errW_some] <;> rfl), by repeat (first | (with_reducible first | exact HB.out | apply below_alloc | apply pw_below_drewN | apply below_drew1 | refine below_set ?_ GE483.out | refine below_set ?_ GE490.out) | exact HB.out)⟩
            ·rw [if_neg c16] at H
             have c16b0 : decide (a1 < (wrap64 (((rd_T58 (rd_L6 t484 x6_1) x7_2).f0) + ((rd_T58 (rd_L6 t484 x6_1) x7_2).f1)))) = false := decide_eq_false c16
             clear c16
             have H' := Aside0.mk H
             clear H
             have p487 : 0 ≤ (x6_1 : Int) := of_decide_eq_true (by first | (with_reducible assumption) | assumption)
             have q487 : x6_1 < (t484.length : Int) := of_decide_eq_true (by first | (with_reducible assumption) | assumption)
             obtain ⟨ad487, A487_0, c487_0, e487, hx487_0, hl487_0, hi487_0⟩ := at_L6 (Kd.N_reads' HO_5.out).2.2 x6_1 p487 q487
             cases e487
             obtain ⟨ce487, hce487, hMe487, hcc487⟩ := Kd.N_get HO_5.out [] x6_1 p487 (by first | exact q487 | exact of_decide_eq_true (by first | (with_reducible assumption) | assumption) | (have e_ := (Kd.N_reads' HO_5.out).1; omega))
             obtain ⟨ua487_0, uc487_0, rfl, ul487_0, ge487_0⟩ := Kd.FK_slice_open hMe487
             have hv487_0 := hcc487 0 _ rfl
             rw [Nat.add_zero, show ((Kd.slice 58 k58)).sz = 1 from rfl, Nat.mul_one] at hv487_0
             replace hv487_0 := Option.some.inj (hv487_0.symm.trans hx487_0)
             injection hv487_0 with hva_ hvn_ hvc_
             rw [hva_] at ge487_0
             rw [hvc_] at ul487_0
             have HL487_0 := Aside0.mk (show Kd.V k58 58 _ w.heap.size _ _ (rd_L6 t484 x6_1) from Kd.V_mk ul487_0 ge487_0)
             clear hva_ hvn_ hvc_ ge487_0 ul487_0
             clear hcc487 hce487
             have HR487_0 := Aside0.mk hi487_0
             have HC487_0 := Aside0.mk hl487_0
             clear hi487_0 hl487_0
             replace p487 := eq_true p487
             replace q487 := eq_true q487
             have p488 : 0 ≤ (x6_1 : Int) := of_decide_eq_true (by first | (with_reducible assumption) | assumption)
             have q488 : x6_1 < (t484.length : Int) := of_decide_eq_true (by first | (with_reducible assumption) | assumption)
             obtain ⟨ad488, A488_0, c488_0, e488, hx488_0, hl488_0, hi488_0⟩ := at_L6 (Kd.N_reads' HO_5.out).2.2 x6_1 p488 q488
             obtain rfl : ad487 = ad488 := (by injection e488)
             obtain ⟨ce488, hce488, hMe488, hcc488⟩ := Kd.N_get HO_5.out [] x6_1 p488 (by first | exact q488 | exact of_decide_eq_true (by first | (with_reducible assumption) | assumption) | (have e_ := (Kd.N_reads' HO_5.out).1; omega))
             obtain ⟨ua488_0, uc488_0, rfl, ul488_0, ge488_0⟩ := Kd.FK_slice_open hMe488
             have hv488_0 := hcc488 0 _ rfl
             rw [Nat.add_zero, show ((Kd.slice 58 k58)).sz = 1 from rfl, Nat.mul_one] at hv488_0
             replace hv488_0 := Option.some.inj (hv488_0.symm.trans hx488_0)
             injection hv488_0 with hva_ hvn_ hvc_
             rw [hva_] at ge488_0
             rw [hvc_] at ul488_0
             have HL488_0 := Aside0.mk (show Kd.V k58 58 _ w.heap.size _ _ (rd_L6 t484 x6_1) from Kd.V_mk ul488_0 ge488_0)
             clear hva_ hvn_ hvc_ ge488_0 ul488_0
             clear hcc488 hce488
             have HR488_0 := Aside0.mk hi488_0
             have HC488_0 := Aside0.mk hl488_0
             clear hi488_0 hl488_0
             replace p488 := eq_true p488
             replace q488 := eq_true q488
             have ea_ := Option.some.inj (hx487_0.symm.trans hx488_0)
             injection ea_ with ea_ en_ ec_
             subst ea_
             subst ec_
             clear en_
             have p489 : 0 ≤ (x7_2 : Int) := of_decide_eq_true (by first | (with_reducible assumption) | assumption)
             have q489 : x7_2 < ((rd_L6 t484 x6_1).length : Int) := of_decide_eq_true (by first | (with_reducible assumption) | assumption)
             obtain ⟨ad489, e489, hx489_0, hx489_1⟩ := at_T58 (by repeat (first | (with_reducible exact HR488_0.out) | (with_reducible refine Kd.C_alloc ?_ _) | (with_reducible refine Kd.C_drewN ?_ _) | (with_reducible refine Kd.C_drew ?_) | exact HR488_0.out)) x7_2 p489 q489
             cases e489
             replace p489 := eq_true p489
             replace q489 := eq_true q489
             go_wp2_with (first | ((with_reducible refine gate_dst (N := 8) rfl ?_); refine box_event ?hg (N := 8) ?hd (cs := #[.int .i64 0, .int .i64 0]) (t := 58) ?hr ?_; (case hd => rfl); (case hg => rfl); (case hr => first | (go_simp; done) | (go_simp; rfl)); intro gb490 hg w22 hbox hb; have n0_ := Aside0.mk (Kd.N_below (Kd.N_elderB (by (with_reducible repeat (first | apply Kd.N_alloc | apply Kd.N_drewN | apply Kd.N_drew)); exact HO_5.out) gb490 (Nat.le_of_eq hg.symm)) hb); have n1_ := Aside0.mk (Kd.V_below (Kd.V_elderB (by (with_reducible repeat (first | apply Kd.V_alloc | apply Kd.V_drewN | apply Kd.V_drew)); exact HL487_0.out) gb490 (Nat.le_of_eq hg.symm)) hb); have n2_ := Aside0.mk (Kd.V_below (Kd.V_elderB (by (with_reducible repeat (first | apply Kd.V_alloc | apply Kd.V_drewN | apply Kd.V_drew)); exact HL488_0.out) gb490 (Nat.le_of_eq hg.symm)) hb); have n3_ := Aside0.mk (blk_below (g := gb483) (o := .cells #[.slice A0_0 l0_0.length c0_0, .slice A0_1 l0_1.length c0_1, .slice A0_2 l0_2.length c0_2, .slice A0_3 l0_3.length c0_3, .slice A0_4 l0_4.length c0_4, .slice A0_5 l0_5.length c0_5, .slice A0_6 l0_6.length c0_6] 46 (0, 0)) (by (with_reducible repeat (first | refine blk_drewN ?_ _ | refine blk_drew ?_ | refine blk_alloc ?_ _)); exact BK483.out) hb); have n4_ := Aside0.mk (Kd.C_below (by repeat (first | (with_reducible exact HR487_0.out) | (with_reducible refine Kd.C_alloc ?_ _) | (with_reducible refine Kd.C_drewN ?_ _) | (with_reducible refine Kd.C_drew ?_) | exact HR487_0.out)) hb); have n5_ := Aside0.mk (Kd.C_below (by repeat (first | (with_reducible exact HR488_0.out) | (with_reducible refine Kd.C_alloc ?_ _) | (with_reducible refine Kd.C_drewN ?_ _) | (with_reducible refine Kd.C_drew ?_) | exact HR488_0.out)) hb); have n6_ := Aside0.mk (below_step (by repeat (first | (with_reducible first | exact HB.out | apply below_alloc | apply pw_below_drewN | apply below_drew1 | refine below_set ?_ GE483.out) | exact HB.out)) hb); have n7_ := Aside0.mk (hbox); have n8_ := Aside0.mk ((by rw [hg]; exact (below_size (by repeat (first | (with_reducible first | exact HB.out | apply below_alloc | apply pw_below_drewN | apply below_drew1 | refine below_set ?_ GE483.out) | exact HB.out))) : w.heap.size ≤ gb490)); have n9_ := Aside0.mk ((by rw [hg]; exact (below_size (by repeat (first | (with_reducible first | exact HB.out | apply below_alloc | apply pw_below_drewN | apply below_drew1 | refine below_set ?_ GE483.out) | exact HB.out))) : w.heap.size ≤ gb490)); have n10_ := Aside0.mk ((by rw [hg]; exact Nat.ne_of_lt (blk_lt (g := gb483) (o := .cells #[.slice A0_0 l0_0.length c0_0, .slice A0_1 l0_1.length c0_1, .slice A0_2 l0_2.length c0_2, .slice A0_3 l0_3.length c0_3, .slice A0_4 l0_4.length c0_4, .slice A0_5 l0_5.length c0_5, .slice A0_6 l0_6.length c0_6] 46 (0, 0)) (by (with_reducible repeat (first | refine blk_drewN ?_ _ | refine blk_drew ?_ | refine blk_alloc ?_ _)); exact BK483.out)) : gb483 ≠ gb490)); have n11_ := Aside0.mk ((by rw [hg]; exact Nat.ne_of_gt (blk_lt (g := gb483) (o := .cells #[.slice A0_0 l0_0.length c0_0, .slice A0_1 l0_1.length c0_1, .slice A0_2 l0_2.length c0_2, .slice A0_3 l0_3.length c0_3, .slice A0_4 l0_4.length c0_4, .slice A0_5 l0_5.length c0_5, .slice A0_6 l0_6.length c0_6] 46 (0, 0)) (by (with_reducible repeat (first | refine blk_drewN ?_ _ | refine blk_drew ?_ | refine blk_alloc ?_ _)); exact BK483.out)) : gb490 ≠ gb483)); clear HO_5; clear HL487_0; clear HL488_0; clear BK483; clear HR487_0; clear HR488_0; clear HB; have HO_5 := n0_; have HL487_0 := n1_; have HL488_0 := n2_; have BK483 := n3_; have HR487_0 := n4_; have HR488_0 := n5_; have HB := n6_; have BK490 := n7_; have GW490 := n8_; have GE490 := n9_; have NB483_490 := n10_; have NB490_483 := n11_; clear n0_ n1_ n2_ n3_ n4_ n5_ n6_ n7_ n8_ n9_ n10_ n11_; clear hb hbox hg; have hnb23 := NB490_483.out; have hnc23 := NB483_490.out; have hcz24_0 : w22.cell? ⟨gb490, 0, none⟩ = some (.int .i64 0) := (blk_cell BK490.out 0).trans rfl; have hcz24_1 : w22.cell? ⟨gb490, 1, none⟩ = some (.int .i64 0) := (blk_cell BK490.out 1).trans rfl; have hfz24_0 := blk_frozen BK490.out 0; have hfz24_1 := blk_frozen BK490.out 1) | ((with_reducible refine gate_callee (f := 64) rfl ?_); refine goesL_ (some 34) rfl rfl Try.func64 (by kernel_rfl) rfl #[.agg #[.int .i64 ((rd_T58 (rd_L6 t484 x6_1) x7_2).f0), .int .i64 ((rd_T58 (rd_L6 t484 x6_1) x7_2).f1)]] rfl (by (try simp only [List.map_toArray, List.map_cons, List.map_nil]); first | done | rfl | (simp only [List.length_drop, List.length_take]; rfl)) ?_; (with_reducible refine (rickyardref26_MayPiece.calls ((rd_T58 (rd_L6 t484 x6_1) x7_2).f0) ((rd_T58 (rd_L6 t484 x6_1) x7_2).f1) true _ A13.out).mono ?_); rintro e w25 ⟨rfl, hb⟩; refine ⟨_, rfl, ?_⟩; have n0_ := Aside0.mk (Kd.N_below (by (with_reducible repeat (first | apply Kd.N_alloc | apply Kd.N_drewN | apply Kd.N_drew)); exact (Kd.N_mono (Kd.N_far (p := ⟨gb490, 1, none⟩) (Kd.N_far (p := ⟨gb490, 0, none⟩) (Kd.N_mono HO_5.out (fun k_ hk => (⟨hk, hk.2⟩ : _ ∧ k_ ≠ gb490))) (fun _ hk => hk.2) (.int .i64 ((rd_T58 (rd_L6 t484 x6_1) x7_2).f0))) (fun _ hk => hk.2) (.int .i64 ((rd_T58 (rd_L6 t484 x6_1) x7_2).f1))) (fun _ h_ => h_.1))) hb); have n1_ := Aside0.mk (Kd.V_below (by (with_reducible repeat (first | apply Kd.V_alloc | apply Kd.V_drewN | apply Kd.V_drew)); exact (Kd.V_mono (Kd.V_far (p := ⟨gb490, 1, none⟩) (Kd.V_far (p := ⟨gb490, 0, none⟩) (Kd.V_mono HL487_0.out (fun k_ hk => (⟨hk, hk.2⟩ : _ ∧ k_ ≠ gb490))) (fun _ hk => hk.2) (.int .i64 ((rd_T58 (rd_L6 t484 x6_1) x7_2).f0))) (fun _ hk => hk.2) (.int .i64 ((rd_T58 (rd_L6 t484 x6_1) x7_2).f1))) (fun _ h_ => h_.1))) hb); have n2_ := Aside0.mk (Kd.V_below (by (with_reducible repeat (first | apply Kd.V_alloc | apply Kd.V_drewN | apply Kd.V_drew)); exact (Kd.V_mono (Kd.V_far (p := ⟨gb490, 1, none⟩) (Kd.V_far (p := ⟨gb490, 0, none⟩) (Kd.V_mono HL488_0.out (fun k_ hk => (⟨hk, hk.2⟩ : _ ∧ k_ ≠ gb490))) (fun _ hk => hk.2) (.int .i64 ((rd_T58 (rd_L6 t484 x6_1) x7_2).f0))) (fun _ hk => hk.2) (.int .i64 ((rd_T58 (rd_L6 t484 x6_1) x7_2).f1))) (fun _ h_ => h_.1))) hb); have n3_ := Aside0.mk (blk_below (g := gb483) (o := .cells #[.slice A0_0 l0_0.length c0_0, .slice A0_1 l0_1.length c0_1, .slice A0_2 l0_2.length c0_2, .slice A0_3 l0_3.length c0_3, .slice A0_4 l0_4.length c0_4, .slice A0_5 l0_5.length c0_5, .slice A0_6 l0_6.length c0_6] 46 (0, 0)) (by (with_reducible repeat (first | refine blk_drewN ?_ _ | refine blk_drew ?_ | refine blk_alloc ?_ _)); refine blk_far ?_ NB483_490.out _; (with_reducible repeat (first | refine blk_drewN ?_ _ | refine blk_drew ?_ | refine blk_alloc ?_ _)); refine blk_far ?_ NB483_490.out _; (with_reducible repeat (first | refine blk_drewN ?_ _ | refine blk_drew ?_ | refine blk_alloc ?_ _)); exact BK483.out) hb); have n4_ := Aside0.mk (Kd.C_below ((Kd.V_reads' (by (with_reducible repeat (first | apply Kd.V_alloc | apply Kd.V_drewN | apply Kd.V_drew)); exact (Kd.V_mono (Kd.V_far (p := ⟨gb490, 1, none⟩) (Kd.V_far (p := ⟨gb490, 0, none⟩) (Kd.V_mono HL487_0.out (fun k_ hk => (⟨hk, hk.2⟩ : _ ∧ k_ ≠ gb490))) (fun _ hk => hk.2) (.int .i64 ((rd_T58 (rd_L6 t484 x6_1) x7_2).f0))) (fun _ hk => hk.2) (.int .i64 ((rd_T58 (rd_L6 t484 x6_1) x7_2).f1))) (fun _ h_ => h_.1)))).2.2) hb); have n5_ := Aside0.mk (Kd.C_below ((Kd.V_reads' (by (with_reducible repeat (first | apply Kd.V_alloc | apply Kd.V_drewN | apply Kd.V_drew)); exact (Kd.V_mono (Kd.V_far (p := ⟨gb490, 1, none⟩) (Kd.V_far (p := ⟨gb490, 0, none⟩) (Kd.V_mono HL488_0.out (fun k_ hk => (⟨hk, hk.2⟩ : _ ∧ k_ ≠ gb490))) (fun _ hk => hk.2) (.int .i64 ((rd_T58 (rd_L6 t484 x6_1) x7_2).f0))) (fun _ hk => hk.2) (.int .i64 ((rd_T58 (rd_L6 t484 x6_1) x7_2).f1))) (fun _ h_ => h_.1)))).2.2) hb); have n6_ := Aside0.mk (blk_below (g := gb490) (o := .cells #[.int .i64 ((rd_T58 (rd_L6 t484 x6_1) x7_2).f0), .int .i64 ((rd_T58 (rd_L6 t484 x6_1) x7_2).f1)] 58 (0, 0)) (by (with_reducible repeat (first | refine blk_drewN ?_ _ | refine blk_drew ?_ | refine blk_alloc ?_ _)); refine blk_put (cs := #[.int .i64 ((rd_T58 (rd_L6 t484 x6_1) x7_2).f0), .int .i64 0]) ?_ 1 _ rfl; (with_reducible repeat (first | refine blk_drewN ?_ _ | refine blk_drew ?_ | refine blk_alloc ?_ _)); refine blk_put (cs := #[.int .i64 0, .int .i64 0]) ?_ 0 _ rfl; (with_reducible repeat (first | refine blk_drewN ?_ _ | refine blk_drew ?_ | refine blk_alloc ?_ _)); exact BK490.out) hb); have n7_ := Aside0.mk (below_step (by repeat (first | (with_reducible first | exact HB.out | apply below_alloc | apply pw_below_drewN | apply below_drew1 | refine below_set ?_ GE483.out | refine below_set ?_ GE490.out) | exact HB.out)) hb); clear HO_5; clear HL487_0; clear HL488_0; clear BK483; clear HR487_0; clear HR488_0; clear BK490; clear HB; have HO_5 := n0_; have HL487_0 := n1_; have HL488_0 := n2_; have BK483 := n3_; have HR487_0 := n4_; have HR488_0 := n5_; have BK490 := n6_; have HB := n7_; clear n0_ n1_ n2_ n3_ n4_ n5_ n6_ n7_; (try clear hb); (try clear hb2); (try clear hk); (try clear hi); have hcz26_0 : w25.cell? ⟨gb490, 0, none⟩ = some (.int .i64 ((rd_T58 (rd_L6 t484 x6_1) x7_2).f0)) := (blk_cell BK490.out 0).trans rfl; have hcz26_1 : w25.cell? ⟨gb490, 1, none⟩ = some (.int .i64 ((rd_T58 (rd_L6 t484 x6_1) x7_2).f1)) := (blk_cell BK490.out 1).trans rfl; have hfz26_0 := blk_frozen BK490.out 0; have hfz26_1 := blk_frozen BK490.out 1))
             go_roundg k2
             case measure => have := HK1.out; have := HK2.out; omega
             case rel => exact ⟨(wrap64 (x7_2 + 1)), (by first | rfl | (simp; done) | (simp [*]; done)), H', ⟨by have := HK1.out; have := HK2.out; omega⟩, ⟨by (with_reducible repeat (first | apply Kd.N_alloc | apply Kd.N_drewN | apply Kd.N_drew)); exact Kd.N_mono HO_5.out (fun _ hk => hk.1)⟩, ⟨by (with_reducible repeat (first | refine blk_drewN ?_ _ | refine blk_drew ?_ | refine blk_alloc ?_ _)); exact BK483.out⟩, ⟨by repeat (first | (with_reducible first | exact HB.out | apply below_alloc | apply pw_below_drewN | apply below_drew1 | refine below_set ?_ GE483.out | refine below_set ?_ GE490.out) | exact HB.out)⟩⟩
           ·rw [if_neg c15] at H
            have c15b0 : decide (((rd_T58 (rd_L6 t484 x6_1) x7_2).f0) ≤ a1) = false := decide_eq_false c15
            clear c15
            have H' := Aside0.mk H
            clear H
            have p487 : 0 ≤ (x6_1 : Int) := of_decide_eq_true (by first | (with_reducible assumption) | assumption)
            have q487 : x6_1 < (t484.length : Int) := of_decide_eq_true (by first | (with_reducible assumption) | assumption)
            obtain ⟨ad487, A487_0, c487_0, e487, hx487_0, hl487_0, hi487_0⟩ := at_L6 (Kd.N_reads' HO_5.out).2.2 x6_1 p487 q487
            cases e487
            obtain ⟨ce487, hce487, hMe487, hcc487⟩ := Kd.N_get HO_5.out [] x6_1 p487 (by first | exact q487 | exact of_decide_eq_true (by first | (with_reducible assumption) | assumption) | (have e_ := (Kd.N_reads' HO_5.out).1; omega))
            obtain ⟨ua487_0, uc487_0, rfl, ul487_0, ge487_0⟩ := Kd.FK_slice_open hMe487
            have hv487_0 := hcc487 0 _ rfl
            rw [Nat.add_zero, show ((Kd.slice 58 k58)).sz = 1 from rfl, Nat.mul_one] at hv487_0
            replace hv487_0 := Option.some.inj (hv487_0.symm.trans hx487_0)
            injection hv487_0 with hva_ hvn_ hvc_
            rw [hva_] at ge487_0
            rw [hvc_] at ul487_0
            have HL487_0 := Aside0.mk (show Kd.V k58 58 _ w.heap.size _ _ (rd_L6 t484 x6_1) from Kd.V_mk ul487_0 ge487_0)
            clear hva_ hvn_ hvc_ ge487_0 ul487_0
            clear hcc487 hce487
            have HR487_0 := Aside0.mk hi487_0
            have HC487_0 := Aside0.mk hl487_0
            clear hi487_0 hl487_0
            replace p487 := eq_true p487
            replace q487 := eq_true q487
            have p488 : 0 ≤ (x6_1 : Int) := of_decide_eq_true (by first | (with_reducible assumption) | assumption)
            have q488 : x6_1 < (t484.length : Int) := of_decide_eq_true (by first | (with_reducible assumption) | assumption)
            obtain ⟨ad488, A488_0, c488_0, e488, hx488_0, hl488_0, hi488_0⟩ := at_L6 (Kd.N_reads' HO_5.out).2.2 x6_1 p488 q488
            obtain rfl : ad487 = ad488 := (by injection e488)
            obtain ⟨ce488, hce488, hMe488, hcc488⟩ := Kd.N_get HO_5.out [] x6_1 p488 (by first | exact q488 | exact of_decide_eq_true (by first | (with_reducible assumption) | assumption) | (have e_ := (Kd.N_reads' HO_5.out).1; omega))
            obtain ⟨ua488_0, uc488_0, rfl, ul488_0, ge488_0⟩ := Kd.FK_slice_open hMe488
            have hv488_0 := hcc488 0 _ rfl
            rw [Nat.add_zero, show ((Kd.slice 58 k58)).sz = 1 from rfl, Nat.mul_one] at hv488_0
            replace hv488_0 := Option.some.inj (hv488_0.symm.trans hx488_0)
            injection hv488_0 with hva_ hvn_ hvc_
            rw [hva_] at ge488_0
            rw [hvc_] at ul488_0
            have HL488_0 := Aside0.mk (show Kd.V k58 58 _ w.heap.size _ _ (rd_L6 t484 x6_1) from Kd.V_mk ul488_0 ge488_0)
            clear hva_ hvn_ hvc_ ge488_0 ul488_0
            clear hcc488 hce488
            have HR488_0 := Aside0.mk hi488_0
            have HC488_0 := Aside0.mk hl488_0
            clear hi488_0 hl488_0
            replace p488 := eq_true p488
            replace q488 := eq_true q488
            have ea_ := Option.some.inj (hx487_0.symm.trans hx488_0)
            injection ea_ with ea_ en_ ec_
            subst ea_
            subst ec_
            clear en_
            have p489 : 0 ≤ (x7_2 : Int) := of_decide_eq_true (by first | (with_reducible assumption) | assumption)
            have q489 : x7_2 < ((rd_L6 t484 x6_1).length : Int) := of_decide_eq_true (by first | (with_reducible assumption) | assumption)
            obtain ⟨ad489, e489, hx489_0, hx489_1⟩ := at_T58 (by repeat (first | (with_reducible exact HR488_0.out) | (with_reducible refine Kd.C_alloc ?_ _) | (with_reducible refine Kd.C_drewN ?_ _) | (with_reducible refine Kd.C_drew ?_) | exact HR488_0.out)) x7_2 p489 q489
            cases e489
            replace p489 := eq_true p489
            replace q489 := eq_true q489
            go_wp2_with (first | ((with_reducible refine gate_dst (N := 8) rfl ?_); refine box_event ?hg (N := 8) ?hd (cs := #[.int .i64 0, .int .i64 0]) (t := 58) ?hr ?_; (case hd => rfl); (case hg => rfl); (case hr => first | (go_simp; done) | (go_simp; rfl)); intro gb490 hg w27 hbox hb; have n0_ := Aside0.mk (Kd.N_below (Kd.N_elderB (by (with_reducible repeat (first | apply Kd.N_alloc | apply Kd.N_drewN | apply Kd.N_drew)); exact HO_5.out) gb490 (Nat.le_of_eq hg.symm)) hb); have n1_ := Aside0.mk (Kd.V_below (Kd.V_elderB (by (with_reducible repeat (first | apply Kd.V_alloc | apply Kd.V_drewN | apply Kd.V_drew)); exact HL487_0.out) gb490 (Nat.le_of_eq hg.symm)) hb); have n2_ := Aside0.mk (Kd.V_below (Kd.V_elderB (by (with_reducible repeat (first | apply Kd.V_alloc | apply Kd.V_drewN | apply Kd.V_drew)); exact HL488_0.out) gb490 (Nat.le_of_eq hg.symm)) hb); have n3_ := Aside0.mk (blk_below (g := gb483) (o := .cells #[.slice A0_0 l0_0.length c0_0, .slice A0_1 l0_1.length c0_1, .slice A0_2 l0_2.length c0_2, .slice A0_3 l0_3.length c0_3, .slice A0_4 l0_4.length c0_4, .slice A0_5 l0_5.length c0_5, .slice A0_6 l0_6.length c0_6] 46 (0, 0)) (by (with_reducible repeat (first | refine blk_drewN ?_ _ | refine blk_drew ?_ | refine blk_alloc ?_ _)); exact BK483.out) hb); have n4_ := Aside0.mk (Kd.C_below (by repeat (first | (with_reducible exact HR487_0.out) | (with_reducible refine Kd.C_alloc ?_ _) | (with_reducible refine Kd.C_drewN ?_ _) | (with_reducible refine Kd.C_drew ?_) | exact HR487_0.out)) hb); have n5_ := Aside0.mk (Kd.C_below (by repeat (first | (with_reducible exact HR488_0.out) | (with_reducible refine Kd.C_alloc ?_ _) | (with_reducible refine Kd.C_drewN ?_ _) | (with_reducible refine Kd.C_drew ?_) | exact HR488_0.out)) hb); have n6_ := Aside0.mk (below_step (by repeat (first | (with_reducible first | exact HB.out | apply below_alloc | apply pw_below_drewN | apply below_drew1 | refine below_set ?_ GE483.out) | exact HB.out)) hb); have n7_ := Aside0.mk (hbox); have n8_ := Aside0.mk ((by rw [hg]; exact (below_size (by repeat (first | (with_reducible first | exact HB.out | apply below_alloc | apply pw_below_drewN | apply below_drew1 | refine below_set ?_ GE483.out) | exact HB.out))) : w.heap.size ≤ gb490)); have n9_ := Aside0.mk ((by rw [hg]; exact (below_size (by repeat (first | (with_reducible first | exact HB.out | apply below_alloc | apply pw_below_drewN | apply below_drew1 | refine below_set ?_ GE483.out) | exact HB.out))) : w.heap.size ≤ gb490)); have n10_ := Aside0.mk ((by rw [hg]; exact Nat.ne_of_lt (blk_lt (g := gb483) (o := .cells #[.slice A0_0 l0_0.length c0_0, .slice A0_1 l0_1.length c0_1, .slice A0_2 l0_2.length c0_2, .slice A0_3 l0_3.length c0_3, .slice A0_4 l0_4.length c0_4, .slice A0_5 l0_5.length c0_5, .slice A0_6 l0_6.length c0_6] 46 (0, 0)) (by (with_reducible repeat (first | refine blk_drewN ?_ _ | refine blk_drew ?_ | refine blk_alloc ?_ _)); exact BK483.out)) : gb483 ≠ gb490)); have n11_ := Aside0.mk ((by rw [hg]; exact Nat.ne_of_gt (blk_lt (g := gb483) (o := .cells #[.slice A0_0 l0_0.length c0_0, .slice A0_1 l0_1.length c0_1, .slice A0_2 l0_2.length c0_2, .slice A0_3 l0_3.length c0_3, .slice A0_4 l0_4.length c0_4, .slice A0_5 l0_5.length c0_5, .slice A0_6 l0_6.length c0_6] 46 (0, 0)) (by (with_reducible repeat (first | refine blk_drewN ?_ _ | refine blk_drew ?_ | refine blk_alloc ?_ _)); exact BK483.out)) : gb490 ≠ gb483)); clear HO_5; clear HL487_0; clear HL488_0; clear BK483; clear HR487_0; clear HR488_0; clear HB; have HO_5 := n0_; have HL487_0 := n1_; have HL488_0 := n2_; have BK483 := n3_; have HR487_0 := n4_; have HR488_0 := n5_; have HB := n6_; have BK490 := n7_; have GW490 := n8_; have GE490 := n9_; have NB483_490 := n10_; have NB490_483 := n11_; clear n0_ n1_ n2_ n3_ n4_ n5_ n6_ n7_ n8_ n9_ n10_ n11_; clear hb hbox hg; have hnb28 := NB490_483.out; have hnc28 := NB483_490.out; have hcz29_0 : w27.cell? ⟨gb490, 0, none⟩ = some (.int .i64 0) := (blk_cell BK490.out 0).trans rfl; have hcz29_1 : w27.cell? ⟨gb490, 1, none⟩ = some (.int .i64 0) := (blk_cell BK490.out 1).trans rfl; have hfz29_0 := blk_frozen BK490.out 0; have hfz29_1 := blk_frozen BK490.out 1) | ((with_reducible refine gate_callee (f := 64) rfl ?_); refine goesL_ (some 34) rfl rfl Try.func64 (by kernel_rfl) rfl #[.agg #[.int .i64 ((rd_T58 (rd_L6 t484 x6_1) x7_2).f0), .int .i64 ((rd_T58 (rd_L6 t484 x6_1) x7_2).f1)]] rfl (by (try simp only [List.map_toArray, List.map_cons, List.map_nil]); first | done | rfl | (simp only [List.length_drop, List.length_take]; rfl)) ?_; (with_reducible refine (rickyardref26_MayPiece.calls ((rd_T58 (rd_L6 t484 x6_1) x7_2).f0) ((rd_T58 (rd_L6 t484 x6_1) x7_2).f1) true _ A13.out).mono ?_); rintro e w30 ⟨rfl, hb⟩; refine ⟨_, rfl, ?_⟩; have n0_ := Aside0.mk (Kd.N_below (by (with_reducible repeat (first | apply Kd.N_alloc | apply Kd.N_drewN | apply Kd.N_drew)); exact (Kd.N_mono (Kd.N_far (p := ⟨gb490, 1, none⟩) (Kd.N_far (p := ⟨gb490, 0, none⟩) (Kd.N_mono HO_5.out (fun k_ hk => (⟨hk, hk.2⟩ : _ ∧ k_ ≠ gb490))) (fun _ hk => hk.2) (.int .i64 ((rd_T58 (rd_L6 t484 x6_1) x7_2).f0))) (fun _ hk => hk.2) (.int .i64 ((rd_T58 (rd_L6 t484 x6_1) x7_2).f1))) (fun _ h_ => h_.1))) hb); have n1_ := Aside0.mk (Kd.V_below (by (with_reducible repeat (first | apply Kd.V_alloc | apply Kd.V_drewN | apply Kd.V_drew)); exact (Kd.V_mono (Kd.V_far (p := ⟨gb490, 1, none⟩) (Kd.V_far (p := ⟨gb490, 0, none⟩) (Kd.V_mono HL487_0.out (fun k_ hk => (⟨hk, hk.2⟩ : _ ∧ k_ ≠ gb490))) (fun _ hk => hk.2) (.int .i64 ((rd_T58 (rd_L6 t484 x6_1) x7_2).f0))) (fun _ hk => hk.2) (.int .i64 ((rd_T58 (rd_L6 t484 x6_1) x7_2).f1))) (fun _ h_ => h_.1))) hb); have n2_ := Aside0.mk (Kd.V_below (by (with_reducible repeat (first | apply Kd.V_alloc | apply Kd.V_drewN | apply Kd.V_drew)); exact (Kd.V_mono (Kd.V_far (p := ⟨gb490, 1, none⟩) (Kd.V_far (p := ⟨gb490, 0, none⟩) (Kd.V_mono HL488_0.out (fun k_ hk => (⟨hk, hk.2⟩ : _ ∧ k_ ≠ gb490))) (fun _ hk => hk.2) (.int .i64 ((rd_T58 (rd_L6 t484 x6_1) x7_2).f0))) (fun _ hk => hk.2) (.int .i64 ((rd_T58 (rd_L6 t484 x6_1) x7_2).f1))) (fun _ h_ => h_.1))) hb); have n3_ := Aside0.mk (blk_below (g := gb483) (o := .cells #[.slice A0_0 l0_0.length c0_0, .slice A0_1 l0_1.length c0_1, .slice A0_2 l0_2.length c0_2, .slice A0_3 l0_3.length c0_3, .slice A0_4 l0_4.length c0_4, .slice A0_5 l0_5.length c0_5, .slice A0_6 l0_6.length c0_6] 46 (0, 0)) (by (with_reducible repeat (first | refine blk_drewN ?_ _ | refine blk_drew ?_ | refine blk_alloc ?_ _)); refine blk_far ?_ NB483_490.out _; (with_reducible repeat (first | refine blk_drewN ?_ _ | refine blk_drew ?_ | refine blk_alloc ?_ _)); refine blk_far ?_ NB483_490.out _; (with_reducible repeat (first | refine blk_drewN ?_ _ | refine blk_drew ?_ | refine blk_alloc ?_ _)); exact BK483.out) hb); have n4_ := Aside0.mk (Kd.C_below ((Kd.V_reads' (by (with_reducible repeat (first | apply Kd.V_alloc | apply Kd.V_drewN | apply Kd.V_drew)); exact (Kd.V_mono (Kd.V_far (p := ⟨gb490, 1, none⟩) (Kd.V_far (p := ⟨gb490, 0, none⟩) (Kd.V_mono HL487_0.out (fun k_ hk => (⟨hk, hk.2⟩ : _ ∧ k_ ≠ gb490))) (fun _ hk => hk.2) (.int .i64 ((rd_T58 (rd_L6 t484 x6_1) x7_2).f0))) (fun _ hk => hk.2) (.int .i64 ((rd_T58 (rd_L6 t484 x6_1) x7_2).f1))) (fun _ h_ => h_.1)))).2.2) hb); have n5_ := Aside0.mk (Kd.C_below ((Kd.V_reads' (by (with_reducible repeat (first | apply Kd.V_alloc | apply Kd.V_drewN | apply Kd.V_drew)); exact (Kd.V_mono (Kd.V_far (p := ⟨gb490, 1, none⟩) (Kd.V_far (p := ⟨gb490, 0, none⟩) (Kd.V_mono HL488_0.out (fun k_ hk => (⟨hk, hk.2⟩ : _ ∧ k_ ≠ gb490))) (fun _ hk => hk.2) (.int .i64 ((rd_T58 (rd_L6 t484 x6_1) x7_2).f0))) (fun _ hk => hk.2) (.int .i64 ((rd_T58 (rd_L6 t484 x6_1) x7_2).f1))) (fun _ h_ => h_.1)))).2.2) hb); have n6_ := Aside0.mk (blk_below (g := gb490) (o := .cells #[.int .i64 ((rd_T58 (rd_L6 t484 x6_1) x7_2).f0), .int .i64 ((rd_T58 (rd_L6 t484 x6_1) x7_2).f1)] 58 (0, 0)) (by (with_reducible repeat (first | refine blk_drewN ?_ _ | refine blk_drew ?_ | refine blk_alloc ?_ _)); refine blk_put (cs := #[.int .i64 ((rd_T58 (rd_L6 t484 x6_1) x7_2).f0), .int .i64 0]) ?_ 1 _ rfl; (with_reducible repeat (first | refine blk_drewN ?_ _ | refine blk_drew ?_ | refine blk_alloc ?_ _)); refine blk_put (cs := #[.int .i64 0, .int .i64 0]) ?_ 0 _ rfl; (with_reducible repeat (first | refine blk_drewN ?_ _ | refine blk_drew ?_ | refine blk_alloc ?_ _)); exact BK490.out) hb); have n7_ := Aside0.mk (below_step (by repeat (first | (with_reducible first | exact HB.out | apply below_alloc | apply pw_below_drewN | apply below_drew1 | refine below_set ?_ GE483.out | refine below_set ?_ GE490.out) | exact HB.out)) hb); clear HO_5; clear HL487_0; clear HL488_0; clear BK483; clear HR487_0; clear HR488_0; clear BK490; clear HB; have HO_5 := n0_; have HL487_0 := n1_; have HL488_0 := n2_; have BK483 := n3_; have HR487_0 := n4_; have HR488_0 := n5_; have BK490 := n6_; have HB := n7_; clear n0_ n1_ n2_ n3_ n4_ n5_ n6_ n7_; (try clear hb); (try clear hb2); (try clear hk); (try clear hi); have hcz31_0 : w30.cell? ⟨gb490, 0, none⟩ = some (.int .i64 ((rd_T58 (rd_L6 t484 x6_1) x7_2).f0)) := (blk_cell BK490.out 0).trans rfl; have hcz31_1 : w30.cell? ⟨gb490, 1, none⟩ = some (.int .i64 ((rd_T58 (rd_L6 t484 x6_1) x7_2).f1)) := (blk_cell BK490.out 1).trans rfl; have hfz31_0 := blk_frozen BK490.out 0; have hfz31_1 := blk_frozen BK490.out 1))
            go_roundg k2
            case measure => have := HK1.out; have := HK2.out; omega
            case rel => exact ⟨(wrap64 (x7_2 + 1)), (by first | rfl | (simp; done) | (simp [*]; done)), H', ⟨by have := HK1.out; have := HK2.out; omega⟩, ⟨by (with_reducible repeat (first | apply Kd.N_alloc | apply Kd.N_drewN | apply Kd.N_drew)); exact Kd.N_mono HO_5.out (fun _ hk => hk.1)⟩, ⟨by (with_reducible repeat (first | refine blk_drewN ?_ _ | refine blk_drew ?_ | refine blk_alloc ?_ _)); exact BK483.out⟩, ⟨by repeat (first | (with_reducible first | exact HB.out | apply below_alloc | apply pw_below_drewN | apply below_drew1 | refine below_set ?_ GE483.out | refine below_set ?_ GE490.out) | exact HB.out)⟩⟩
          ·replace c14 := Bool.eq_false_iff.mpr c14
           subst c14
           have H1 : (rickyardref26_Kind.l1 k2 a1 t484 x6_1 (wrap64 (x7_2 + 1))) = some r := by rw [if_neg (show ¬ (false = true) by decide)] at H; exact H
           clear H
           have H := H1
           clear H1
           have H' := Aside0.mk H
           clear H
           have p487 : 0 ≤ (x6_1 : Int) := of_decide_eq_true (by first | (with_reducible assumption) | assumption)
           have q487 : x6_1 < (t484.length : Int) := of_decide_eq_true (by first | (with_reducible assumption) | assumption)
           obtain ⟨ad487, A487_0, c487_0, e487, hx487_0, hl487_0, hi487_0⟩ := at_L6 (Kd.N_reads' HO_5.out).2.2 x6_1 p487 q487
           cases e487
           obtain ⟨ce487, hce487, hMe487, hcc487⟩ := Kd.N_get HO_5.out [] x6_1 p487 (by first | exact q487 | exact of_decide_eq_true (by first | (with_reducible assumption) | assumption) | (have e_ := (Kd.N_reads' HO_5.out).1; omega))
           obtain ⟨ua487_0, uc487_0, rfl, ul487_0, ge487_0⟩ := Kd.FK_slice_open hMe487
           have hv487_0 := hcc487 0 _ rfl
           rw [Nat.add_zero, show ((Kd.slice 58 k58)).sz = 1 from rfl, Nat.mul_one] at hv487_0
           replace hv487_0 := Option.some.inj (hv487_0.symm.trans hx487_0)
           injection hv487_0 with hva_ hvn_ hvc_
           rw [hva_] at ge487_0
           rw [hvc_] at ul487_0
           have HL487_0 := Aside0.mk (show Kd.V k58 58 _ w.heap.size _ _ (rd_L6 t484 x6_1) from Kd.V_mk ul487_0 ge487_0)
           clear hva_ hvn_ hvc_ ge487_0 ul487_0
           clear hcc487 hce487
           have HR487_0 := Aside0.mk hi487_0
           have HC487_0 := Aside0.mk hl487_0
           clear hi487_0 hl487_0
           replace p487 := eq_true p487
           replace q487 := eq_true q487
           have p488 : 0 ≤ (x6_1 : Int) := of_decide_eq_true (by first | (with_reducible assumption) | assumption)
           have q488 : x6_1 < (t484.length : Int) := of_decide_eq_true (by first | (with_reducible assumption) | assumption)
           obtain ⟨ad488, A488_0, c488_0, e488, hx488_0, hl488_0, hi488_0⟩ := at_L6 (Kd.N_reads' HO_5.out).2.2 x6_1 p488 q488
           obtain rfl : ad487 = ad488 := (by injection e488)
           obtain ⟨ce488, hce488, hMe488, hcc488⟩ := Kd.N_get HO_5.out [] x6_1 p488 (by first | exact q488 | exact of_decide_eq_true (by first | (with_reducible assumption) | assumption) | (have e_ := (Kd.N_reads' HO_5.out).1; omega))
           obtain ⟨ua488_0, uc488_0, rfl, ul488_0, ge488_0⟩ := Kd.FK_slice_open hMe488
           have hv488_0 := hcc488 0 _ rfl
           rw [Nat.add_zero, show ((Kd.slice 58 k58)).sz = 1 from rfl, Nat.mul_one] at hv488_0
           replace hv488_0 := Option.some.inj (hv488_0.symm.trans hx488_0)
           injection hv488_0 with hva_ hvn_ hvc_
           rw [hva_] at ge488_0
           rw [hvc_] at ul488_0
           have HL488_0 := Aside0.mk (show Kd.V k58 58 _ w.heap.size _ _ (rd_L6 t484 x6_1) from Kd.V_mk ul488_0 ge488_0)
           clear hva_ hvn_ hvc_ ge488_0 ul488_0
           clear hcc488 hce488
           have HR488_0 := Aside0.mk hi488_0
           have HC488_0 := Aside0.mk hl488_0
           clear hi488_0 hl488_0
           replace p488 := eq_true p488
           replace q488 := eq_true q488
           have ea_ := Option.some.inj (hx487_0.symm.trans hx488_0)
           injection ea_ with ea_ en_ ec_
           subst ea_
           subst ec_
           clear en_
           have p489 : 0 ≤ (x7_2 : Int) := of_decide_eq_true (by first | (with_reducible assumption) | assumption)
           have q489 : x7_2 < ((rd_L6 t484 x6_1).length : Int) := of_decide_eq_true (by first | (with_reducible assumption) | assumption)
           obtain ⟨ad489, e489, hx489_0, hx489_1⟩ := at_T58 (by repeat (first | (with_reducible exact HR488_0.out) | (with_reducible refine Kd.C_alloc ?_ _) | (with_reducible refine Kd.C_drewN ?_ _) | (with_reducible refine Kd.C_drew ?_) | exact HR488_0.out)) x7_2 p489 q489
           cases e489
           replace p489 := eq_true p489
           replace q489 := eq_true q489
           go_wp2_with (first | ((with_reducible refine gate_dst (N := 8) rfl ?_); refine box_event ?hg (N := 8) ?hd (cs := #[.int .i64 0, .int .i64 0]) (t := 58) ?hr ?_; (case hd => rfl); (case hg => rfl); (case hr => first | (go_simp; done) | (go_simp; rfl)); intro gb490 hg w32 hbox hb; have n0_ := Aside0.mk (Kd.N_below (Kd.N_elderB (by (with_reducible repeat (first | apply Kd.N_alloc | apply Kd.N_drewN | apply Kd.N_drew)); exact HO_5.out) gb490 (Nat.le_of_eq hg.symm)) hb); have n1_ := Aside0.mk (Kd.V_below (Kd.V_elderB (by (with_reducible repeat (first | apply Kd.V_alloc | apply Kd.V_drewN | apply Kd.V_drew)); exact HL487_0.out) gb490 (Nat.le_of_eq hg.symm)) hb); have n2_ := Aside0.mk (Kd.V_below (Kd.V_elderB (by (with_reducible repeat (first | apply Kd.V_alloc | apply Kd.V_drewN | apply Kd.V_drew)); exact HL488_0.out) gb490 (Nat.le_of_eq hg.symm)) hb); have n3_ := Aside0.mk (blk_below (g := gb483) (o := .cells #[.slice A0_0 l0_0.length c0_0, .slice A0_1 l0_1.length c0_1, .slice A0_2 l0_2.length c0_2, .slice A0_3 l0_3.length c0_3, .slice A0_4 l0_4.length c0_4, .slice A0_5 l0_5.length c0_5, .slice A0_6 l0_6.length c0_6] 46 (0, 0)) (by (with_reducible repeat (first | refine blk_drewN ?_ _ | refine blk_drew ?_ | refine blk_alloc ?_ _)); exact BK483.out) hb); have n4_ := Aside0.mk (Kd.C_below (by repeat (first | (with_reducible exact HR487_0.out) | (with_reducible refine Kd.C_alloc ?_ _) | (with_reducible refine Kd.C_drewN ?_ _) | (with_reducible refine Kd.C_drew ?_) | exact HR487_0.out)) hb); have n5_ := Aside0.mk (Kd.C_below (by repeat (first | (with_reducible exact HR488_0.out) | (with_reducible refine Kd.C_alloc ?_ _) | (with_reducible refine Kd.C_drewN ?_ _) | (with_reducible refine Kd.C_drew ?_) | exact HR488_0.out)) hb); have n6_ := Aside0.mk (below_step (by repeat (first | (with_reducible first | exact HB.out | apply below_alloc | apply pw_below_drewN | apply below_drew1 | refine below_set ?_ GE483.out) | exact HB.out)) hb); have n7_ := Aside0.mk (hbox); have n8_ := Aside0.mk ((by rw [hg]; exact (below_size (by repeat (first | (with_reducible first | exact HB.out | apply below_alloc | apply pw_below_drewN | apply below_drew1 | refine below_set ?_ GE483.out) | exact HB.out))) : w.heap.size ≤ gb490)); have n9_ := Aside0.mk ((by rw [hg]; exact (below_size (by repeat (first | (with_reducible first | exact HB.out | apply below_alloc | apply pw_below_drewN | apply below_drew1 | refine below_set ?_ GE483.out) | exact HB.out))) : w.heap.size ≤ gb490)); have n10_ := Aside0.mk ((by rw [hg]; exact Nat.ne_of_lt (blk_lt (g := gb483) (o := .cells #[.slice A0_0 l0_0.length c0_0, .slice A0_1 l0_1.length c0_1, .slice A0_2 l0_2.length c0_2, .slice A0_3 l0_3.length c0_3, .slice A0_4 l0_4.length c0_4, .slice A0_5 l0_5.length c0_5, .slice A0_6 l0_6.length c0_6] 46 (0, 0)) (by (with_reducible repeat (first | refine blk_drewN ?_ _ | refine blk_drew ?_ | refine blk_alloc ?_ _)); exact BK483.out)) : gb483 ≠ gb490)); have n11_ := Aside0.mk ((by rw [hg]; exact Nat.ne_of_gt (blk_lt (g := gb483) (o := .cells #[.slice A0_0 l0_0.length c0_0, .slice A0_1 l0_1.length c0_1, .slice A0_2 l0_2.length c0_2, .slice A0_3 l0_3.length c0_3, .slice A0_4 l0_4.length c0_4, .slice A0_5 l0_5.length c0_5, .slice A0_6 l0_6.length c0_6] 46 (0, 0)) (by (with_reducible repeat (first | refine blk_drewN ?_ _ | refine blk_drew ?_ | refine blk_alloc ?_ _)); exact BK483.out)) : gb490 ≠ gb483)); clear HO_5; clear HL487_0; clear HL488_0; clear BK483; clear HR487_0; clear HR488_0; clear HB; have HO_5 := n0_; have HL487_0 := n1_; have HL488_0 := n2_; have BK483 := n3_; have HR487_0 := n4_; have HR488_0 := n5_; have HB := n6_; have BK490 := n7_; have GW490 := n8_; have GE490 := n9_; have NB483_490 := n10_; have NB490_483 := n11_; clear n0_ n1_ n2_ n3_ n4_ n5_ n6_ n7_ n8_ n9_ n10_ n11_; clear hb hbox hg; have hnb33 := NB490_483.out; have hnc33 := NB483_490.out; have hcz34_0 : w32.cell? ⟨gb490, 0, none⟩ = some (.int .i64 0) := (blk_cell BK490.out 0).trans rfl; have hcz34_1 : w32.cell? ⟨gb490, 1, none⟩ = some (.int .i64 0) := (blk_cell BK490.out 1).trans rfl; have hfz34_0 := blk_frozen BK490.out 0; have hfz34_1 := blk_frozen BK490.out 1) | ((with_reducible refine gate_callee (f := 64) rfl ?_); refine goesL_ (some 34) rfl rfl Try.func64 (by kernel_rfl) rfl #[.agg #[.int .i64 ((rd_T58 (rd_L6 t484 x6_1) x7_2).f0), .int .i64 ((rd_T58 (rd_L6 t484 x6_1) x7_2).f1)]] rfl (by (try simp only [List.map_toArray, List.map_cons, List.map_nil]); first | done | rfl | (simp only [List.length_drop, List.length_take]; rfl)) ?_; (with_reducible refine (rickyardref26_MayPiece.calls ((rd_T58 (rd_L6 t484 x6_1) x7_2).f0) ((rd_T58 (rd_L6 t484 x6_1) x7_2).f1) false _ A13.out).mono ?_); rintro e w35 ⟨rfl, hb⟩; refine ⟨_, rfl, ?_⟩; have n0_ := Aside0.mk (Kd.N_below (by (with_reducible repeat (first | apply Kd.N_alloc | apply Kd.N_drewN | apply Kd.N_drew)); exact (Kd.N_mono (Kd.N_far (p := ⟨gb490, 1, none⟩) (Kd.N_far (p := ⟨gb490, 0, none⟩) (Kd.N_mono HO_5.out (fun k_ hk => (⟨hk, hk.2⟩ : _ ∧ k_ ≠ gb490))) (fun _ hk => hk.2) (.int .i64 ((rd_T58 (rd_L6 t484 x6_1) x7_2).f0))) (fun _ hk => hk.2) (.int .i64 ((rd_T58 (rd_L6 t484 x6_1) x7_2).f1))) (fun _ h_ => h_.1))) hb); have n1_ := Aside0.mk (Kd.V_below (by (with_reducible repeat (first | apply Kd.V_alloc | apply Kd.V_drewN | apply Kd.V_drew)); exact (Kd.V_mono (Kd.V_far (p := ⟨gb490, 1, none⟩) (Kd.V_far (p := ⟨gb490, 0, none⟩) (Kd.V_mono HL487_0.out (fun k_ hk => (⟨hk, hk.2⟩ : _ ∧ k_ ≠ gb490))) (fun _ hk => hk.2) (.int .i64 ((rd_T58 (rd_L6 t484 x6_1) x7_2).f0))) (fun _ hk => hk.2) (.int .i64 ((rd_T58 (rd_L6 t484 x6_1) x7_2).f1))) (fun _ h_ => h_.1))) hb); have n2_ := Aside0.mk (Kd.V_below (by (with_reducible repeat (first | apply Kd.V_alloc | apply Kd.V_drewN | apply Kd.V_drew)); exact (Kd.V_mono (Kd.V_far (p := ⟨gb490, 1, none⟩) (Kd.V_far (p := ⟨gb490, 0, none⟩) (Kd.V_mono HL488_0.out (fun k_ hk => (⟨hk, hk.2⟩ : _ ∧ k_ ≠ gb490))) (fun _ hk => hk.2) (.int .i64 ((rd_T58 (rd_L6 t484 x6_1) x7_2).f0))) (fun _ hk => hk.2) (.int .i64 ((rd_T58 (rd_L6 t484 x6_1) x7_2).f1))) (fun _ h_ => h_.1))) hb); have n3_ := Aside0.mk (blk_below (g := gb483) (o := .cells #[.slice A0_0 l0_0.length c0_0, .slice A0_1 l0_1.length c0_1, .slice A0_2 l0_2.length c0_2, .slice A0_3 l0_3.length c0_3, .slice A0_4 l0_4.length c0_4, .slice A0_5 l0_5.length c0_5, .slice A0_6 l0_6.length c0_6] 46 (0, 0)) (by (with_reducible repeat (first | refine blk_drewN ?_ _ | refine blk_drew ?_ | refine blk_alloc ?_ _)); refine blk_far ?_ NB483_490.out _; (with_reducible repeat (first | refine blk_drewN ?_ _ | refine blk_drew ?_ | refine blk_alloc ?_ _)); refine blk_far ?_ NB483_490.out _; (with_reducible repeat (first | refine blk_drewN ?_ _ | refine blk_drew ?_ | refine blk_alloc ?_ _)); exact BK483.out) hb); have n4_ := Aside0.mk (Kd.C_below ((Kd.V_reads' (by (with_reducible repeat (first | apply Kd.V_alloc | apply Kd.V_drewN | apply Kd.V_drew)); exact (Kd.V_mono (Kd.V_far (p := ⟨gb490, 1, none⟩) (Kd.V_far (p := ⟨gb490, 0, none⟩) (Kd.V_mono HL487_0.out (fun k_ hk => (⟨hk, hk.2⟩ : _ ∧ k_ ≠ gb490))) (fun _ hk => hk.2) (.int .i64 ((rd_T58 (rd_L6 t484 x6_1) x7_2).f0))) (fun _ hk => hk.2) (.int .i64 ((rd_T58 (rd_L6 t484 x6_1) x7_2).f1))) (fun _ h_ => h_.1)))).2.2) hb); have n5_ := Aside0.mk (Kd.C_below ((Kd.V_reads' (by (with_reducible repeat (first | apply Kd.V_alloc | apply Kd.V_drewN | apply Kd.V_drew)); exact (Kd.V_mono (Kd.V_far (p := ⟨gb490, 1, none⟩) (Kd.V_far (p := ⟨gb490, 0, none⟩) (Kd.V_mono HL488_0.out (fun k_ hk => (⟨hk, hk.2⟩ : _ ∧ k_ ≠ gb490))) (fun _ hk => hk.2) (.int .i64 ((rd_T58 (rd_L6 t484 x6_1) x7_2).f0))) (fun _ hk => hk.2) (.int .i64 ((rd_T58 (rd_L6 t484 x6_1) x7_2).f1))) (fun _ h_ => h_.1)))).2.2) hb); have n6_ := Aside0.mk (blk_below (g := gb490) (o := .cells #[.int .i64 ((rd_T58 (rd_L6 t484 x6_1) x7_2).f0), .int .i64 ((rd_T58 (rd_L6 t484 x6_1) x7_2).f1)] 58 (0, 0)) (by (with_reducible repeat (first | refine blk_drewN ?_ _ | refine blk_drew ?_ | refine blk_alloc ?_ _)); refine blk_put (cs := #[.int .i64 ((rd_T58 (rd_L6 t484 x6_1) x7_2).f0), .int .i64 0]) ?_ 1 _ rfl; (with_reducible repeat (first | refine blk_drewN ?_ _ | refine blk_drew ?_ | refine blk_alloc ?_ _)); refine blk_put (cs := #[.int .i64 0, .int .i64 0]) ?_ 0 _ rfl; (with_reducible repeat (first | refine blk_drewN ?_ _ | refine blk_drew ?_ | refine blk_alloc ?_ _)); exact BK490.out) hb); have n7_ := Aside0.mk (below_step (by repeat (first | (with_reducible first | exact HB.out | apply below_alloc | apply pw_below_drewN | apply below_drew1 | refine below_set ?_ GE483.out | refine below_set ?_ GE490.out) | exact HB.out)) hb); clear HO_5; clear HL487_0; clear HL488_0; clear BK483; clear HR487_0; clear HR488_0; clear BK490; clear HB; have HO_5 := n0_; have HL487_0 := n1_; have HL488_0 := n2_; have BK483 := n3_; have HR487_0 := n4_; have HR488_0 := n5_; have BK490 := n6_; have HB := n7_; clear n0_ n1_ n2_ n3_ n4_ n5_ n6_ n7_; (try clear hb); (try clear hb2); (try clear hk); (try clear hi)))
           go_roundg k2
           case measure => have := HK1.out; have := HK2.out; omega
           case rel => exact ⟨(wrap64 (x7_2 + 1)), (by first | rfl | (simp; done) | (simp [*]; done)), H', ⟨by have := HK1.out; have := HK2.out; omega⟩, ⟨by (with_reducible repeat (first | apply Kd.N_alloc | apply Kd.N_drewN | apply Kd.N_drew)); exact Kd.N_mono HO_5.out (fun _ hk => hk.1)⟩, ⟨by (with_reducible repeat (first | refine blk_drewN ?_ _ | refine blk_drew ?_ | refine blk_alloc ?_ _)); exact BK483.out⟩, ⟨by repeat (first | (with_reducible first | exact HB.out | apply below_alloc | apply pw_below_drewN | apply below_drew1 | refine below_set ?_ GE483.out | refine below_set ?_ GE490.out) | exact HB.out)⟩⟩
         ·rw [if_neg c12] at H
          exact absurd H (by simp)
        ·rw [if_neg c11] at H
         have c11b0 : decide (x7_2 < ((rd_L6 t484 x6_1).length : Int)) = false := decide_eq_false c11
         clear c11
         have H' := Aside0.mk H
         clear H
         have p487 : 0 ≤ (x6_1 : Int) := of_decide_eq_true (by first | (with_reducible assumption) | assumption)
         have q487 : x6_1 < (t484.length : Int) := of_decide_eq_true (by first | (with_reducible assumption) | assumption)
         obtain ⟨ad487, A487_0, c487_0, e487, hx487_0, hl487_0, hi487_0⟩ := at_L6 (Kd.N_reads' HO_5.out).2.2 x6_1 p487 q487
         cases e487
         obtain ⟨ce487, hce487, hMe487, hcc487⟩ := Kd.N_get HO_5.out [] x6_1 p487 (by first | exact q487 | exact of_decide_eq_true (by first | (with_reducible assumption) | assumption) | (have e_ := (Kd.N_reads' HO_5.out).1; omega))
         obtain ⟨ua487_0, uc487_0, rfl, ul487_0, ge487_0⟩ := Kd.FK_slice_open hMe487
         have hv487_0 := hcc487 0 _ rfl
         rw [Nat.add_zero, show ((Kd.slice 58 k58)).sz = 1 from rfl, Nat.mul_one] at hv487_0
         replace hv487_0 := Option.some.inj (hv487_0.symm.trans hx487_0)
         injection hv487_0 with hva_ hvn_ hvc_
         rw [hva_] at ge487_0
         rw [hvc_] at ul487_0
         have HL487_0 := Aside0.mk (show Kd.V k58 58 _ w.heap.size _ _ (rd_L6 t484 x6_1) from Kd.V_mk ul487_0 ge487_0)
         clear hva_ hvn_ hvc_ ge487_0 ul487_0
         clear hcc487 hce487
         have HR487_0 := Aside0.mk hi487_0
         have HC487_0 := Aside0.mk hl487_0
         clear hi487_0 hl487_0
         replace p487 := eq_true p487
         replace q487 := eq_true q487
         go_wp2
         go_roundg k2
         case measure => have := HK1.out; have := HK2.out; omega
         case rel => exact ⟨(wrap64 (x6_1 + 1)), (by first | rfl | (simp; done) | (simp [*]; done)), H', ⟨by have := HK1.out; have := HK2.out; omega⟩, ⟨by (with_reducible repeat (first | apply Kd.N_alloc | apply Kd.N_drewN | apply Kd.N_drew)); exact HO_5.out⟩, ⟨by (with_reducible repeat (first | refine blk_drewN ?_ _ | refine blk_drew ?_ | refine blk_alloc ?_ _)); exact BK483.out⟩, ⟨by repeat (first | (with_reducible first | exact HB.out | apply below_alloc | apply pw_below_drewN | apply below_drew1 | refine below_set ?_ GE483.out) | exact HB.out)⟩⟩
       ·rw [if_neg c10] at H
        exact absurd H (by simp)
      ·rw [if_neg c9] at H
       exact absurd H (by simp)
   ·rw [if_neg c7] at H
    have c7b0 : decide (x6_1 < (t484.length : Int)) = false := decide_eq_false c7
    clear c7
    obtain rfl := Option.some.inj H
    obtain ⟨Ao36, co36, eo36⟩ := Kd.N_slice HO_5.out
    subst eo36
    go_wp2
    go_ret
    exact ⟨by first | rfl | (simp [errW_none, errW_some] <;> rfl) | (simp [*, errW_none, errW_some] <;> rfl), by repeat (first | (with_reducible first | exact HB.out | apply below_alloc | apply pw_below_drewN | apply below_drew1 | refine below_set ?_ GE483.out) | exact HB.out)⟩

end Go.Proofs.Ythbknmblehecaaa.Pr
