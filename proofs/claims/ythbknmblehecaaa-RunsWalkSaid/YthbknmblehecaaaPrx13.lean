-- Printed by a program of this session (wip/tools/myprint.py) that runs the kit's print with contracts of this session's own.
import Derived.Test.YthbknmblehecaaaPrx0
import Derived.Test.YthbknmblehecaaaShort
import Derived.Test.YthbknmblehecaaaPrx12
namespace Go.Proofs.Ythbknmblehecaaa.Pr
open Go.RowKit Go.Proofs.YthbknmblehecaaaW.PrintWords Go.Proofs.YthbknmblehecaaaW.PrintLast Go.Proofs.YthbknmblehecaaaW.PrintMore
attribute [local go_sem] max2_int min2_int max_two min_two max_three min_three max_four min_four   -- for this text's walks alone
set_option linter.unusedVariables false
set_option linter.unusedSimpArgs false

/-! ### rickyardref1_PutRun: function 23 -/
mutual
def rickyardref1_PutRun.j0 : Nat → List (S32) → Bool → Int → Int → Option ((List (S32)) × Int)
 | 0, _, _, _, _ => none
 | k + 1, x0, x31, x330000, x330001 => if x31 = true then (some (([] : List (S32)), 1)) else (rickyardref1_PutRun.l0 k x0 0 x330000 x330001)
def rickyardref1_PutRun.l0 : Nat → List (S32) → Int → Int → Int → Option ((List (S32)) × Int)
 | 0, _, _, _, _ => none
 | k + 1, x0, x6, x330000, x330001 => if x6 < (x0.length : Int) then (if 0 ≤ x6 then ((rickyardref1_Over.f ((rd_T32 x0 x6).f0) ((rd_T32 x0 x6).f1) x330000 x330001).bind fun t332 => (if t332 = true then (some (([] : List (S32)), 4)) else (rickyardref1_PutRun.l0 k x0 (wrap64 (x6 + 1)) x330000 x330001))) else (none)) else (rickyardref1_PutRun.l1 k x0 ([] : List (S32)) ([] : List (S32)) 0 x330000 x330001)
def rickyardref1_PutRun.l1 : Nat → List (S32) → List (S32) → List (S32) → Int → Int → Int → Option ((List (S32)) × Int)
 | 0, _, _, _, _, _, _ => none
 | k + 1, x0, x7, x8, x9, x330000, x330001 => if x9 < (x0.length : Int) then (if 0 ≤ x9 then (if (wrap64 (((rd_T32 x0 x9).f0) + ((rd_T32 x0 x9).f1))) = x330000 then (rickyardref1_PutRun.l1 k x0 x7 x8 (wrap64 (x9 + 1)) ((rd_T32 x0 x9).f0) (wrap64 (((rd_T32 x0 x9).f1) + x330001))) else (if ((rd_T32 x0 x9).f0) = (wrap64 (x330000 + x330001)) then (rickyardref1_PutRun.l1 k x0 x7 x8 (wrap64 (x9 + 1)) x330000 (wrap64 (x330001 + ((rd_T32 x0 x9).f1)))) else (if ((rd_T32 x0 x9).f0) < x330000 then (if x7.length < 8796093022208 then (rickyardref1_PutRun.l1 k x0 (x7 ++ [(⟨(rd_T32 x0 x9).f0, (rd_T32 x0 x9).f1⟩ : S32)]) x8 (wrap64 (x9 + 1)) x330000 x330001) else (none)) else (if x8.length < 8796093022208 then (rickyardref1_PutRun.l1 k x0 x7 (x8 ++ [(⟨(rd_T32 x0 x9).f0, (rd_T32 x0 x9).f1⟩ : S32)]) (wrap64 (x9 + 1)) x330000 x330001) else (none))))) else (none)) else (if x7.length < 8796093022208 then ((some (x7 ++ [(⟨x330000, x330001⟩ : S32)] : List (S32))).bind fun y333 => (if y333.length + x8.length < 8796093022208 then (some ((y333 ++ x8), 0)) else (none))) else (none))
end
def rickyardref1_PutRun.f (k : Nat) (l0 : List (S32)) (a1_0 : Int) (a1_1 : Int) : Option ((List (S32)) × Int) := if a1_1 < 1 then (rickyardref1_PutRun.j0 k l0 true a1_0 a1_1) else (if a1_0 < 0 then (rickyardref1_PutRun.j0 k l0 true a1_0 a1_1) else (if a1_0 > 256 then (rickyardref1_PutRun.j0 k l0 true a1_0 a1_1) else (rickyardref1_PutRun.j0 k l0 (decide (a1_1 > (wrap64 (256 - a1_0)))) a1_0 a1_1)))
theorem rickyardref1_PutRun.mono_l : ∀ k, (∀ y0 y1 y2 y3, LeO (rickyardref1_PutRun.j0 k y0 y1 y2 y3) (rickyardref1_PutRun.j0 (k + 1) y0 y1 y2 y3)) ∧ (∀ y0 y1 y2 y3, LeO (rickyardref1_PutRun.l0 k y0 y1 y2 y3) (rickyardref1_PutRun.l0 (k + 1) y0 y1 y2 y3)) ∧ (∀ y0 y1 y2 y3 y4 y5, LeO (rickyardref1_PutRun.l1 k y0 y1 y2 y3 y4 y5) (rickyardref1_PutRun.l1 (k + 1) y0 y1 y2 y3 y4 y5))
 | 0 => ⟨fun _ _ _ _ r h => by simp [rickyardref1_PutRun.j0] at h, fun _ _ _ _ r h => by simp [rickyardref1_PutRun.l0] at h, fun _ _ _ _ _ _ r h => by simp [rickyardref1_PutRun.l1] at h⟩
 | k + 1 => by
  obtain ⟨ih0, ih1, ih2⟩ := rickyardref1_PutRun.mono_l k
  refine ⟨?_, ?_, ?_⟩
  ·intro y0 y1 y2 y3
   unfold rickyardref1_PutRun.j0
   repeat' first
   | (with_reducible exact ih0 _ _ _ _)
   | (with_reducible exact ih1 _ _ _ _)
   | (with_reducible exact ih2 _ _ _ _ _ _)
   | (with_reducible exact LeO.refl _)
   | (with_reducible exact LeO.none _)
   | (with_reducible refine LeO.ite ?_ ?_)
   | (with_reducible refine LeO.bind ?_ (fun _ => ?_))
   | exact ih0 _ _ _ _
   | exact ih1 _ _ _ _
   | exact ih2 _ _ _ _ _ _
   | exact LeO.none _
   | refine LeO.ite ?_ ?_
   | refine LeO.bind ?_ (fun _ => ?_)
  ·intro y0 y1 y2 y3
   unfold rickyardref1_PutRun.l0
   repeat' first
   | (with_reducible exact ih0 _ _ _ _)
   | (with_reducible exact ih1 _ _ _ _)
   | (with_reducible exact ih2 _ _ _ _ _ _)
   | (with_reducible exact LeO.refl _)
   | (with_reducible exact LeO.none _)
   | (with_reducible refine LeO.ite ?_ ?_)
   | (with_reducible refine LeO.bind ?_ (fun _ => ?_))
   | exact ih0 _ _ _ _
   | exact ih1 _ _ _ _
   | exact ih2 _ _ _ _ _ _
   | exact LeO.none _
   | refine LeO.ite ?_ ?_
   | refine LeO.bind ?_ (fun _ => ?_)
  ·intro y0 y1 y2 y3 y4 y5
   unfold rickyardref1_PutRun.l1
   repeat' first
   | (with_reducible exact ih0 _ _ _ _)
   | (with_reducible exact ih1 _ _ _ _)
   | (with_reducible exact ih2 _ _ _ _ _ _)
   | (with_reducible exact LeO.refl _)
   | (with_reducible exact LeO.none _)
   | (with_reducible refine LeO.ite ?_ ?_)
   | (with_reducible refine LeO.bind ?_ (fun _ => ?_))
   | exact ih0 _ _ _ _
   | exact ih1 _ _ _ _
   | exact ih2 _ _ _ _ _ _
   | exact LeO.none _
   | refine LeO.ite ?_ ?_
   | refine LeO.bind ?_ (fun _ => ?_)
theorem rickyardref1_PutRun.mono : ∀ a0 a1 a2 k, LeO (rickyardref1_PutRun.f k a0 a1 a2) (rickyardref1_PutRun.f (k + 1) a0 a1 a2) := by
 intro a0 a1 a2 k
 obtain ⟨ih0, ih1, ih2⟩ := rickyardref1_PutRun.mono_l k
 unfold rickyardref1_PutRun.f
 repeat' first
   | (with_reducible exact ih0 _ _ _ _)
   | (with_reducible exact ih1 _ _ _ _)
   | (with_reducible exact ih2 _ _ _ _ _ _)
   | (with_reducible exact LeO.refl _)
   | (with_reducible exact LeO.none _)
   | (with_reducible refine LeO.ite ?_ ?_)
   | (with_reducible refine LeO.bind ?_ (fun _ => ?_))
   | exact ih0 _ _ _ _
   | exact ih1 _ _ _ _
   | exact ih2 _ _ _ _ _ _
   | exact LeO.none _
   | refine LeO.ite ?_ ?_
   | refine LeO.bind ?_ (fun _ => ?_)
set_option maxHeartbeats 8000000 in
set_option maxRecDepth 100000 in
theorem rickyardref1_PutRun.calls (k : Nat) (A0 : Option Addr) (c0 : Nat) (l0 : List (S32)) (a1_0 : Int) (a1_1 : Int) (r1 : List (S32)) (r2 : Int) (w : World) (hr0 : Kd.C k32 w A0 l0.length l0) (hc0 : l0.length ≤ c0) (h : rickyardref1_PutRun.f k l0 a1_0 a1_1 = some (r1, r2)) :
  Calls Try.prog 23 #[.slice A0 l0.length c0, .agg #[.int .i64 a1_0, .int .i64 a1_1]] w fun e w' => ∃ v0_ : Value, e = .returned (.tuple #[v0_, .int .i64 r2]) ∧ Kd.R k32 32 w' w.heap.size (fun _ => True) v0_ r1 ∧ Below w.heap.size w w' := by
 have hu32 := Try.underlying32
 have HR0 := aM hr0
 have HC0 := aM hc0
 clear hr0 hc0
 have HB := aM (Below.refl w.heap.size w)
 have H : (if a1_1 < 1 then (rickyardref1_PutRun.j0 k l0 true a1_0 a1_1) else (if a1_0 < 0 then (rickyardref1_PutRun.j0 k l0 true a1_0 a1_1) else (if a1_0 > 256 then (rickyardref1_PutRun.j0 k l0 true a1_0 a1_1) else (rickyardref1_PutRun.j0 k l0 (decide (a1_1 > (wrap64 (256 - a1_0)))) a1_0 a1_1)))) = some (r1, r2) := h
 clear h
 have HC3 := aM H
 clear H
 go_enter Try.func23, Try.ntmps23
 go_upto_region 1 with (first|((with_reducible refine gate_dst (N:=3) rfl ?_);refine box_event ?hg (N:=3) ?hd (cs:=#[.int .i64 a1_0,.int .i64 a1_1]) (t:=32) ?hr ?_;(case hd => rfl);(case hg => rfl);(case hr => first|(go_simp;done)|(go_simp;rfl));intro gb329 hg w4 hbox hb;have n0_:=aM (wT (by repeat (first|(with_reducible first|exact HB.out|apply wA|apply wN_|apply wD)|exact HB.out)) hb);have n1_:=aM (hbox);have n2_:=aM ((by rw [hg];exact (wZ (by repeat (first|(with_reducible first|exact HB.out|apply wA|apply wN_|apply wD)|exact HB.out))) : w.heap.size ≤ gb329));have n3_:=aM ((by rw [hg];exact (wZ (by repeat (first|(with_reducible first|exact HB.out|apply wA|apply wN_|apply wD)|exact HB.out))) : w.heap.size ≤ gb329));clear HB;have HB:=n0_;have BK329:=n1_;have GW329:=n2_;have GE329:=n3_;clear n0_ n1_ n2_ n3_;clear hb hbox hg))
 repeat (go_quiet (first|((with_reducible refine gate_dst (N:=3) rfl ?_);refine box_event ?hg (N:=3) ?hd (cs:=#[.int .i64 a1_0,.int .i64 a1_1]) (t:=32) ?hr ?_;(case hd => rfl);(case hg => rfl);(case hr => first|(go_simp;done)|(go_simp;rfl));intro gb329 hg w4 hbox hb;have n0_:=aM (wT (by repeat (first|(with_reducible first|exact HB.out|apply wA|apply wN_|apply wD)|exact HB.out)) hb);have n1_:=aM (hbox);have n2_:=aM ((by rw [hg];exact (wZ (by repeat (first|(with_reducible first|exact HB.out|apply wA|apply wN_|apply wD)|exact HB.out))) : w.heap.size ≤ gb329));have n3_:=aM ((by rw [hg];exact (wZ (by repeat (first|(with_reducible first|exact HB.out|apply wA|apply wN_|apply wD)|exact HB.out))) : w.heap.size ≤ gb329));clear HB;have HB:=n0_;have BK329:=n1_;have GW329:=n2_;have GE329:=n3_;clear n0_ n1_ n2_ n3_;clear hb hbox hg));go_upto_region 1 with (first|((with_reducible refine gate_dst (N:=3) rfl ?_);refine box_event ?hg (N:=3) ?hd (cs:=#[.int .i64 a1_0,.int .i64 a1_1]) (t:=32) ?hr ?_;(case hd => rfl);(case hg => rfl);(case hr => first|(go_simp;done)|(go_simp;rfl));intro gb329 hg w4 hbox hb;have n0_:=aM (wT (by repeat (first|(with_reducible first|exact HB.out|apply wA|apply wN_|apply wD)|exact HB.out)) hb);have n1_:=aM (hbox);have n2_:=aM ((by rw [hg];exact (wZ (by repeat (first|(with_reducible first|exact HB.out|apply wA|apply wN_|apply wD)|exact HB.out))) : w.heap.size ≤ gb329));have n3_:=aM ((by rw [hg];exact (wZ (by repeat (first|(with_reducible first|exact HB.out|apply wA|apply wN_|apply wD)|exact HB.out))) : w.heap.size ≤ gb329));clear HB;have HB:=n0_;have BK329:=n1_;have GW329:=n2_;have GE329:=n3_;clear n0_ n1_ n2_ n3_;clear hb hbox hg)))
 (try simp only [Act.put, lS, lZ, lU])
 go_cut [31] (fun v31 wc => ∃ (kq : Nat) (x31_2 : Bool), v31 = .bool x31_2 ∧ Aside0 (rickyardref1_PutRun.j0 kq l0 x31_2 a1_0 a1_1 = some (r1, r2)) ∧ Aside0 (kq ≤ k) ∧ Aside0 (wc.heap[gb329]? = some (.cells #[.int .i64 a1_0, .int .i64 a1_1] 32 (0, 0))) ∧ Aside0 (Below w.heap.size w wc))
 case first =>
  have H := HC3.out
  clear HC3
  by_cases c5 : a1_1 < 1
  ·rw [if_pos c5] at H
   have c5b0 : decide (a1_1 < 1) = true := decide_eq_true c5
   clear c5
   (first | rw [c5b0] | (simp only [i64_w, i32_w]; rw [c5b0]) | skip)
   have H' := aM H
   clear H
   have hcz6_0 : w4.cell? ⟨gb329, 0, none⟩ = some (.int .i64 a1_0) := (bC BK329.out 0).trans rfl
   have hcz6_1 : w4.cell? ⟨gb329, 1, none⟩ = some (.int .i64 a1_1) := (bC BK329.out 1).trans rfl
   have hfz6_0 := bF BK329.out 0
   have hfz6_1 := bF BK329.out 1
   go_wp2
   repeat (go_quiet (fail);try go_wp2)
   go_meet
   case rel => exact ⟨_,(true),(by first|rfl|(simp;done)|(simp [*];done)),H',⟨by first|omega|exact Nat.le_refl _⟩,⟨by (with_reducible repeat (first|refine bN ?_ _|refine bD ?_|refine bA ?_ _));exact BK329.out⟩,⟨by repeat (first|(with_reducible first|exact HB.out|apply wA|apply wN_|apply wD|refine wS ?_ GE329.out)|exact HB.out)⟩⟩
  ·rw [if_neg c5] at H
   have c5b0 : decide (a1_1 < 1) = false := decide_eq_false c5
   clear c5
   (first | rw [c5b0] | (simp only [i64_w, i32_w]; rw [c5b0]) | skip)
   by_cases c7 : a1_0 < 0
   ·rw [if_pos c7] at H
    have c7b0 : decide (a1_0 < 0) = true := decide_eq_true c7
    clear c7
    have H' := aM H
    clear H
    have hcz8_0 : w4.cell? ⟨gb329, 0, none⟩ = some (.int .i64 a1_0) := (bC BK329.out 0).trans rfl
    have hcz8_1 : w4.cell? ⟨gb329, 1, none⟩ = some (.int .i64 a1_1) := (bC BK329.out 1).trans rfl
    have hfz8_0 := bF BK329.out 0
    have hfz8_1 := bF BK329.out 1
    go_wp2
    repeat (go_quiet (fail);try go_wp2)
    go_meet
    case rel => exact ⟨_,(true),(by first|rfl|(simp;done)|(simp [*];done)),H',⟨by first|omega|exact Nat.le_refl _⟩,⟨by (with_reducible repeat (first|refine bN ?_ _|refine bD ?_|refine bA ?_ _));exact BK329.out⟩,⟨by repeat (first|(with_reducible first|exact HB.out|apply wA|apply wN_|apply wD|refine wS ?_ GE329.out)|exact HB.out)⟩⟩
   ·rw [if_neg c7] at H
    have c7b0 : decide (a1_0 < 0) = false := decide_eq_false c7
    clear c7
    by_cases c9 : a1_0 > 256
    ·rw [if_pos c9] at H
     have c9b0 : decide (256 < a1_0) = true := decide_eq_true c9
     clear c9
     have H' := aM H
     clear H
     have hcz10_0 : w4.cell? ⟨gb329, 0, none⟩ = some (.int .i64 a1_0) := (bC BK329.out 0).trans rfl
     have hcz10_1 : w4.cell? ⟨gb329, 1, none⟩ = some (.int .i64 a1_1) := (bC BK329.out 1).trans rfl
     have hfz10_0 := bF BK329.out 0
     have hfz10_1 := bF BK329.out 1
     go_wp2
     repeat (go_quiet (fail);try go_wp2)
     go_meet
     case rel => exact ⟨_,(true),(by first|rfl|(simp;done)|(simp [*];done)),H',⟨by first|omega|exact Nat.le_refl _⟩,⟨by (with_reducible repeat (first|refine bN ?_ _|refine bD ?_|refine bA ?_ _));exact BK329.out⟩,⟨by repeat (first|(with_reducible first|exact HB.out|apply wA|apply wN_|apply wD|refine wS ?_ GE329.out)|exact HB.out)⟩⟩
    ·rw [if_neg c9] at H
     have c9b0 : decide (256 < a1_0) = false := decide_eq_false c9
     clear c9
     have H' := aM H
     clear H
     have hcz11_0 : w4.cell? ⟨gb329, 0, none⟩ = some (.int .i64 a1_0) := (bC BK329.out 0).trans rfl
     have hcz11_1 : w4.cell? ⟨gb329, 1, none⟩ = some (.int .i64 a1_1) := (bC BK329.out 1).trans rfl
     have hfz11_0 := bF BK329.out 0
     have hfz11_1 := bF BK329.out 1
     go_wp2
     repeat (go_quiet (fail);try go_wp2)
     go_meet
     case rel => exact ⟨_,(decide (a1_1 > (wrap64 (256 - a1_0)))),(by first|rfl|(simp;done)|(simp [*];done)),H',⟨by first|omega|exact Nat.le_refl _⟩,⟨by (with_reducible repeat (first|refine bN ?_ _|refine bD ?_|refine bA ?_ _));exact BK329.out⟩,⟨by repeat (first|(with_reducible first|exact HB.out|apply wA|apply wN_|apply wD|refine wS ?_ GE329.out)|exact HB.out)⟩⟩
 case rest =>
  clear HC3
  try clear c2
  try clear p2
  try clear c5
  try clear c5b0
  try clear p6
  try clear c7
  try clear c7b0
  try clear c9
  try clear c9b0
  try clear hcz10_0
  try clear hcz10_1
  try clear hcz11_0
  try clear hcz11_1
  try clear hcz6_0
  try clear hcz6_1
  try clear hcz8_0
  try clear hcz8_1
  try clear hfz10_0
  try clear hfz10_1
  try clear hfz11_0
  try clear hfz11_1
  try clear hfz6_0
  try clear hfz6_1
  try clear hfz8_0
  try clear hfz8_1
  obtain ⟨kq, x31_2, rfl, HA, HJ2, BK329, HB⟩ := hcut
  cases kq with
  | zero => exact absurd HA.out (by simp [rickyardref1_PutRun.j0])
  | succ kj2 =>
   have H := HA.out
   clear HA
   simp only [rickyardref1_PutRun.j0] at H
   by_cases c12 : x31_2 = true
   ·subst c12
    have H1 : (some (([] : List (S32)), 1)) = some (r1, r2) := by rw [if_pos rfl] at H; exact H
    clear H
    have H := H1
    clear H1
    simp only [Option.some.injEq, Prod.mk.injEq] at H
    obtain ⟨rfl, rfl⟩ := H
    go_wp2
    repeat (go_quiet (fail);try go_wp2)
    go_ret2
    exact ⟨_, by first | rfl | (simp [errW_none, errW_some] <;> rfl) | (simp [*, errW_none, errW_some] <;> rfl), by first | exact Kd.R_nil _ _ _ _ _ | exact Kd.N_nil _ _ _ _ _ | exact Kd.V_nil _ _ _ _ _ | exact Kd.Q_nil _ _ _ _ _ | exact Kd.S_nil _ _ _ _ _, by repeat (first | (with_reducible first | exact HB.out | apply wA | apply wN_ | apply wD | refine wS ?_ GE329.out) | exact HB.out)⟩
   ·replace c12 := Bool.eq_false_iff.mpr c12
    subst c12
    have H1 : (rickyardref1_PutRun.l0 kj2 l0 0 a1_0 a1_1) = some (r1, r2) := by rw [if_neg (show ¬ (false = true) by decide)] at H; exact H
    clear H
    have H := H1
    clear H1
    have H' := aM H
    clear H
    go_wp2
    repeat (go_quiet (fail);try go_wp2)
    go_loopg [6] kj2 (fun kq v6 w' => ∃ (x6_2 : Int), v6 = .int .i64 x6_2 ∧ Aside0 (rickyardref1_PutRun.l0 kq l0 x6_2 a1_0 a1_1 = some (r1, r2)) ∧ Aside0 (kq ≤ kj2) ∧ Aside0 (w'.heap[gb329]? = some (.cells #[.int .i64 a1_0, .int .i64 a1_1] 32 (0, 0))) ∧ Aside0 (Below w.heap.size w w'))
    case atStart => exact ⟨(0),(by first|rfl|(simp;done)|(simp [*];done)),H',⟨Nat.le_refl _⟩,⟨by (with_reducible repeat (first|refine bN ?_ _|refine bD ?_|refine bA ?_ _));exact BK329.out⟩,⟨by repeat (first|(with_reducible first|exact HB.out|apply wA|apply wN_|apply wD|refine wS ?_ GE329.out)|exact HB.out)⟩⟩
    case round =>
     clear H'
     try clear c1
     try clear c2
     try clear p2
     try clear c5
     try clear c5b0
     try clear p6
     try clear c7
     try clear c7b0
     try clear c9
     try clear c9b0
     try clear c12
     try clear hcz10_0
     try clear hcz10_1
     try clear hcz11_0
     try clear hcz11_1
     try clear hcz6_0
     try clear hcz6_1
     try clear hcz8_0
     try clear hcz8_1
     try clear hfz10_0
     try clear hfz10_1
     try clear hfz11_0
     try clear hfz11_1
     try clear hfz6_0
     try clear hfz6_1
     try clear hfz8_0
     try clear hfz8_1
     try clear p2
     try clear p6
     obtain ⟨x6_2, rfl, HA, HK2, BK329, HB⟩ := hrel
     cases gk with
     | zero => exact absurd HA.out (by simp [rickyardref1_PutRun.l0])
     | succ k2 =>
      have H := HA.out
      clear HA
      simp only [rickyardref1_PutRun.l0] at H
      by_cases c13 : x6_2 < (l0.length : Int)
      ·rw [if_pos c13] at H
       have c13b0 : decide (x6_2 < (l0.length : Int)) = true := decide_eq_true c13
       clear c13
       by_cases c14 : 0 ≤ x6_2
       ·rw [if_pos c14] at H
        have c14b0 : decide (0 ≤ x6_2) = true := decide_eq_true c14
        clear c14
        replace H := Option.bind_eq_some_iff.mp H
        obtain ⟨t332, A150, H⟩ := H
        replace H : (if t332 = true then (some (([] : List (S32)), 4)) else (rickyardref1_PutRun.l0 k2 l0 (wrap64 (x6_2 + 1)) a1_0 a1_1)) = some (r1, r2) := H
        have A15 := aM A150
        clear A150
        by_cases c16 : t332 = true
        ·subst c16
         have H1 : (some (([] : List (S32)), 4)) = some (r1, r2) := by rw [if_pos rfl] at H; exact H
         clear H
         have H := H1
         clear H1
         simp only [Option.some.injEq, Prod.mk.injEq] at H
         obtain ⟨rfl, rfl⟩ := H
         have p330 : 0 ≤ (x6_2 : Int) := oD (by first | (with_reducible assumption) | assumption)
         have q330 : x6_2 < (l0.length : Int) := oD (by first | (with_reducible assumption) | assumption)
         obtain ⟨ad330, e330, hx330_0, hx330_1⟩ := at_T32 HR0.out x6_2 p330 q330
         cases e330
         replace hx330_0 := (HB.out.cell (wL w _ hx330_0)).trans hx330_0
         replace hx330_1 := (HB.out.cell (wL w _ hx330_1)).trans hx330_1
         replace p330 := eq_true p330
         replace q330 := eq_true q330
         have p331 : 0 ≤ (x6_2 : Int) := oD (by first | (with_reducible assumption) | assumption)
         have q331 : x6_2 < (l0.length : Int) := oD (by first | (with_reducible assumption) | assumption)
         obtain ⟨ad331, e331, hx331_0, hx331_1⟩ := at_T32 HR0.out x6_2 p331 q331
         obtain rfl : ad330 = ad331 := (by injection e331)
         replace hx331_0 := (HB.out.cell (wL w _ hx331_0)).trans hx331_0
         replace hx331_1 := (HB.out.cell (wL w _ hx331_1)).trans hx331_1
         replace p331 := eq_true p331
         replace q331 := eq_true q331
         have hcz17_0 : wr.cell? ⟨gb329, 0, none⟩ = some (.int .i64 a1_0) := (bC BK329.out 0).trans rfl
         have hcz17_1 : wr.cell? ⟨gb329, 1, none⟩ = some (.int .i64 a1_1) := (bC BK329.out 1).trans rfl
         have hfz17_0 := bF BK329.out 0
         have hfz17_1 := bF BK329.out 1
         go_wp2_with (first|(go_at_call 50;(with_reducible refine (rickyardref1_Over.calls ((rd_T32 l0 x6_2).f0) ((rd_T32 l0 x6_2).f1) a1_0 a1_1 true _ A15.out).mono ?_);rintro e w' ⟨rfl,⟨nd,rfl⟩⟩;(try first|exact ⟨rfl,_,World.drewN_drewN _ _ _⟩|exact ⟨rfl,_,Eq.trans (World.drewN_drewN _ _ _) (congrArg (World.drewN _) (Nat.add_assoc _ _ _))⟩)))
         repeat (go_quiet (first|(go_at_call 50;(with_reducible refine (rickyardref1_Over.calls ((rd_T32 l0 x6_2).f0) ((rd_T32 l0 x6_2).f1) a1_0 a1_1 true _ A15.out).mono ?_);rintro e w' ⟨rfl,⟨nd,rfl⟩⟩;(try first|exact ⟨rfl,_,World.drewN_drewN _ _ _⟩|exact ⟨rfl,_,Eq.trans (World.drewN_drewN _ _ _) (congrArg (World.drewN _) (Nat.add_assoc _ _ _))⟩)));try go_wp2_with (first|(go_at_call 50;(with_reducible refine (rickyardref1_Over.calls ((rd_T32 l0 x6_2).f0) ((rd_T32 l0 x6_2).f1) a1_0 a1_1 true _ A15.out).mono ?_);rintro e w' ⟨rfl,⟨nd,rfl⟩⟩;(try first|exact ⟨rfl,_,World.drewN_drewN _ _ _⟩|exact ⟨rfl,_,Eq.trans (World.drewN_drewN _ _ _) (congrArg (World.drewN _) (Nat.add_assoc _ _ _))⟩))))
         go_ret2
         exact ⟨_, by first | rfl | (simp [errW_none, errW_some] <;> rfl) | (simp [*, errW_none, errW_some] <;> rfl), by first | exact Kd.R_nil _ _ _ _ _ | exact Kd.N_nil _ _ _ _ _ | exact Kd.V_nil _ _ _ _ _ | exact Kd.Q_nil _ _ _ _ _ | exact Kd.S_nil _ _ _ _ _, by repeat (first | (with_reducible first | exact HB.out | apply wA | apply wN_ | apply wD | refine wS ?_ GE329.out) | exact HB.out)⟩
        ·replace c16 := Bool.eq_false_iff.mpr c16
         subst c16
         have H1 : (rickyardref1_PutRun.l0 k2 l0 (wrap64 (x6_2 + 1)) a1_0 a1_1) = some (r1, r2) := by rw [if_neg (show ¬ (false = true) by decide)] at H; exact H
         clear H
         have H := H1
         clear H1
         have H' := aM H
         clear H
         have p330 : 0 ≤ (x6_2 : Int) := oD (by first | (with_reducible assumption) | assumption)
         have q330 : x6_2 < (l0.length : Int) := oD (by first | (with_reducible assumption) | assumption)
         obtain ⟨ad330, e330, hx330_0, hx330_1⟩ := at_T32 HR0.out x6_2 p330 q330
         cases e330
         replace hx330_0 := (HB.out.cell (wL w _ hx330_0)).trans hx330_0
         replace hx330_1 := (HB.out.cell (wL w _ hx330_1)).trans hx330_1
         replace p330 := eq_true p330
         replace q330 := eq_true q330
         have p331 : 0 ≤ (x6_2 : Int) := oD (by first | (with_reducible assumption) | assumption)
         have q331 : x6_2 < (l0.length : Int) := oD (by first | (with_reducible assumption) | assumption)
         obtain ⟨ad331, e331, hx331_0, hx331_1⟩ := at_T32 HR0.out x6_2 p331 q331
         obtain rfl : ad330 = ad331 := (by injection e331)
         replace hx331_0 := (HB.out.cell (wL w _ hx331_0)).trans hx331_0
         replace hx331_1 := (HB.out.cell (wL w _ hx331_1)).trans hx331_1
         replace p331 := eq_true p331
         replace q331 := eq_true q331
         have hcz18_0 : wr.cell? ⟨gb329, 0, none⟩ = some (.int .i64 a1_0) := (bC BK329.out 0).trans rfl
         have hcz18_1 : wr.cell? ⟨gb329, 1, none⟩ = some (.int .i64 a1_1) := (bC BK329.out 1).trans rfl
         have hfz18_0 := bF BK329.out 0
         have hfz18_1 := bF BK329.out 1
         go_wp2_with (first|(go_at_call 50;(with_reducible refine (rickyardref1_Over.calls ((rd_T32 l0 x6_2).f0) ((rd_T32 l0 x6_2).f1) a1_0 a1_1 false _ A15.out).mono ?_);rintro e w' ⟨rfl,⟨nd,rfl⟩⟩;(try first|exact ⟨rfl,_,World.drewN_drewN _ _ _⟩|exact ⟨rfl,_,Eq.trans (World.drewN_drewN _ _ _) (congrArg (World.drewN _) (Nat.add_assoc _ _ _))⟩)))
         repeat (go_quiet (first|(go_at_call 50;(with_reducible refine (rickyardref1_Over.calls ((rd_T32 l0 x6_2).f0) ((rd_T32 l0 x6_2).f1) a1_0 a1_1 false _ A15.out).mono ?_);rintro e w' ⟨rfl,⟨nd,rfl⟩⟩;(try first|exact ⟨rfl,_,World.drewN_drewN _ _ _⟩|exact ⟨rfl,_,Eq.trans (World.drewN_drewN _ _ _) (congrArg (World.drewN _) (Nat.add_assoc _ _ _))⟩)));try go_wp2_with (first|(go_at_call 50;(with_reducible refine (rickyardref1_Over.calls ((rd_T32 l0 x6_2).f0) ((rd_T32 l0 x6_2).f1) a1_0 a1_1 false _ A15.out).mono ?_);rintro e w' ⟨rfl,⟨nd,rfl⟩⟩;(try first|exact ⟨rfl,_,World.drewN_drewN _ _ _⟩|exact ⟨rfl,_,Eq.trans (World.drewN_drewN _ _ _) (congrArg (World.drewN _) (Nat.add_assoc _ _ _))⟩))))
         go_roundg k2
         case measure => have:=HJ2.out;have:=HK2.out;omega
         case rel => exact ⟨(wrap64 (x6_2 + 1)),(by first|rfl|(simp;done)|(simp [*];done)),H',⟨by have:=HJ2.out;have:=HK2.out;omega⟩,⟨by (with_reducible repeat (first|refine bN ?_ _|refine bD ?_|refine bA ?_ _));exact BK329.out⟩,⟨by repeat (first|(with_reducible first|exact HB.out|apply wA|apply wN_|apply wD|refine wS ?_ GE329.out)|exact HB.out)⟩⟩
       ·rw [if_neg c14] at H
        exact absurd H (by simp)
      ·rw [if_neg c13] at H
       have c13b0 : decide (x6_2 < (l0.length : Int)) = false := decide_eq_false c13
       clear c13
       have H' := aM H
       clear H
       go_wp2
       repeat (go_quiet (fail);try go_wp2)
       go_loopg [7, 8, 9] k2 (fun kq v7 v8 v9 w' => ∃ (x7_3 : List (S32)) (x8_3 : List (S32)) (x9_3 : Int) (x330000_3 : Int) (x330001_3 : Int), v9 = .int .i64 x9_3 ∧ Aside0 (rickyardref1_PutRun.l1 kq l0 x7_3 x8_3 x9_3 x330000_3 x330001_3 = some (r1, r2)) ∧ Aside0 (kq ≤ k2) ∧ Aside0 (Kd.R k32 32 w' w.heap.size (fun k_ => some k_ ≠ (v8 : Value).ownBlock ∧ k_ ≠ gb329) v7 x7_3) ∧ Aside0 (Kd.R k32 32 w' w.heap.size (fun k_ => some k_ ≠ (v7 : Value).ownBlock ∧ k_ ≠ gb329) v8 x8_3) ∧ Aside0 (w'.heap[gb329]? = some (.cells #[.int .i64 x330000_3, .int .i64 x330001_3] 32 (0, 0))) ∧ Aside0 (Below w.heap.size w w'))
       case atStart => exact ⟨(([] : List (S32))),(([] : List (S32))),(0),(a1_0),(a1_1),(by first|rfl|(simp;done)|(simp [*];done)),H',⟨Nat.le_refl _⟩,⟨by first|exact Kd.R_nil _ _ _ _ _|exact Kd.N_nil _ _ _ _ _|exact Kd.V_nil _ _ _ _ _|exact Kd.Q_nil _ _ _ _ _|exact Kd.S_nil _ _ _ _ _⟩,⟨by first|exact Kd.R_nil _ _ _ _ _|exact Kd.N_nil _ _ _ _ _|exact Kd.V_nil _ _ _ _ _|exact Kd.Q_nil _ _ _ _ _|exact Kd.S_nil _ _ _ _ _⟩,⟨by (with_reducible repeat (first|refine bN ?_ _|refine bD ?_|refine bA ?_ _));exact BK329.out⟩,⟨by repeat (first|(with_reducible first|exact HB.out|apply wA|apply wN_|apply wD|refine wS ?_ GE329.out)|exact HB.out)⟩⟩
       case round =>
        clear H'
        try clear c1
        try clear c2
        try clear p2
        try clear p3
        try clear q3
        try clear hx3
        try clear c5
        try clear c5b0
        try clear p6
        try clear c7
        try clear c7b0
        try clear c9
        try clear c9b0
        try clear c12
        try clear c13
        try clear c13b0
        try clear c14
        try clear c14b0
        try clear c16
        try clear hcz10_0
        try clear hcz10_1
        try clear hcz11_0
        try clear hcz11_1
        try clear hcz17_0
        try clear hcz17_1
        try clear hcz18_0
        try clear hcz18_1
        try clear hcz6_0
        try clear hcz6_1
        try clear hcz8_0
        try clear hcz8_1
        try clear hfz10_0
        try clear hfz10_1
        try clear hfz11_0
        try clear hfz11_1
        try clear hfz17_0
        try clear hfz17_1
        try clear hfz18_0
        try clear hfz18_1
        try clear hfz6_0
        try clear hfz6_1
        try clear hfz8_0
        try clear hfz8_1
        try clear hx330_0
        try clear hx330_1
        try clear hx331_0
        try clear hx331_1
        try clear p2
        try clear p330
        try clear p331
        try clear p6
        try clear q330
        try clear q331
        obtain ⟨x7_3, x8_3, x9_3, x330000_3, x330001_3, rfl, HA, HK3, HO_7, HO_8, BK329, HB⟩ := hrel
        cases gk with
        | zero => exact absurd HA.out (by simp [rickyardref1_PutRun.l1])
        | succ k3 =>
         have H := HA.out
         clear HA
         simp only [rickyardref1_PutRun.l1] at H
         by_cases c19 : x9_3 < (l0.length : Int)
         ·rw [if_pos c19] at H
          have c19b0 : decide (x9_3 < (l0.length : Int)) = true := decide_eq_true c19
          clear c19
          by_cases c20 : 0 ≤ x9_3
          ·rw [if_pos c20] at H
           have c20b0 : decide (0 ≤ x9_3) = true := decide_eq_true c20
           clear c20
           by_cases c21 : (wrap64 (((rd_T32 l0 x9_3).f0) + ((rd_T32 l0 x9_3).f1))) = x330000_3
           ·rw [if_pos c21] at H
            have c21b0 : ((wrap64 (((rd_T32 l0 x9_3).f0) + ((rd_T32 l0 x9_3).f1))) == x330000_3) = true := beq_iff_eq.mpr c21
            have c21b1 : ((wrap64 (((rd_T32 l0 x9_3).f0) + ((rd_T32 l0 x9_3).f1))) != x330000_3) = false := bne_eq_false_iff_eq.mpr c21
            clear c21
            have H' := aM H
            clear H
            have p339 : 0 ≤ (x9_3 : Int) := oD (by first | (with_reducible assumption) | assumption)
            have q339 : x9_3 < (l0.length : Int) := oD (by first | (with_reducible assumption) | assumption)
            obtain ⟨ad339, e339, hx339_0, hx339_1⟩ := at_T32 HR0.out x9_3 p339 q339
            cases e339
            replace hx339_0 := (HB.out.cell (wL w _ hx339_0)).trans hx339_0
            replace hx339_1 := (HB.out.cell (wL w _ hx339_1)).trans hx339_1
            replace p339 := eq_true p339
            replace q339 := eq_true q339
            go_wp2_with (first|((with_reducible refine gate_dst (N:=10) rfl ?_);refine box_event ?hg (N:=10) ?hd (cs:=#[.int .i64 0,.int .i64 0]) (t:=32) ?hr ?_;(case hd => rfl);(case hg => rfl);(case hr => first|(go_simp;done)|(go_simp;rfl));intro gb340 hg w22 hbox hb;have n0_:=aM (rB (Kd.R_elderB (by (with_reducible repeat (first|apply rA|apply rN|apply rD));exact HO_7.out) gb340 (Nat.le_of_eq hg.symm)) hb);have n1_:=aM (rB (Kd.R_elderB (by (with_reducible repeat (first|apply rA|apply rN|apply rD));exact HO_8.out) gb340 (Nat.le_of_eq hg.symm)) hb);have n2_:=aM (bB (g:=gb329) (o:=.cells #[.int .i64 x330000_3,.int .i64 x330001_3] 32 (0,0)) (by (with_reducible repeat (first|refine bN ?_ _|refine bD ?_|refine bA ?_ _));exact BK329.out) hb);have n3_:=aM (wT (by repeat (first|(with_reducible first|exact HB.out|apply wA|apply wN_|apply wD|refine wS ?_ GE329.out)|exact HB.out)) hb);have n4_:=aM (hbox);have n5_:=aM ((by rw [hg];exact (wZ (by repeat (first|(with_reducible first|exact HB.out|apply wA|apply wN_|apply wD|refine wS ?_ GE329.out)|exact HB.out))) : w.heap.size ≤ gb340));have n6_:=aM ((by rw [hg];exact (wZ (by repeat (first|(with_reducible first|exact HB.out|apply wA|apply wN_|apply wD|refine wS ?_ GE329.out)|exact HB.out))) : w.heap.size ≤ gb340));have n7_:=aM ((by rw [hg];exact Nat.ne_of_lt (bL (g:=gb329) (o:=.cells #[.int .i64 x330000_3,.int .i64 x330001_3] 32 (0,0)) (by (with_reducible repeat (first|refine bN ?_ _|refine bD ?_|refine bA ?_ _));exact BK329.out)) : gb329 ≠ gb340));have n8_:=aM ((by rw [hg];exact Nat.ne_of_gt (bL (g:=gb329) (o:=.cells #[.int .i64 x330000_3,.int .i64 x330001_3] 32 (0,0)) (by (with_reducible repeat (first|refine bN ?_ _|refine bD ?_|refine bA ?_ _));exact BK329.out)) : gb340 ≠ gb329));clear HO_7;clear HO_8;clear BK329;clear HB;have HO_7:=n0_;have HO_8:=n1_;have BK329:=n2_;have HB:=n3_;have BK340:=n4_;have GW340:=n5_;have GE340:=n6_;have NB329_340:=n7_;have NB340_329:=n8_;clear n0_ n1_ n2_ n3_ n4_ n5_ n6_ n7_ n8_;clear hb hbox hg;have hnb23:=NB340_329.out;have hnc23:=NB329_340.out;have hcz24_0 : w22.cell? ⟨gb340,0,none⟩ = some (.int .i64 0):=(bC BK340.out 0).trans rfl;have hcz24_1 : w22.cell? ⟨gb340,1,none⟩ = some (.int .i64 0):=(bC BK340.out 1).trans rfl;have hfz24_0:=bF BK340.out 0;have hfz24_1:=bF BK340.out 1;have hcz25_0 : w22.cell? ⟨gb329,0,none⟩ = some (.int .i64 x330000_3):=(bC BK329.out 0).trans rfl;have hcz25_1 : w22.cell? ⟨gb329,1,none⟩ = some (.int .i64 x330001_3):=(bC BK329.out 1).trans rfl;have hfz25_0:=bF BK329.out 0;have hfz25_1:=bF BK329.out 1))
            repeat (go_quiet (first|((with_reducible refine gate_dst (N:=10) rfl ?_);refine box_event ?hg (N:=10) ?hd (cs:=#[.int .i64 0,.int .i64 0]) (t:=32) ?hr ?_;(case hd => rfl);(case hg => rfl);(case hr => first|(go_simp;done)|(go_simp;rfl));intro gb340 hg w22 hbox hb;have n0_:=aM (rB (Kd.R_elderB (by (with_reducible repeat (first|apply rA|apply rN|apply rD));exact HO_7.out) gb340 (Nat.le_of_eq hg.symm)) hb);have n1_:=aM (rB (Kd.R_elderB (by (with_reducible repeat (first|apply rA|apply rN|apply rD));exact HO_8.out) gb340 (Nat.le_of_eq hg.symm)) hb);have n2_:=aM (bB (g:=gb329) (o:=.cells #[.int .i64 x330000_3,.int .i64 x330001_3] 32 (0,0)) (by (with_reducible repeat (first|refine bN ?_ _|refine bD ?_|refine bA ?_ _));exact BK329.out) hb);have n3_:=aM (wT (by repeat (first|(with_reducible first|exact HB.out|apply wA|apply wN_|apply wD|refine wS ?_ GE329.out)|exact HB.out)) hb);have n4_:=aM (hbox);have n5_:=aM ((by rw [hg];exact (wZ (by repeat (first|(with_reducible first|exact HB.out|apply wA|apply wN_|apply wD|refine wS ?_ GE329.out)|exact HB.out))) : w.heap.size ≤ gb340));have n6_:=aM ((by rw [hg];exact (wZ (by repeat (first|(with_reducible first|exact HB.out|apply wA|apply wN_|apply wD|refine wS ?_ GE329.out)|exact HB.out))) : w.heap.size ≤ gb340));have n7_:=aM ((by rw [hg];exact Nat.ne_of_lt (bL (g:=gb329) (o:=.cells #[.int .i64 x330000_3,.int .i64 x330001_3] 32 (0,0)) (by (with_reducible repeat (first|refine bN ?_ _|refine bD ?_|refine bA ?_ _));exact BK329.out)) : gb329 ≠ gb340));have n8_:=aM ((by rw [hg];exact Nat.ne_of_gt (bL (g:=gb329) (o:=.cells #[.int .i64 x330000_3,.int .i64 x330001_3] 32 (0,0)) (by (with_reducible repeat (first|refine bN ?_ _|refine bD ?_|refine bA ?_ _));exact BK329.out)) : gb340 ≠ gb329));clear HO_7;clear HO_8;clear BK329;clear HB;have HO_7:=n0_;have HO_8:=n1_;have BK329:=n2_;have HB:=n3_;have BK340:=n4_;have GW340:=n5_;have GE340:=n6_;have NB329_340:=n7_;have NB340_329:=n8_;clear n0_ n1_ n2_ n3_ n4_ n5_ n6_ n7_ n8_;clear hb hbox hg;have hnb23:=NB340_329.out;have hnc23:=NB329_340.out;have hcz24_0 : w22.cell? ⟨gb340,0,none⟩ = some (.int .i64 0):=(bC BK340.out 0).trans rfl;have hcz24_1 : w22.cell? ⟨gb340,1,none⟩ = some (.int .i64 0):=(bC BK340.out 1).trans rfl;have hfz24_0:=bF BK340.out 0;have hfz24_1:=bF BK340.out 1;have hcz25_0 : w22.cell? ⟨gb329,0,none⟩ = some (.int .i64 x330000_3):=(bC BK329.out 0).trans rfl;have hcz25_1 : w22.cell? ⟨gb329,1,none⟩ = some (.int .i64 x330001_3):=(bC BK329.out 1).trans rfl;have hfz25_0:=bF BK329.out 0;have hfz25_1:=bF BK329.out 1));try go_wp2_with (first|((with_reducible refine gate_dst (N:=10) rfl ?_);refine box_event ?hg (N:=10) ?hd (cs:=#[.int .i64 0,.int .i64 0]) (t:=32) ?hr ?_;(case hd => rfl);(case hg => rfl);(case hr => first|(go_simp;done)|(go_simp;rfl));intro gb340 hg w22 hbox hb;have n0_:=aM (rB (Kd.R_elderB (by (with_reducible repeat (first|apply rA|apply rN|apply rD));exact HO_7.out) gb340 (Nat.le_of_eq hg.symm)) hb);have n1_:=aM (rB (Kd.R_elderB (by (with_reducible repeat (first|apply rA|apply rN|apply rD));exact HO_8.out) gb340 (Nat.le_of_eq hg.symm)) hb);have n2_:=aM (bB (g:=gb329) (o:=.cells #[.int .i64 x330000_3,.int .i64 x330001_3] 32 (0,0)) (by (with_reducible repeat (first|refine bN ?_ _|refine bD ?_|refine bA ?_ _));exact BK329.out) hb);have n3_:=aM (wT (by repeat (first|(with_reducible first|exact HB.out|apply wA|apply wN_|apply wD|refine wS ?_ GE329.out)|exact HB.out)) hb);have n4_:=aM (hbox);have n5_:=aM ((by rw [hg];exact (wZ (by repeat (first|(with_reducible first|exact HB.out|apply wA|apply wN_|apply wD|refine wS ?_ GE329.out)|exact HB.out))) : w.heap.size ≤ gb340));have n6_:=aM ((by rw [hg];exact (wZ (by repeat (first|(with_reducible first|exact HB.out|apply wA|apply wN_|apply wD|refine wS ?_ GE329.out)|exact HB.out))) : w.heap.size ≤ gb340));have n7_:=aM ((by rw [hg];exact Nat.ne_of_lt (bL (g:=gb329) (o:=.cells #[.int .i64 x330000_3,.int .i64 x330001_3] 32 (0,0)) (by (with_reducible repeat (first|refine bN ?_ _|refine bD ?_|refine bA ?_ _));exact BK329.out)) : gb329 ≠ gb340));have n8_:=aM ((by rw [hg];exact Nat.ne_of_gt (bL (g:=gb329) (o:=.cells #[.int .i64 x330000_3,.int .i64 x330001_3] 32 (0,0)) (by (with_reducible repeat (first|refine bN ?_ _|refine bD ?_|refine bA ?_ _));exact BK329.out)) : gb340 ≠ gb329));clear HO_7;clear HO_8;clear BK329;clear HB;have HO_7:=n0_;have HO_8:=n1_;have BK329:=n2_;have HB:=n3_;have BK340:=n4_;have GW340:=n5_;have GE340:=n6_;have NB329_340:=n7_;have NB340_329:=n8_;clear n0_ n1_ n2_ n3_ n4_ n5_ n6_ n7_ n8_;clear hb hbox hg;have hnb23:=NB340_329.out;have hnc23:=NB329_340.out;have hcz24_0 : w22.cell? ⟨gb340,0,none⟩ = some (.int .i64 0):=(bC BK340.out 0).trans rfl;have hcz24_1 : w22.cell? ⟨gb340,1,none⟩ = some (.int .i64 0):=(bC BK340.out 1).trans rfl;have hfz24_0:=bF BK340.out 0;have hfz24_1:=bF BK340.out 1;have hcz25_0 : w22.cell? ⟨gb329,0,none⟩ = some (.int .i64 x330000_3):=(bC BK329.out 0).trans rfl;have hcz25_1 : w22.cell? ⟨gb329,1,none⟩ = some (.int .i64 x330001_3):=(bC BK329.out 1).trans rfl;have hfz25_0:=bF BK329.out 0;have hfz25_1:=bF BK329.out 1)))
            go_roundg k3
            case measure => have:=HJ2.out;have:=HK2.out;have:=HK3.out;omega
            case rel => exact ⟨(x7_3),(x8_3),(wrap64 (x9_3 + 1)),((rd_T32 l0 x9_3).f0),(wrap64 (((rd_T32 l0 x9_3).f1) + x330001_3)),(by first|rfl|(simp;done)|(simp [*];done)),H',⟨by have:=HJ2.out;have:=HK2.out;have:=HK3.out;omega⟩,⟨by (with_reducible repeat (first|apply rA|apply rN|apply rD));exact rM (rF_ (p:=⟨gb329,1,none⟩) (rF_ (p:=⟨gb329,0,none⟩) (rF_ (p:=⟨gb340,1,none⟩) (rF_ (p:=⟨gb340,0,none⟩) (rM (rM HO_7.out (fun k_ hk => (⟨hk,hk.2⟩ : _ ∧ k_ ≠ gb340))) (fun k_ hk => (⟨hk,hk.1.1.2⟩ : _ ∧ k_ ≠ gb329))) (fun _ hk => hk.1.2) (.int .i64 ((rd_T32 l0 x9_3).f0))) (fun _ hk => hk.1.2) (.int .i64 ((rd_T32 l0 x9_3).f1))) (fun _ hk => hk.2) (.int .i64 ((rd_T32 l0 x9_3).f0))) (fun _ hk => hk.2) (.int .i64 (wrap64 (((rd_T32 l0 x9_3).f1) + x330001_3)))) (fun _ hk => ⟨hk.1.1.1.1,hk.1.1.1.2⟩)⟩,⟨by (with_reducible repeat (first|apply rA|apply rN|apply rD));exact rM (rF_ (p:=⟨gb329,1,none⟩) (rF_ (p:=⟨gb329,0,none⟩) (rF_ (p:=⟨gb340,1,none⟩) (rF_ (p:=⟨gb340,0,none⟩) (rM (rM HO_8.out (fun k_ hk => (⟨hk,hk.2⟩ : _ ∧ k_ ≠ gb340))) (fun k_ hk => (⟨hk,hk.1.1.2⟩ : _ ∧ k_ ≠ gb329))) (fun _ hk => hk.1.2) (.int .i64 ((rd_T32 l0 x9_3).f0))) (fun _ hk => hk.1.2) (.int .i64 ((rd_T32 l0 x9_3).f1))) (fun _ hk => hk.2) (.int .i64 ((rd_T32 l0 x9_3).f0))) (fun _ hk => hk.2) (.int .i64 (wrap64 (((rd_T32 l0 x9_3).f1) + x330001_3)))) (fun _ hk => ⟨hk.1.1.1.1,hk.1.1.1.2⟩)⟩,⟨by (with_reducible repeat (first|refine bN ?_ _|refine bD ?_|refine bA ?_ _));refine bP (cs:=#[.int .i64 ((rd_T32 l0 x9_3).f0),.int .i64 x330001_3]) ?_ 1 _ rfl;(with_reducible repeat (first|refine bN ?_ _|refine bD ?_|refine bA ?_ _));refine bP (cs:=#[.int .i64 x330000_3,.int .i64 x330001_3]) ?_ 0 _ rfl;(with_reducible repeat (first|refine bN ?_ _|refine bD ?_|refine bA ?_ _));refine bR ?_ NB329_340.out _;(with_reducible repeat (first|refine bN ?_ _|refine bD ?_|refine bA ?_ _));refine bR ?_ NB329_340.out _;(with_reducible repeat (first|refine bN ?_ _|refine bD ?_|refine bA ?_ _));exact BK329.out⟩,⟨by repeat (first|(with_reducible first|exact HB.out|apply wA|apply wN_|apply wD|refine wS ?_ GE329.out|refine wS ?_ GE340.out)|exact HB.out)⟩⟩
           ·rw [if_neg c21] at H
            have c21b0 : ((wrap64 (((rd_T32 l0 x9_3).f0) + ((rd_T32 l0 x9_3).f1))) == x330000_3) = false := beq_eq_false_iff_ne.mpr c21
            have c21b1 : ((wrap64 (((rd_T32 l0 x9_3).f0) + ((rd_T32 l0 x9_3).f1))) != x330000_3) = true := bne_iff_ne.mpr c21
            by_cases c26 : ((rd_T32 l0 x9_3).f0) = (wrap64 (x330000_3 + x330001_3))
            ·rw [if_pos c26] at H
             have c26b0 : (((rd_T32 l0 x9_3).f0) == (wrap64 (x330000_3 + x330001_3))) = true := beq_iff_eq.mpr c26
             have c26b1 : (((rd_T32 l0 x9_3).f0) != (wrap64 (x330000_3 + x330001_3))) = false := bne_eq_false_iff_eq.mpr c26
             clear c26
             have H' := aM H
             clear H
             have p339 : 0 ≤ (x9_3 : Int) := oD (by first | (with_reducible assumption) | assumption)
             have q339 : x9_3 < (l0.length : Int) := oD (by first | (with_reducible assumption) | assumption)
             obtain ⟨ad339, e339, hx339_0, hx339_1⟩ := at_T32 HR0.out x9_3 p339 q339
             cases e339
             replace hx339_0 := (HB.out.cell (wL w _ hx339_0)).trans hx339_0
             replace hx339_1 := (HB.out.cell (wL w _ hx339_1)).trans hx339_1
             replace p339 := eq_true p339
             replace q339 := eq_true q339
             go_wp2_with (first|((with_reducible refine gate_dst (N:=10) rfl ?_);refine box_event ?hg (N:=10) ?hd (cs:=#[.int .i64 0,.int .i64 0]) (t:=32) ?hr ?_;(case hd => rfl);(case hg => rfl);(case hr => first|(go_simp;done)|(go_simp;rfl));intro gb340 hg w27 hbox hb;have n0_:=aM (rB (Kd.R_elderB (by (with_reducible repeat (first|apply rA|apply rN|apply rD));exact HO_7.out) gb340 (Nat.le_of_eq hg.symm)) hb);have n1_:=aM (rB (Kd.R_elderB (by (with_reducible repeat (first|apply rA|apply rN|apply rD));exact HO_8.out) gb340 (Nat.le_of_eq hg.symm)) hb);have n2_:=aM (bB (g:=gb329) (o:=.cells #[.int .i64 x330000_3,.int .i64 x330001_3] 32 (0,0)) (by (with_reducible repeat (first|refine bN ?_ _|refine bD ?_|refine bA ?_ _));exact BK329.out) hb);have n3_:=aM (wT (by repeat (first|(with_reducible first|exact HB.out|apply wA|apply wN_|apply wD|refine wS ?_ GE329.out)|exact HB.out)) hb);have n4_:=aM (hbox);have n5_:=aM ((by rw [hg];exact (wZ (by repeat (first|(with_reducible first|exact HB.out|apply wA|apply wN_|apply wD|refine wS ?_ GE329.out)|exact HB.out))) : w.heap.size ≤ gb340));have n6_:=aM ((by rw [hg];exact (wZ (by repeat (first|(with_reducible first|exact HB.out|apply wA|apply wN_|apply wD|refine wS ?_ GE329.out)|exact HB.out))) : w.heap.size ≤ gb340));have n7_:=aM ((by rw [hg];exact Nat.ne_of_lt (bL (g:=gb329) (o:=.cells #[.int .i64 x330000_3,.int .i64 x330001_3] 32 (0,0)) (by (with_reducible repeat (first|refine bN ?_ _|refine bD ?_|refine bA ?_ _));exact BK329.out)) : gb329 ≠ gb340));have n8_:=aM ((by rw [hg];exact Nat.ne_of_gt (bL (g:=gb329) (o:=.cells #[.int .i64 x330000_3,.int .i64 x330001_3] 32 (0,0)) (by (with_reducible repeat (first|refine bN ?_ _|refine bD ?_|refine bA ?_ _));exact BK329.out)) : gb340 ≠ gb329));clear HO_7;clear HO_8;clear BK329;clear HB;have HO_7:=n0_;have HO_8:=n1_;have BK329:=n2_;have HB:=n3_;have BK340:=n4_;have GW340:=n5_;have GE340:=n6_;have NB329_340:=n7_;have NB340_329:=n8_;clear n0_ n1_ n2_ n3_ n4_ n5_ n6_ n7_ n8_;clear hb hbox hg;have hnb28:=NB340_329.out;have hnc28:=NB329_340.out;have hcz29_0 : w27.cell? ⟨gb340,0,none⟩ = some (.int .i64 0):=(bC BK340.out 0).trans rfl;have hcz29_1 : w27.cell? ⟨gb340,1,none⟩ = some (.int .i64 0):=(bC BK340.out 1).trans rfl;have hfz29_0:=bF BK340.out 0;have hfz29_1:=bF BK340.out 1;have hcz30_0 : w27.cell? ⟨gb329,0,none⟩ = some (.int .i64 x330000_3):=(bC BK329.out 0).trans rfl;have hcz30_1 : w27.cell? ⟨gb329,1,none⟩ = some (.int .i64 x330001_3):=(bC BK329.out 1).trans rfl;have hfz30_0:=bF BK329.out 0;have hfz30_1:=bF BK329.out 1))
             repeat (go_quiet (first|((with_reducible refine gate_dst (N:=10) rfl ?_);refine box_event ?hg (N:=10) ?hd (cs:=#[.int .i64 0,.int .i64 0]) (t:=32) ?hr ?_;(case hd => rfl);(case hg => rfl);(case hr => first|(go_simp;done)|(go_simp;rfl));intro gb340 hg w27 hbox hb;have n0_:=aM (rB (Kd.R_elderB (by (with_reducible repeat (first|apply rA|apply rN|apply rD));exact HO_7.out) gb340 (Nat.le_of_eq hg.symm)) hb);have n1_:=aM (rB (Kd.R_elderB (by (with_reducible repeat (first|apply rA|apply rN|apply rD));exact HO_8.out) gb340 (Nat.le_of_eq hg.symm)) hb);have n2_:=aM (bB (g:=gb329) (o:=.cells #[.int .i64 x330000_3,.int .i64 x330001_3] 32 (0,0)) (by (with_reducible repeat (first|refine bN ?_ _|refine bD ?_|refine bA ?_ _));exact BK329.out) hb);have n3_:=aM (wT (by repeat (first|(with_reducible first|exact HB.out|apply wA|apply wN_|apply wD|refine wS ?_ GE329.out)|exact HB.out)) hb);have n4_:=aM (hbox);have n5_:=aM ((by rw [hg];exact (wZ (by repeat (first|(with_reducible first|exact HB.out|apply wA|apply wN_|apply wD|refine wS ?_ GE329.out)|exact HB.out))) : w.heap.size ≤ gb340));have n6_:=aM ((by rw [hg];exact (wZ (by repeat (first|(with_reducible first|exact HB.out|apply wA|apply wN_|apply wD|refine wS ?_ GE329.out)|exact HB.out))) : w.heap.size ≤ gb340));have n7_:=aM ((by rw [hg];exact Nat.ne_of_lt (bL (g:=gb329) (o:=.cells #[.int .i64 x330000_3,.int .i64 x330001_3] 32 (0,0)) (by (with_reducible repeat (first|refine bN ?_ _|refine bD ?_|refine bA ?_ _));exact BK329.out)) : gb329 ≠ gb340));have n8_:=aM ((by rw [hg];exact Nat.ne_of_gt (bL (g:=gb329) (o:=.cells #[.int .i64 x330000_3,.int .i64 x330001_3] 32 (0,0)) (by (with_reducible repeat (first|refine bN ?_ _|refine bD ?_|refine bA ?_ _));exact BK329.out)) : gb340 ≠ gb329));clear HO_7;clear HO_8;clear BK329;clear HB;have HO_7:=n0_;have HO_8:=n1_;have BK329:=n2_;have HB:=n3_;have BK340:=n4_;have GW340:=n5_;have GE340:=n6_;have NB329_340:=n7_;have NB340_329:=n8_;clear n0_ n1_ n2_ n3_ n4_ n5_ n6_ n7_ n8_;clear hb hbox hg;have hnb28:=NB340_329.out;have hnc28:=NB329_340.out;have hcz29_0 : w27.cell? ⟨gb340,0,none⟩ = some (.int .i64 0):=(bC BK340.out 0).trans rfl;have hcz29_1 : w27.cell? ⟨gb340,1,none⟩ = some (.int .i64 0):=(bC BK340.out 1).trans rfl;have hfz29_0:=bF BK340.out 0;have hfz29_1:=bF BK340.out 1;have hcz30_0 : w27.cell? ⟨gb329,0,none⟩ = some (.int .i64 x330000_3):=(bC BK329.out 0).trans rfl;have hcz30_1 : w27.cell? ⟨gb329,1,none⟩ = some (.int .i64 x330001_3):=(bC BK329.out 1).trans rfl;have hfz30_0:=bF BK329.out 0;have hfz30_1:=bF BK329.out 1));try go_wp2_with (first|((with_reducible refine gate_dst (N:=10) rfl ?_);refine box_event ?hg (N:=10) ?hd (cs:=#[.int .i64 0,.int .i64 0]) (t:=32) ?hr ?_;(case hd => rfl);(case hg => rfl);(case hr => first|(go_simp;done)|(go_simp;rfl));intro gb340 hg w27 hbox hb;have n0_:=aM (rB (Kd.R_elderB (by (with_reducible repeat (first|apply rA|apply rN|apply rD));exact HO_7.out) gb340 (Nat.le_of_eq hg.symm)) hb);have n1_:=aM (rB (Kd.R_elderB (by (with_reducible repeat (first|apply rA|apply rN|apply rD));exact HO_8.out) gb340 (Nat.le_of_eq hg.symm)) hb);have n2_:=aM (bB (g:=gb329) (o:=.cells #[.int .i64 x330000_3,.int .i64 x330001_3] 32 (0,0)) (by (with_reducible repeat (first|refine bN ?_ _|refine bD ?_|refine bA ?_ _));exact BK329.out) hb);have n3_:=aM (wT (by repeat (first|(with_reducible first|exact HB.out|apply wA|apply wN_|apply wD|refine wS ?_ GE329.out)|exact HB.out)) hb);have n4_:=aM (hbox);have n5_:=aM ((by rw [hg];exact (wZ (by repeat (first|(with_reducible first|exact HB.out|apply wA|apply wN_|apply wD|refine wS ?_ GE329.out)|exact HB.out))) : w.heap.size ≤ gb340));have n6_:=aM ((by rw [hg];exact (wZ (by repeat (first|(with_reducible first|exact HB.out|apply wA|apply wN_|apply wD|refine wS ?_ GE329.out)|exact HB.out))) : w.heap.size ≤ gb340));have n7_:=aM ((by rw [hg];exact Nat.ne_of_lt (bL (g:=gb329) (o:=.cells #[.int .i64 x330000_3,.int .i64 x330001_3] 32 (0,0)) (by (with_reducible repeat (first|refine bN ?_ _|refine bD ?_|refine bA ?_ _));exact BK329.out)) : gb329 ≠ gb340));have n8_:=aM ((by rw [hg];exact Nat.ne_of_gt (bL (g:=gb329) (o:=.cells #[.int .i64 x330000_3,.int .i64 x330001_3] 32 (0,0)) (by (with_reducible repeat (first|refine bN ?_ _|refine bD ?_|refine bA ?_ _));exact BK329.out)) : gb340 ≠ gb329));clear HO_7;clear HO_8;clear BK329;clear HB;have HO_7:=n0_;have HO_8:=n1_;have BK329:=n2_;have HB:=n3_;have BK340:=n4_;have GW340:=n5_;have GE340:=n6_;have NB329_340:=n7_;have NB340_329:=n8_;clear n0_ n1_ n2_ n3_ n4_ n5_ n6_ n7_ n8_;clear hb hbox hg;have hnb28:=NB340_329.out;have hnc28:=NB329_340.out;have hcz29_0 : w27.cell? ⟨gb340,0,none⟩ = some (.int .i64 0):=(bC BK340.out 0).trans rfl;have hcz29_1 : w27.cell? ⟨gb340,1,none⟩ = some (.int .i64 0):=(bC BK340.out 1).trans rfl;have hfz29_0:=bF BK340.out 0;have hfz29_1:=bF BK340.out 1;have hcz30_0 : w27.cell? ⟨gb329,0,none⟩ = some (.int .i64 x330000_3):=(bC BK329.out 0).trans rfl;have hcz30_1 : w27.cell? ⟨gb329,1,none⟩ = some (.int .i64 x330001_3):=(bC BK329.out 1).trans rfl;have hfz30_0:=bF BK329.out 0;have hfz30_1:=bF BK329.out 1)))
             go_roundg k3
             case measure => have:=HJ2.out;have:=HK2.out;have:=HK3.out;omega
             case rel => exact ⟨(x7_3),(x8_3),(wrap64 (x9_3 + 1)),(x330000_3),(wrap64 (x330001_3 + ((rd_T32 l0 x9_3).f1))),(by first|rfl|(simp;done)|(simp [*];done)),H',⟨by have:=HJ2.out;have:=HK2.out;have:=HK3.out;omega⟩,⟨by (with_reducible repeat (first|apply rA|apply rN|apply rD));exact rM (rF_ (p:=⟨gb329,1,none⟩) (rF_ (p:=⟨gb340,1,none⟩) (rF_ (p:=⟨gb340,0,none⟩) (rM (rM HO_7.out (fun k_ hk => (⟨hk,hk.2⟩ : _ ∧ k_ ≠ gb340))) (fun k_ hk => (⟨hk,hk.1.1.2⟩ : _ ∧ k_ ≠ gb329))) (fun _ hk => hk.1.2) (.int .i64 ((rd_T32 l0 x9_3).f0))) (fun _ hk => hk.1.2) (.int .i64 ((rd_T32 l0 x9_3).f1))) (fun _ hk => hk.2) (.int .i64 (wrap64 (x330001_3 + ((rd_T32 l0 x9_3).f1))))) (fun _ hk => ⟨hk.1.1.1.1,hk.1.1.1.2⟩)⟩,⟨by (with_reducible repeat (first|apply rA|apply rN|apply rD));exact rM (rF_ (p:=⟨gb329,1,none⟩) (rF_ (p:=⟨gb340,1,none⟩) (rF_ (p:=⟨gb340,0,none⟩) (rM (rM HO_8.out (fun k_ hk => (⟨hk,hk.2⟩ : _ ∧ k_ ≠ gb340))) (fun k_ hk => (⟨hk,hk.1.1.2⟩ : _ ∧ k_ ≠ gb329))) (fun _ hk => hk.1.2) (.int .i64 ((rd_T32 l0 x9_3).f0))) (fun _ hk => hk.1.2) (.int .i64 ((rd_T32 l0 x9_3).f1))) (fun _ hk => hk.2) (.int .i64 (wrap64 (x330001_3 + ((rd_T32 l0 x9_3).f1))))) (fun _ hk => ⟨hk.1.1.1.1,hk.1.1.1.2⟩)⟩,⟨by (with_reducible repeat (first|refine bN ?_ _|refine bD ?_|refine bA ?_ _));refine bP (cs:=#[.int .i64 x330000_3,.int .i64 x330001_3]) ?_ 1 _ rfl;(with_reducible repeat (first|refine bN ?_ _|refine bD ?_|refine bA ?_ _));refine bR ?_ NB329_340.out _;(with_reducible repeat (first|refine bN ?_ _|refine bD ?_|refine bA ?_ _));refine bR ?_ NB329_340.out _;(with_reducible repeat (first|refine bN ?_ _|refine bD ?_|refine bA ?_ _));exact BK329.out⟩,⟨by repeat (first|(with_reducible first|exact HB.out|apply wA|apply wN_|apply wD|refine wS ?_ GE329.out|refine wS ?_ GE340.out)|exact HB.out)⟩⟩
            ·rw [if_neg c26] at H
             have c26b0 : (((rd_T32 l0 x9_3).f0) == (wrap64 (x330000_3 + x330001_3))) = false := beq_eq_false_iff_ne.mpr c26
             have c26b1 : (((rd_T32 l0 x9_3).f0) != (wrap64 (x330000_3 + x330001_3))) = true := bne_iff_ne.mpr c26
             by_cases c31 : ((rd_T32 l0 x9_3).f0) < x330000_3
             ·rw [if_pos c31] at H
              have c31b0 : decide (((rd_T32 l0 x9_3).f0) < x330000_3) = true := decide_eq_true c31
              clear c31
              by_cases c32 : x7_3.length < 8796093022208
              ·rw [if_pos c32] at H
               have LMc32 := aM c32
               clear c32
               obtain ⟨y341, hy341⟩ : ∃ y_ : List (S32), y_ = (x7_3 ++ [(⟨(rd_T32 l0 x9_3).f0, (rd_T32 l0 x9_3).f1⟩ : S32)]) := ⟨_, rfl⟩
               replace H : (rickyardref1_PutRun.l1 k3 l0 y341 x8_3 (wrap64 (x9_3 + 1)) x330000_3 x330001_3) = some (r1, r2) := by first | (rw [hy341]; with_reducible exact H) | (have H2_ := (Option.bind_some _ _).symm.trans H; rw [hy341]; with_reducible exact H2_) | (have H2_ := (Option.bind_some _ _).symm.trans H; with_reducible exact H2_) | with_reducible exact H | (rw [hy341]; exact H) | exact H
               have Ny341 := aM hy341
               clear hy341
               have H' := aM H
               clear H
               have p339 : 0 ≤ (x9_3 : Int) := oD (by first | (with_reducible assumption) | assumption)
               have q339 : x9_3 < (l0.length : Int) := oD (by first | (with_reducible assumption) | assumption)
               obtain ⟨ad339, e339, hx339_0, hx339_1⟩ := at_T32 HR0.out x9_3 p339 q339
               cases e339
               replace hx339_0 := (HB.out.cell (wL w _ hx339_0)).trans hx339_0
               replace hx339_1 := (HB.out.cell (wL w _ hx339_1)).trans hx339_1
               replace p339 := eq_true p339
               replace q339 := eq_true q339
               go_wp2_with (first|((with_reducible refine gate_dst (N:=10) rfl ?_);refine box_event ?hg (N:=10) ?hd (cs:=#[.int .i64 0,.int .i64 0]) (t:=32) ?hr ?_;(case hd => rfl);(case hg => rfl);(case hr => first|(go_simp;done)|(go_simp;rfl));intro gb340 hg w33 hbox hb;have n0_:=aM (rB (Kd.R_elderB (by (with_reducible repeat (first|apply rA|apply rN|apply rD));exact HO_7.out) gb340 (Nat.le_of_eq hg.symm)) hb);have n1_:=aM (rB (Kd.R_elderB (by (with_reducible repeat (first|apply rA|apply rN|apply rD));exact HO_8.out) gb340 (Nat.le_of_eq hg.symm)) hb);have n2_:=aM (bB (g:=gb329) (o:=.cells #[.int .i64 x330000_3,.int .i64 x330001_3] 32 (0,0)) (by (with_reducible repeat (first|refine bN ?_ _|refine bD ?_|refine bA ?_ _));exact BK329.out) hb);have n3_:=aM (wT (by repeat (first|(with_reducible first|exact HB.out|apply wA|apply wN_|apply wD|refine wS ?_ GE329.out)|exact HB.out)) hb);have n4_:=aM (hbox);have n5_:=aM ((by rw [hg];exact (wZ (by repeat (first|(with_reducible first|exact HB.out|apply wA|apply wN_|apply wD|refine wS ?_ GE329.out)|exact HB.out))) : w.heap.size ≤ gb340));have n6_:=aM ((by rw [hg];exact (wZ (by repeat (first|(with_reducible first|exact HB.out|apply wA|apply wN_|apply wD|refine wS ?_ GE329.out)|exact HB.out))) : w.heap.size ≤ gb340));have n7_:=aM ((by rw [hg];exact Nat.ne_of_lt (bL (g:=gb329) (o:=.cells #[.int .i64 x330000_3,.int .i64 x330001_3] 32 (0,0)) (by (with_reducible repeat (first|refine bN ?_ _|refine bD ?_|refine bA ?_ _));exact BK329.out)) : gb329 ≠ gb340));have n8_:=aM ((by rw [hg];exact Nat.ne_of_gt (bL (g:=gb329) (o:=.cells #[.int .i64 x330000_3,.int .i64 x330001_3] 32 (0,0)) (by (with_reducible repeat (first|refine bN ?_ _|refine bD ?_|refine bA ?_ _));exact BK329.out)) : gb340 ≠ gb329));clear HO_7;clear HO_8;clear BK329;clear HB;have HO_7:=n0_;have HO_8:=n1_;have BK329:=n2_;have HB:=n3_;have BK340:=n4_;have GW340:=n5_;have GE340:=n6_;have NB329_340:=n7_;have NB340_329:=n8_;clear n0_ n1_ n2_ n3_ n4_ n5_ n6_ n7_ n8_;clear hb hbox hg;have hnb34:=NB340_329.out;have hnc34:=NB329_340.out;have hcz35_0 : w33.cell? ⟨gb340,0,none⟩ = some (.int .i64 0):=(bC BK340.out 0).trans rfl;have hcz35_1 : w33.cell? ⟨gb340,1,none⟩ = some (.int .i64 0):=(bC BK340.out 1).trans rfl;have hfz35_0:=bF BK340.out 0;have hfz35_1:=bF BK340.out 1;have hcz36_0 : w33.cell? ⟨gb329,0,none⟩ = some (.int .i64 x330000_3):=(bC BK329.out 0).trans rfl;have hcz36_1 : w33.cell? ⟨gb329,1,none⟩ = some (.int .i64 x330001_3):=(bC BK329.out 1).trans rfl;have hfz36_0:=bF BK329.out 0;have hfz36_1:=bF BK329.out 1)|((with_reducible refine gate_builtin (b:=.append) (xs:=#[.tmp 105,.tmp 107]) rfl ?_);at_builtin;refine Kd.R_append k32 (w0:=w) w.heap.size rfl (.tmp 105) (.tmp 107) 23 32 (.agg #[(.int .i64 0),(.int .i64 0)]) 16 rfl Try.underlying23 info32 rfl (by decide) (by omega) u7 x7_3 (⟨(rd_T32 l0 x9_3).f0,(rd_T32 l0 x9_3).f1⟩ : S32) [.int .i64 ((rd_T32 l0 x9_3).f0),.int .i64 ((rd_T32 l0 x9_3).f1)] (fun k_ => some k_ ≠ (u8 : Value).ownBlock ∧ k_ ≠ gb329 ∧ k_ ≠ gb340) (fun _ => False) rfl (by first|(go_simp;done)|(go_simp;rfl)) ?aP (fun _ hk => hk.elim) ?aF ?aO ?aB ?aS ?aL ?_;(case aP => exact k32_mkM _ _ _ (⟨(rd_T32 l0 x9_3).f0,(rd_T32 l0 x9_3).f1⟩ : S32));(case aB => exact (by repeat (first|(with_reducible first|exact HB.out|apply wA|apply wN_|apply wD|refine wS ?_ GE329.out|refine wS ?_ GE340.out)|exact HB.out)));(case aF => exact (fun k_ hk => ⟨Kd.fresh' (Kd.R_lt (by (with_reducible repeat (first|apply rA|apply rN|apply rD));exact (rM (rF_ (p:=⟨gb340,1,none⟩) (rF_ (p:=⟨gb340,0,none⟩) (rM HO_8.out (fun k_ hk => (⟨hk,hk.2⟩ : _ ∧ k_ ≠ gb340))) (fun _ hk => hk.2) (.int .i64 ((rd_T32 l0 x9_3).f0))) (fun _ hk => hk.2) (.int .i64 ((rd_T32 l0 x9_3).f1))) (fun _ h_ => h_.1)))) k_ hk,Kd.freshB (g:=gb329) (o:=.cells #[.int .i64 x330000_3,.int .i64 x330001_3] 32 (0,0)) (by (with_reducible repeat (first|refine bN ?_ _|refine bD ?_|refine bA ?_ _));refine bR ?_ NB329_340.out _;(with_reducible repeat (first|refine bN ?_ _|refine bD ?_|refine bA ?_ _));refine bR ?_ NB329_340.out _;(with_reducible repeat (first|refine bN ?_ _|refine bD ?_|refine bA ?_ _));exact BK329.out) k_ hk,Kd.freshB (g:=gb340) (o:=.cells #[.int .i64 ((rd_T32 l0 x9_3).f0),.int .i64 ((rd_T32 l0 x9_3).f1)] 32 (0,0)) (by (with_reducible repeat (first|refine bN ?_ _|refine bD ?_|refine bA ?_ _));refine bP (cs:=#[.int .i64 ((rd_T32 l0 x9_3).f0),.int .i64 0]) ?_ 1 _ rfl;(with_reducible repeat (first|refine bN ?_ _|refine bD ?_|refine bA ?_ _));refine bP (cs:=#[.int .i64 0,.int .i64 0]) ?_ 0 _ rfl;(with_reducible repeat (first|refine bN ?_ _|refine bD ?_|refine bA ?_ _));exact BK340.out) k_ hk⟩));(case aO => exact (by (with_reducible repeat (first|apply rA|apply rN|apply rD));exact rM (rF_ (p:=⟨gb340,1,none⟩) (rF_ (p:=⟨gb340,0,none⟩) (rM HO_7.out (fun k_ hk => (⟨hk,hk.2⟩ : _ ∧ k_ ≠ gb340))) (fun _ hk => hk.2) (.int .i64 ((rd_T32 l0 x9_3).f0))) (fun _ hk => hk.2) (.int .i64 ((rd_T32 l0 x9_3).f1))) (fun _ hk => ⟨hk.1.1.1,⟨hk.1.1.2,hk.1.2⟩⟩)));(case aS => exact (wZ (by repeat (first|(with_reducible first|exact HB.out|apply wA|apply wN_|apply wD|refine wS ?_ GE329.out|refine wS ?_ GE340.out)|exact HB.out))));(case aL => have:=LMc32.out;omega);intro v342 w37 ho hb hg hat;rw [← Ny341.out] at ho;have n0_:=aM (Kd.R_after (ok:=(fun k_ => k_ ≠ gb329 ∧ k_ ≠ gb340)) (by (with_reducible repeat (first|apply rA|apply rN|apply rD));exact rM (rF_ (p:=⟨gb340,1,none⟩) (rF_ (p:=⟨gb340,0,none⟩) (rM HO_8.out (fun k_ hk => (⟨hk,hk.2⟩ : _ ∧ k_ ≠ gb340))) (fun _ hk => hk.2) (.int .i64 ((rd_T32 l0 x9_3).f0))) (fun _ hk => hk.2) (.int .i64 ((rd_T32 l0 x9_3).f1))) (fun _ hk => ⟨⟨hk.1.1.2,hk.1.2⟩,hk.1.1.1⟩)) hg hat);have n1_:=aM (blk_grown (g:=gb329) (o:=.cells #[.int .i64 x330000_3,.int .i64 x330001_3] 32 (0,0)) (by (with_reducible repeat (first|refine bN ?_ _|refine bD ?_|refine bA ?_ _));refine bR ?_ NB329_340.out _;(with_reducible repeat (first|refine bN ?_ _|refine bD ?_|refine bA ?_ _));refine bR ?_ NB329_340.out _;(with_reducible repeat (first|refine bN ?_ _|refine bD ?_|refine bA ?_ _));exact BK329.out) hg (Kd.R_away HO_7.out (fun _ hk => hk.1.2)));have n2_:=aM (blk_grown (g:=gb340) (o:=.cells #[.int .i64 ((rd_T32 l0 x9_3).f0),.int .i64 ((rd_T32 l0 x9_3).f1)] 32 (0,0)) (by (with_reducible repeat (first|refine bN ?_ _|refine bD ?_|refine bA ?_ _));refine bP (cs:=#[.int .i64 ((rd_T32 l0 x9_3).f0),.int .i64 0]) ?_ 1 _ rfl;(with_reducible repeat (first|refine bN ?_ _|refine bD ?_|refine bA ?_ _));refine bP (cs:=#[.int .i64 0,.int .i64 0]) ?_ 0 _ rfl;(with_reducible repeat (first|refine bN ?_ _|refine bD ?_|refine bA ?_ _));exact BK340.out) hg (Kd.R_away HO_7.out (fun _ hk => hk.2)));have n3_:=aM (hb);have n4_:=aM (ho);clear HO_8;clear BK329;clear BK340;clear HB;clear HO_7;have HO_8:=n0_;have BK329:=n1_;have BK340:=n2_;have HB:=n3_;have HO343:=n4_;clear n0_ n1_ n2_ n3_ n4_;clear ho hb hg hat))
               repeat (go_quiet (first|((with_reducible refine gate_dst (N:=10) rfl ?_);refine box_event ?hg (N:=10) ?hd (cs:=#[.int .i64 0,.int .i64 0]) (t:=32) ?hr ?_;(case hd => rfl);(case hg => rfl);(case hr => first|(go_simp;done)|(go_simp;rfl));intro gb340 hg w33 hbox hb;have n0_:=aM (rB (Kd.R_elderB (by (with_reducible repeat (first|apply rA|apply rN|apply rD));exact HO_7.out) gb340 (Nat.le_of_eq hg.symm)) hb);have n1_:=aM (rB (Kd.R_elderB (by (with_reducible repeat (first|apply rA|apply rN|apply rD));exact HO_8.out) gb340 (Nat.le_of_eq hg.symm)) hb);have n2_:=aM (bB (g:=gb329) (o:=.cells #[.int .i64 x330000_3,.int .i64 x330001_3] 32 (0,0)) (by (with_reducible repeat (first|refine bN ?_ _|refine bD ?_|refine bA ?_ _));exact BK329.out) hb);have n3_:=aM (wT (by repeat (first|(with_reducible first|exact HB.out|apply wA|apply wN_|apply wD|refine wS ?_ GE329.out)|exact HB.out)) hb);have n4_:=aM (hbox);have n5_:=aM ((by rw [hg];exact (wZ (by repeat (first|(with_reducible first|exact HB.out|apply wA|apply wN_|apply wD|refine wS ?_ GE329.out)|exact HB.out))) : w.heap.size ≤ gb340));have n6_:=aM ((by rw [hg];exact (wZ (by repeat (first|(with_reducible first|exact HB.out|apply wA|apply wN_|apply wD|refine wS ?_ GE329.out)|exact HB.out))) : w.heap.size ≤ gb340));have n7_:=aM ((by rw [hg];exact Nat.ne_of_lt (bL (g:=gb329) (o:=.cells #[.int .i64 x330000_3,.int .i64 x330001_3] 32 (0,0)) (by (with_reducible repeat (first|refine bN ?_ _|refine bD ?_|refine bA ?_ _));exact BK329.out)) : gb329 ≠ gb340));have n8_:=aM ((by rw [hg];exact Nat.ne_of_gt (bL (g:=gb329) (o:=.cells #[.int .i64 x330000_3,.int .i64 x330001_3] 32 (0,0)) (by (with_reducible repeat (first|refine bN ?_ _|refine bD ?_|refine bA ?_ _));exact BK329.out)) : gb340 ≠ gb329));clear HO_7;clear HO_8;clear BK329;clear HB;have HO_7:=n0_;have HO_8:=n1_;have BK329:=n2_;have HB:=n3_;have BK340:=n4_;have GW340:=n5_;have GE340:=n6_;have NB329_340:=n7_;have NB340_329:=n8_;clear n0_ n1_ n2_ n3_ n4_ n5_ n6_ n7_ n8_;clear hb hbox hg;have hnb34:=NB340_329.out;have hnc34:=NB329_340.out;have hcz35_0 : w33.cell? ⟨gb340,0,none⟩ = some (.int .i64 0):=(bC BK340.out 0).trans rfl;have hcz35_1 : w33.cell? ⟨gb340,1,none⟩ = some (.int .i64 0):=(bC BK340.out 1).trans rfl;have hfz35_0:=bF BK340.out 0;have hfz35_1:=bF BK340.out 1;have hcz36_0 : w33.cell? ⟨gb329,0,none⟩ = some (.int .i64 x330000_3):=(bC BK329.out 0).trans rfl;have hcz36_1 : w33.cell? ⟨gb329,1,none⟩ = some (.int .i64 x330001_3):=(bC BK329.out 1).trans rfl;have hfz36_0:=bF BK329.out 0;have hfz36_1:=bF BK329.out 1)|((with_reducible refine gate_builtin (b:=.append) (xs:=#[.tmp 105,.tmp 107]) rfl ?_);at_builtin;refine Kd.R_append k32 (w0:=w) w.heap.size rfl (.tmp 105) (.tmp 107) 23 32 (.agg #[(.int .i64 0),(.int .i64 0)]) 16 rfl Try.underlying23 info32 rfl (by decide) (by omega) u7 x7_3 (⟨(rd_T32 l0 x9_3).f0,(rd_T32 l0 x9_3).f1⟩ : S32) [.int .i64 ((rd_T32 l0 x9_3).f0),.int .i64 ((rd_T32 l0 x9_3).f1)] (fun k_ => some k_ ≠ (u8 : Value).ownBlock ∧ k_ ≠ gb329 ∧ k_ ≠ gb340) (fun _ => False) rfl (by first|(go_simp;done)|(go_simp;rfl)) ?aP (fun _ hk => hk.elim) ?aF ?aO ?aB ?aS ?aL ?_;(case aP => exact k32_mkM _ _ _ (⟨(rd_T32 l0 x9_3).f0,(rd_T32 l0 x9_3).f1⟩ : S32));(case aB => exact (by repeat (first|(with_reducible first|exact HB.out|apply wA|apply wN_|apply wD|refine wS ?_ GE329.out|refine wS ?_ GE340.out)|exact HB.out)));(case aF => exact (fun k_ hk => ⟨Kd.fresh' (Kd.R_lt (by (with_reducible repeat (first|apply rA|apply rN|apply rD));exact (rM (rF_ (p:=⟨gb340,1,none⟩) (rF_ (p:=⟨gb340,0,none⟩) (rM HO_8.out (fun k_ hk => (⟨hk,hk.2⟩ : _ ∧ k_ ≠ gb340))) (fun _ hk => hk.2) (.int .i64 ((rd_T32 l0 x9_3).f0))) (fun _ hk => hk.2) (.int .i64 ((rd_T32 l0 x9_3).f1))) (fun _ h_ => h_.1)))) k_ hk,Kd.freshB (g:=gb329) (o:=.cells #[.int .i64 x330000_3,.int .i64 x330001_3] 32 (0,0)) (by (with_reducible repeat (first|refine bN ?_ _|refine bD ?_|refine bA ?_ _));refine bR ?_ NB329_340.out _;(with_reducible repeat (first|refine bN ?_ _|refine bD ?_|refine bA ?_ _));refine bR ?_ NB329_340.out _;(with_reducible repeat (first|refine bN ?_ _|refine bD ?_|refine bA ?_ _));exact BK329.out) k_ hk,Kd.freshB (g:=gb340) (o:=.cells #[.int .i64 ((rd_T32 l0 x9_3).f0),.int .i64 ((rd_T32 l0 x9_3).f1)] 32 (0,0)) (by (with_reducible repeat (first|refine bN ?_ _|refine bD ?_|refine bA ?_ _));refine bP (cs:=#[.int .i64 ((rd_T32 l0 x9_3).f0),.int .i64 0]) ?_ 1 _ rfl;(with_reducible repeat (first|refine bN ?_ _|refine bD ?_|refine bA ?_ _));refine bP (cs:=#[.int .i64 0,.int .i64 0]) ?_ 0 _ rfl;(with_reducible repeat (first|refine bN ?_ _|refine bD ?_|refine bA ?_ _));exact BK340.out) k_ hk⟩));(case aO => exact (by (with_reducible repeat (first|apply rA|apply rN|apply rD));exact rM (rF_ (p:=⟨gb340,1,none⟩) (rF_ (p:=⟨gb340,0,none⟩) (rM HO_7.out (fun k_ hk => (⟨hk,hk.2⟩ : _ ∧ k_ ≠ gb340))) (fun _ hk => hk.2) (.int .i64 ((rd_T32 l0 x9_3).f0))) (fun _ hk => hk.2) (.int .i64 ((rd_T32 l0 x9_3).f1))) (fun _ hk => ⟨hk.1.1.1,⟨hk.1.1.2,hk.1.2⟩⟩)));(case aS => exact (wZ (by repeat (first|(with_reducible first|exact HB.out|apply wA|apply wN_|apply wD|refine wS ?_ GE329.out|refine wS ?_ GE340.out)|exact HB.out))));(case aL => have:=LMc32.out;omega);intro v342 w37 ho hb hg hat;rw [← Ny341.out] at ho;have n0_:=aM (Kd.R_after (ok:=(fun k_ => k_ ≠ gb329 ∧ k_ ≠ gb340)) (by (with_reducible repeat (first|apply rA|apply rN|apply rD));exact rM (rF_ (p:=⟨gb340,1,none⟩) (rF_ (p:=⟨gb340,0,none⟩) (rM HO_8.out (fun k_ hk => (⟨hk,hk.2⟩ : _ ∧ k_ ≠ gb340))) (fun _ hk => hk.2) (.int .i64 ((rd_T32 l0 x9_3).f0))) (fun _ hk => hk.2) (.int .i64 ((rd_T32 l0 x9_3).f1))) (fun _ hk => ⟨⟨hk.1.1.2,hk.1.2⟩,hk.1.1.1⟩)) hg hat);have n1_:=aM (blk_grown (g:=gb329) (o:=.cells #[.int .i64 x330000_3,.int .i64 x330001_3] 32 (0,0)) (by (with_reducible repeat (first|refine bN ?_ _|refine bD ?_|refine bA ?_ _));refine bR ?_ NB329_340.out _;(with_reducible repeat (first|refine bN ?_ _|refine bD ?_|refine bA ?_ _));refine bR ?_ NB329_340.out _;(with_reducible repeat (first|refine bN ?_ _|refine bD ?_|refine bA ?_ _));exact BK329.out) hg (Kd.R_away HO_7.out (fun _ hk => hk.1.2)));have n2_:=aM (blk_grown (g:=gb340) (o:=.cells #[.int .i64 ((rd_T32 l0 x9_3).f0),.int .i64 ((rd_T32 l0 x9_3).f1)] 32 (0,0)) (by (with_reducible repeat (first|refine bN ?_ _|refine bD ?_|refine bA ?_ _));refine bP (cs:=#[.int .i64 ((rd_T32 l0 x9_3).f0),.int .i64 0]) ?_ 1 _ rfl;(with_reducible repeat (first|refine bN ?_ _|refine bD ?_|refine bA ?_ _));refine bP (cs:=#[.int .i64 0,.int .i64 0]) ?_ 0 _ rfl;(with_reducible repeat (first|refine bN ?_ _|refine bD ?_|refine bA ?_ _));exact BK340.out) hg (Kd.R_away HO_7.out (fun _ hk => hk.2)));have n3_:=aM (hb);have n4_:=aM (ho);clear HO_8;clear BK329;clear BK340;clear HB;clear HO_7;have HO_8:=n0_;have BK329:=n1_;have BK340:=n2_;have HB:=n3_;have HO343:=n4_;clear n0_ n1_ n2_ n3_ n4_;clear ho hb hg hat));try go_wp2_with (first|((with_reducible refine gate_dst (N:=10) rfl ?_);refine box_event ?hg (N:=10) ?hd (cs:=#[.int .i64 0,.int .i64 0]) (t:=32) ?hr ?_;(case hd => rfl);(case hg => rfl);(case hr => first|(go_simp;done)|(go_simp;rfl));intro gb340 hg w33 hbox hb;have n0_:=aM (rB (Kd.R_elderB (by (with_reducible repeat (first|apply rA|apply rN|apply rD));exact HO_7.out) gb340 (Nat.le_of_eq hg.symm)) hb);have n1_:=aM (rB (Kd.R_elderB (by (with_reducible repeat (first|apply rA|apply rN|apply rD));exact HO_8.out) gb340 (Nat.le_of_eq hg.symm)) hb);have n2_:=aM (bB (g:=gb329) (o:=.cells #[.int .i64 x330000_3,.int .i64 x330001_3] 32 (0,0)) (by (with_reducible repeat (first|refine bN ?_ _|refine bD ?_|refine bA ?_ _));exact BK329.out) hb);have n3_:=aM (wT (by repeat (first|(with_reducible first|exact HB.out|apply wA|apply wN_|apply wD|refine wS ?_ GE329.out)|exact HB.out)) hb);have n4_:=aM (hbox);have n5_:=aM ((by rw [hg];exact (wZ (by repeat (first|(with_reducible first|exact HB.out|apply wA|apply wN_|apply wD|refine wS ?_ GE329.out)|exact HB.out))) : w.heap.size ≤ gb340));have n6_:=aM ((by rw [hg];exact (wZ (by repeat (first|(with_reducible first|exact HB.out|apply wA|apply wN_|apply wD|refine wS ?_ GE329.out)|exact HB.out))) : w.heap.size ≤ gb340));have n7_:=aM ((by rw [hg];exact Nat.ne_of_lt (bL (g:=gb329) (o:=.cells #[.int .i64 x330000_3,.int .i64 x330001_3] 32 (0,0)) (by (with_reducible repeat (first|refine bN ?_ _|refine bD ?_|refine bA ?_ _));exact BK329.out)) : gb329 ≠ gb340));have n8_:=aM ((by rw [hg];exact Nat.ne_of_gt (bL (g:=gb329) (o:=.cells #[.int .i64 x330000_3,.int .i64 x330001_3] 32 (0,0)) (by (with_reducible repeat (first|refine bN ?_ _|refine bD ?_|refine bA ?_ _));exact BK329.out)) : gb340 ≠ gb329));clear HO_7;clear HO_8;clear BK329;clear HB;have HO_7:=n0_;have HO_8:=n1_;have BK329:=n2_;have HB:=n3_;have BK340:=n4_;have GW340:=n5_;have GE340:=n6_;have NB329_340:=n7_;have NB340_329:=n8_;clear n0_ n1_ n2_ n3_ n4_ n5_ n6_ n7_ n8_;clear hb hbox hg;have hnb34:=NB340_329.out;have hnc34:=NB329_340.out;have hcz35_0 : w33.cell? ⟨gb340,0,none⟩ = some (.int .i64 0):=(bC BK340.out 0).trans rfl;have hcz35_1 : w33.cell? ⟨gb340,1,none⟩ = some (.int .i64 0):=(bC BK340.out 1).trans rfl;have hfz35_0:=bF BK340.out 0;have hfz35_1:=bF BK340.out 1;have hcz36_0 : w33.cell? ⟨gb329,0,none⟩ = some (.int .i64 x330000_3):=(bC BK329.out 0).trans rfl;have hcz36_1 : w33.cell? ⟨gb329,1,none⟩ = some (.int .i64 x330001_3):=(bC BK329.out 1).trans rfl;have hfz36_0:=bF BK329.out 0;have hfz36_1:=bF BK329.out 1)|((with_reducible refine gate_builtin (b:=.append) (xs:=#[.tmp 105,.tmp 107]) rfl ?_);at_builtin;refine Kd.R_append k32 (w0:=w) w.heap.size rfl (.tmp 105) (.tmp 107) 23 32 (.agg #[(.int .i64 0),(.int .i64 0)]) 16 rfl Try.underlying23 info32 rfl (by decide) (by omega) u7 x7_3 (⟨(rd_T32 l0 x9_3).f0,(rd_T32 l0 x9_3).f1⟩ : S32) [.int .i64 ((rd_T32 l0 x9_3).f0),.int .i64 ((rd_T32 l0 x9_3).f1)] (fun k_ => some k_ ≠ (u8 : Value).ownBlock ∧ k_ ≠ gb329 ∧ k_ ≠ gb340) (fun _ => False) rfl (by first|(go_simp;done)|(go_simp;rfl)) ?aP (fun _ hk => hk.elim) ?aF ?aO ?aB ?aS ?aL ?_;(case aP => exact k32_mkM _ _ _ (⟨(rd_T32 l0 x9_3).f0,(rd_T32 l0 x9_3).f1⟩ : S32));(case aB => exact (by repeat (first|(with_reducible first|exact HB.out|apply wA|apply wN_|apply wD|refine wS ?_ GE329.out|refine wS ?_ GE340.out)|exact HB.out)));(case aF => exact (fun k_ hk => ⟨Kd.fresh' (Kd.R_lt (by (with_reducible repeat (first|apply rA|apply rN|apply rD));exact (rM (rF_ (p:=⟨gb340,1,none⟩) (rF_ (p:=⟨gb340,0,none⟩) (rM HO_8.out (fun k_ hk => (⟨hk,hk.2⟩ : _ ∧ k_ ≠ gb340))) (fun _ hk => hk.2) (.int .i64 ((rd_T32 l0 x9_3).f0))) (fun _ hk => hk.2) (.int .i64 ((rd_T32 l0 x9_3).f1))) (fun _ h_ => h_.1)))) k_ hk,Kd.freshB (g:=gb329) (o:=.cells #[.int .i64 x330000_3,.int .i64 x330001_3] 32 (0,0)) (by (with_reducible repeat (first|refine bN ?_ _|refine bD ?_|refine bA ?_ _));refine bR ?_ NB329_340.out _;(with_reducible repeat (first|refine bN ?_ _|refine bD ?_|refine bA ?_ _));refine bR ?_ NB329_340.out _;(with_reducible repeat (first|refine bN ?_ _|refine bD ?_|refine bA ?_ _));exact BK329.out) k_ hk,Kd.freshB (g:=gb340) (o:=.cells #[.int .i64 ((rd_T32 l0 x9_3).f0),.int .i64 ((rd_T32 l0 x9_3).f1)] 32 (0,0)) (by (with_reducible repeat (first|refine bN ?_ _|refine bD ?_|refine bA ?_ _));refine bP (cs:=#[.int .i64 ((rd_T32 l0 x9_3).f0),.int .i64 0]) ?_ 1 _ rfl;(with_reducible repeat (first|refine bN ?_ _|refine bD ?_|refine bA ?_ _));refine bP (cs:=#[.int .i64 0,.int .i64 0]) ?_ 0 _ rfl;(with_reducible repeat (first|refine bN ?_ _|refine bD ?_|refine bA ?_ _));exact BK340.out) k_ hk⟩));(case aO => exact (by (with_reducible repeat (first|apply rA|apply rN|apply rD));exact rM (rF_ (p:=⟨gb340,1,none⟩) (rF_ (p:=⟨gb340,0,none⟩) (rM HO_7.out (fun k_ hk => (⟨hk,hk.2⟩ : _ ∧ k_ ≠ gb340))) (fun _ hk => hk.2) (.int .i64 ((rd_T32 l0 x9_3).f0))) (fun _ hk => hk.2) (.int .i64 ((rd_T32 l0 x9_3).f1))) (fun _ hk => ⟨hk.1.1.1,⟨hk.1.1.2,hk.1.2⟩⟩)));(case aS => exact (wZ (by repeat (first|(with_reducible first|exact HB.out|apply wA|apply wN_|apply wD|refine wS ?_ GE329.out|refine wS ?_ GE340.out)|exact HB.out))));(case aL => have:=LMc32.out;omega);intro v342 w37 ho hb hg hat;rw [← Ny341.out] at ho;have n0_:=aM (Kd.R_after (ok:=(fun k_ => k_ ≠ gb329 ∧ k_ ≠ gb340)) (by (with_reducible repeat (first|apply rA|apply rN|apply rD));exact rM (rF_ (p:=⟨gb340,1,none⟩) (rF_ (p:=⟨gb340,0,none⟩) (rM HO_8.out (fun k_ hk => (⟨hk,hk.2⟩ : _ ∧ k_ ≠ gb340))) (fun _ hk => hk.2) (.int .i64 ((rd_T32 l0 x9_3).f0))) (fun _ hk => hk.2) (.int .i64 ((rd_T32 l0 x9_3).f1))) (fun _ hk => ⟨⟨hk.1.1.2,hk.1.2⟩,hk.1.1.1⟩)) hg hat);have n1_:=aM (blk_grown (g:=gb329) (o:=.cells #[.int .i64 x330000_3,.int .i64 x330001_3] 32 (0,0)) (by (with_reducible repeat (first|refine bN ?_ _|refine bD ?_|refine bA ?_ _));refine bR ?_ NB329_340.out _;(with_reducible repeat (first|refine bN ?_ _|refine bD ?_|refine bA ?_ _));refine bR ?_ NB329_340.out _;(with_reducible repeat (first|refine bN ?_ _|refine bD ?_|refine bA ?_ _));exact BK329.out) hg (Kd.R_away HO_7.out (fun _ hk => hk.1.2)));have n2_:=aM (blk_grown (g:=gb340) (o:=.cells #[.int .i64 ((rd_T32 l0 x9_3).f0),.int .i64 ((rd_T32 l0 x9_3).f1)] 32 (0,0)) (by (with_reducible repeat (first|refine bN ?_ _|refine bD ?_|refine bA ?_ _));refine bP (cs:=#[.int .i64 ((rd_T32 l0 x9_3).f0),.int .i64 0]) ?_ 1 _ rfl;(with_reducible repeat (first|refine bN ?_ _|refine bD ?_|refine bA ?_ _));refine bP (cs:=#[.int .i64 0,.int .i64 0]) ?_ 0 _ rfl;(with_reducible repeat (first|refine bN ?_ _|refine bD ?_|refine bA ?_ _));exact BK340.out) hg (Kd.R_away HO_7.out (fun _ hk => hk.2)));have n3_:=aM (hb);have n4_:=aM (ho);clear HO_8;clear BK329;clear BK340;clear HB;clear HO_7;have HO_8:=n0_;have BK329:=n1_;have BK340:=n2_;have HB:=n3_;have HO343:=n4_;clear n0_ n1_ n2_ n3_ n4_;clear ho hb hg hat)))
               go_roundg k3
               case measure => have:=HJ2.out;have:=HK2.out;have:=HK3.out;omega
               case rel => exact ⟨(y341),(x8_3),(wrap64 (x9_3 + 1)),(x330000_3),(x330001_3),(by first|rfl|(simp;done)|(simp [*];done)),H',⟨by have:=HJ2.out;have:=HK2.out;have:=HK3.out;omega⟩,⟨by (with_reducible repeat (first|apply rA|apply rN|apply rD));exact rM HO343.out (fun _ hk => ⟨hk.1,hk.2.1⟩)⟩,⟨by (with_reducible repeat (first|apply rA|apply rN|apply rD));exact rM HO_8.out (fun _ hk => ⟨hk.2,hk.1.1⟩)⟩,⟨by (with_reducible repeat (first|refine bN ?_ _|refine bD ?_|refine bA ?_ _));exact BK329.out⟩,⟨by repeat (first|(with_reducible first|exact HB.out|apply wA|apply wN_|apply wD|refine wS ?_ GE329.out|refine wS ?_ GE340.out)|exact HB.out)⟩⟩
              ·rw [if_neg c32] at H
               exact absurd H (by simp)
             ·rw [if_neg c31] at H
              have c31b0 : decide (((rd_T32 l0 x9_3).f0) < x330000_3) = false := decide_eq_false c31
              clear c31
              by_cases c38 : x8_3.length < 8796093022208
              ·rw [if_pos c38] at H
               have LMc38 := aM c38
               clear c38
               obtain ⟨y344, hy344⟩ : ∃ y_ : List (S32), y_ = (x8_3 ++ [(⟨(rd_T32 l0 x9_3).f0, (rd_T32 l0 x9_3).f1⟩ : S32)]) := ⟨_, rfl⟩
               replace H : (rickyardref1_PutRun.l1 k3 l0 x7_3 y344 (wrap64 (x9_3 + 1)) x330000_3 x330001_3) = some (r1, r2) := by first | (rw [hy344]; with_reducible exact H) | (have H2_ := (Option.bind_some _ _).symm.trans H; rw [hy344]; with_reducible exact H2_) | (have H2_ := (Option.bind_some _ _).symm.trans H; with_reducible exact H2_) | with_reducible exact H | (rw [hy344]; exact H) | exact H
               have Ny344 := aM hy344
               clear hy344
               have H' := aM H
               clear H
               have p339 : 0 ≤ (x9_3 : Int) := oD (by first | (with_reducible assumption) | assumption)
               have q339 : x9_3 < (l0.length : Int) := oD (by first | (with_reducible assumption) | assumption)
               obtain ⟨ad339, e339, hx339_0, hx339_1⟩ := at_T32 HR0.out x9_3 p339 q339
               cases e339
               replace hx339_0 := (HB.out.cell (wL w _ hx339_0)).trans hx339_0
               replace hx339_1 := (HB.out.cell (wL w _ hx339_1)).trans hx339_1
               replace p339 := eq_true p339
               replace q339 := eq_true q339
               go_wp2_with (first|((with_reducible refine gate_dst (N:=10) rfl ?_);refine box_event ?hg (N:=10) ?hd (cs:=#[.int .i64 0,.int .i64 0]) (t:=32) ?hr ?_;(case hd => rfl);(case hg => rfl);(case hr => first|(go_simp;done)|(go_simp;rfl));intro gb340 hg w39 hbox hb;have n0_:=aM (rB (Kd.R_elderB (by (with_reducible repeat (first|apply rA|apply rN|apply rD));exact HO_7.out) gb340 (Nat.le_of_eq hg.symm)) hb);have n1_:=aM (rB (Kd.R_elderB (by (with_reducible repeat (first|apply rA|apply rN|apply rD));exact HO_8.out) gb340 (Nat.le_of_eq hg.symm)) hb);have n2_:=aM (bB (g:=gb329) (o:=.cells #[.int .i64 x330000_3,.int .i64 x330001_3] 32 (0,0)) (by (with_reducible repeat (first|refine bN ?_ _|refine bD ?_|refine bA ?_ _));exact BK329.out) hb);have n3_:=aM (wT (by repeat (first|(with_reducible first|exact HB.out|apply wA|apply wN_|apply wD|refine wS ?_ GE329.out)|exact HB.out)) hb);have n4_:=aM (hbox);have n5_:=aM ((by rw [hg];exact (wZ (by repeat (first|(with_reducible first|exact HB.out|apply wA|apply wN_|apply wD|refine wS ?_ GE329.out)|exact HB.out))) : w.heap.size ≤ gb340));have n6_:=aM ((by rw [hg];exact (wZ (by repeat (first|(with_reducible first|exact HB.out|apply wA|apply wN_|apply wD|refine wS ?_ GE329.out)|exact HB.out))) : w.heap.size ≤ gb340));have n7_:=aM ((by rw [hg];exact Nat.ne_of_lt (bL (g:=gb329) (o:=.cells #[.int .i64 x330000_3,.int .i64 x330001_3] 32 (0,0)) (by (with_reducible repeat (first|refine bN ?_ _|refine bD ?_|refine bA ?_ _));exact BK329.out)) : gb329 ≠ gb340));have n8_:=aM ((by rw [hg];exact Nat.ne_of_gt (bL (g:=gb329) (o:=.cells #[.int .i64 x330000_3,.int .i64 x330001_3] 32 (0,0)) (by (with_reducible repeat (first|refine bN ?_ _|refine bD ?_|refine bA ?_ _));exact BK329.out)) : gb340 ≠ gb329));clear HO_7;clear HO_8;clear BK329;clear HB;have HO_7:=n0_;have HO_8:=n1_;have BK329:=n2_;have HB:=n3_;have BK340:=n4_;have GW340:=n5_;have GE340:=n6_;have NB329_340:=n7_;have NB340_329:=n8_;clear n0_ n1_ n2_ n3_ n4_ n5_ n6_ n7_ n8_;clear hb hbox hg;have hnb40:=NB340_329.out;have hnc40:=NB329_340.out;have hcz41_0 : w39.cell? ⟨gb340,0,none⟩ = some (.int .i64 0):=(bC BK340.out 0).trans rfl;have hcz41_1 : w39.cell? ⟨gb340,1,none⟩ = some (.int .i64 0):=(bC BK340.out 1).trans rfl;have hfz41_0:=bF BK340.out 0;have hfz41_1:=bF BK340.out 1;have hcz42_0 : w39.cell? ⟨gb329,0,none⟩ = some (.int .i64 x330000_3):=(bC BK329.out 0).trans rfl;have hcz42_1 : w39.cell? ⟨gb329,1,none⟩ = some (.int .i64 x330001_3):=(bC BK329.out 1).trans rfl;have hfz42_0:=bF BK329.out 0;have hfz42_1:=bF BK329.out 1)|((with_reducible refine gate_builtin (b:=.append) (xs:=#[.tmp 63,.tmp 65]) rfl ?_);at_builtin;refine Kd.R_append k32 (w0:=w) w.heap.size rfl (.tmp 63) (.tmp 65) 23 32 (.agg #[(.int .i64 0),(.int .i64 0)]) 16 rfl Try.underlying23 info32 rfl (by decide) (by omega) u8 x8_3 (⟨(rd_T32 l0 x9_3).f0,(rd_T32 l0 x9_3).f1⟩ : S32) [.int .i64 ((rd_T32 l0 x9_3).f0),.int .i64 ((rd_T32 l0 x9_3).f1)] (fun k_ => some k_ ≠ (u7 : Value).ownBlock ∧ k_ ≠ gb329 ∧ k_ ≠ gb340) (fun _ => False) rfl (by first|(go_simp;done)|(go_simp;rfl)) ?aP (fun _ hk => hk.elim) ?aF ?aO ?aB ?aS ?aL ?_;(case aP => exact k32_mkM _ _ _ (⟨(rd_T32 l0 x9_3).f0,(rd_T32 l0 x9_3).f1⟩ : S32));(case aB => exact (by repeat (first|(with_reducible first|exact HB.out|apply wA|apply wN_|apply wD|refine wS ?_ GE329.out|refine wS ?_ GE340.out)|exact HB.out)));(case aF => exact (fun k_ hk => ⟨Kd.fresh' (Kd.R_lt (by (with_reducible repeat (first|apply rA|apply rN|apply rD));exact (rM (rF_ (p:=⟨gb340,1,none⟩) (rF_ (p:=⟨gb340,0,none⟩) (rM HO_7.out (fun k_ hk => (⟨hk,hk.2⟩ : _ ∧ k_ ≠ gb340))) (fun _ hk => hk.2) (.int .i64 ((rd_T32 l0 x9_3).f0))) (fun _ hk => hk.2) (.int .i64 ((rd_T32 l0 x9_3).f1))) (fun _ h_ => h_.1)))) k_ hk,Kd.freshB (g:=gb329) (o:=.cells #[.int .i64 x330000_3,.int .i64 x330001_3] 32 (0,0)) (by (with_reducible repeat (first|refine bN ?_ _|refine bD ?_|refine bA ?_ _));refine bR ?_ NB329_340.out _;(with_reducible repeat (first|refine bN ?_ _|refine bD ?_|refine bA ?_ _));refine bR ?_ NB329_340.out _;(with_reducible repeat (first|refine bN ?_ _|refine bD ?_|refine bA ?_ _));exact BK329.out) k_ hk,Kd.freshB (g:=gb340) (o:=.cells #[.int .i64 ((rd_T32 l0 x9_3).f0),.int .i64 ((rd_T32 l0 x9_3).f1)] 32 (0,0)) (by (with_reducible repeat (first|refine bN ?_ _|refine bD ?_|refine bA ?_ _));refine bP (cs:=#[.int .i64 ((rd_T32 l0 x9_3).f0),.int .i64 0]) ?_ 1 _ rfl;(with_reducible repeat (first|refine bN ?_ _|refine bD ?_|refine bA ?_ _));refine bP (cs:=#[.int .i64 0,.int .i64 0]) ?_ 0 _ rfl;(with_reducible repeat (first|refine bN ?_ _|refine bD ?_|refine bA ?_ _));exact BK340.out) k_ hk⟩));(case aO => exact (by (with_reducible repeat (first|apply rA|apply rN|apply rD));exact rM (rF_ (p:=⟨gb340,1,none⟩) (rF_ (p:=⟨gb340,0,none⟩) (rM HO_8.out (fun k_ hk => (⟨hk,hk.2⟩ : _ ∧ k_ ≠ gb340))) (fun _ hk => hk.2) (.int .i64 ((rd_T32 l0 x9_3).f0))) (fun _ hk => hk.2) (.int .i64 ((rd_T32 l0 x9_3).f1))) (fun _ hk => ⟨hk.1.1.1,⟨hk.1.1.2,hk.1.2⟩⟩)));(case aS => exact (wZ (by repeat (first|(with_reducible first|exact HB.out|apply wA|apply wN_|apply wD|refine wS ?_ GE329.out|refine wS ?_ GE340.out)|exact HB.out))));(case aL => have:=LMc38.out;omega);intro v345 w43 ho hb hg hat;rw [← Ny344.out] at ho;have n0_:=aM (Kd.R_after (ok:=(fun k_ => k_ ≠ gb329 ∧ k_ ≠ gb340)) (by (with_reducible repeat (first|apply rA|apply rN|apply rD));exact rM (rF_ (p:=⟨gb340,1,none⟩) (rF_ (p:=⟨gb340,0,none⟩) (rM HO_7.out (fun k_ hk => (⟨hk,hk.2⟩ : _ ∧ k_ ≠ gb340))) (fun _ hk => hk.2) (.int .i64 ((rd_T32 l0 x9_3).f0))) (fun _ hk => hk.2) (.int .i64 ((rd_T32 l0 x9_3).f1))) (fun _ hk => ⟨⟨hk.1.1.2,hk.1.2⟩,hk.1.1.1⟩)) hg hat);have n1_:=aM (blk_grown (g:=gb329) (o:=.cells #[.int .i64 x330000_3,.int .i64 x330001_3] 32 (0,0)) (by (with_reducible repeat (first|refine bN ?_ _|refine bD ?_|refine bA ?_ _));refine bR ?_ NB329_340.out _;(with_reducible repeat (first|refine bN ?_ _|refine bD ?_|refine bA ?_ _));refine bR ?_ NB329_340.out _;(with_reducible repeat (first|refine bN ?_ _|refine bD ?_|refine bA ?_ _));exact BK329.out) hg (Kd.R_away HO_8.out (fun _ hk => hk.1.2)));have n2_:=aM (blk_grown (g:=gb340) (o:=.cells #[.int .i64 ((rd_T32 l0 x9_3).f0),.int .i64 ((rd_T32 l0 x9_3).f1)] 32 (0,0)) (by (with_reducible repeat (first|refine bN ?_ _|refine bD ?_|refine bA ?_ _));refine bP (cs:=#[.int .i64 ((rd_T32 l0 x9_3).f0),.int .i64 0]) ?_ 1 _ rfl;(with_reducible repeat (first|refine bN ?_ _|refine bD ?_|refine bA ?_ _));refine bP (cs:=#[.int .i64 0,.int .i64 0]) ?_ 0 _ rfl;(with_reducible repeat (first|refine bN ?_ _|refine bD ?_|refine bA ?_ _));exact BK340.out) hg (Kd.R_away HO_8.out (fun _ hk => hk.2)));have n3_:=aM (hb);have n4_:=aM (ho);clear HO_7;clear BK329;clear BK340;clear HB;clear HO_8;have HO_7:=n0_;have BK329:=n1_;have BK340:=n2_;have HB:=n3_;have HO346:=n4_;clear n0_ n1_ n2_ n3_ n4_;clear ho hb hg hat))
               repeat (go_quiet (first|((with_reducible refine gate_dst (N:=10) rfl ?_);refine box_event ?hg (N:=10) ?hd (cs:=#[.int .i64 0,.int .i64 0]) (t:=32) ?hr ?_;(case hd => rfl);(case hg => rfl);(case hr => first|(go_simp;done)|(go_simp;rfl));intro gb340 hg w39 hbox hb;have n0_:=aM (rB (Kd.R_elderB (by (with_reducible repeat (first|apply rA|apply rN|apply rD));exact HO_7.out) gb340 (Nat.le_of_eq hg.symm)) hb);have n1_:=aM (rB (Kd.R_elderB (by (with_reducible repeat (first|apply rA|apply rN|apply rD));exact HO_8.out) gb340 (Nat.le_of_eq hg.symm)) hb);have n2_:=aM (bB (g:=gb329) (o:=.cells #[.int .i64 x330000_3,.int .i64 x330001_3] 32 (0,0)) (by (with_reducible repeat (first|refine bN ?_ _|refine bD ?_|refine bA ?_ _));exact BK329.out) hb);have n3_:=aM (wT (by repeat (first|(with_reducible first|exact HB.out|apply wA|apply wN_|apply wD|refine wS ?_ GE329.out)|exact HB.out)) hb);have n4_:=aM (hbox);have n5_:=aM ((by rw [hg];exact (wZ (by repeat (first|(with_reducible first|exact HB.out|apply wA|apply wN_|apply wD|refine wS ?_ GE329.out)|exact HB.out))) : w.heap.size ≤ gb340));have n6_:=aM ((by rw [hg];exact (wZ (by repeat (first|(with_reducible first|exact HB.out|apply wA|apply wN_|apply wD|refine wS ?_ GE329.out)|exact HB.out))) : w.heap.size ≤ gb340));have n7_:=aM ((by rw [hg];exact Nat.ne_of_lt (bL (g:=gb329) (o:=.cells #[.int .i64 x330000_3,.int .i64 x330001_3] 32 (0,0)) (by (with_reducible repeat (first|refine bN ?_ _|refine bD ?_|refine bA ?_ _));exact BK329.out)) : gb329 ≠ gb340));have n8_:=aM ((by rw [hg];exact Nat.ne_of_gt (bL (g:=gb329) (o:=.cells #[.int .i64 x330000_3,.int .i64 x330001_3] 32 (0,0)) (by (with_reducible repeat (first|refine bN ?_ _|refine bD ?_|refine bA ?_ _));exact BK329.out)) : gb340 ≠ gb329));clear HO_7;clear HO_8;clear BK329;clear HB;have HO_7:=n0_;have HO_8:=n1_;have BK329:=n2_;have HB:=n3_;have BK340:=n4_;have GW340:=n5_;have GE340:=n6_;have NB329_340:=n7_;have NB340_329:=n8_;clear n0_ n1_ n2_ n3_ n4_ n5_ n6_ n7_ n8_;clear hb hbox hg;have hnb40:=NB340_329.out;have hnc40:=NB329_340.out;have hcz41_0 : w39.cell? ⟨gb340,0,none⟩ = some (.int .i64 0):=(bC BK340.out 0).trans rfl;have hcz41_1 : w39.cell? ⟨gb340,1,none⟩ = some (.int .i64 0):=(bC BK340.out 1).trans rfl;have hfz41_0:=bF BK340.out 0;have hfz41_1:=bF BK340.out 1;have hcz42_0 : w39.cell? ⟨gb329,0,none⟩ = some (.int .i64 x330000_3):=(bC BK329.out 0).trans rfl;have hcz42_1 : w39.cell? ⟨gb329,1,none⟩ = some (.int .i64 x330001_3):=(bC BK329.out 1).trans rfl;have hfz42_0:=bF BK329.out 0;have hfz42_1:=bF BK329.out 1)|((with_reducible refine gate_builtin (b:=.append) (xs:=#[.tmp 63,.tmp 65]) rfl ?_);at_builtin;refine Kd.R_append k32 (w0:=w) w.heap.size rfl (.tmp 63) (.tmp 65) 23 32 (.agg #[(.int .i64 0),(.int .i64 0)]) 16 rfl Try.underlying23 info32 rfl (by decide) (by omega) u8 x8_3 (⟨(rd_T32 l0 x9_3).f0,(rd_T32 l0 x9_3).f1⟩ : S32) [.int .i64 ((rd_T32 l0 x9_3).f0),.int .i64 ((rd_T32 l0 x9_3).f1)] (fun k_ => some k_ ≠ (u7 : Value).ownBlock ∧ k_ ≠ gb329 ∧ k_ ≠ gb340) (fun _ => False) rfl (by first|(go_simp;done)|(go_simp;rfl)) ?aP (fun _ hk => hk.elim) ?aF ?aO ?aB ?aS ?aL ?_;(case aP => exact k32_mkM _ _ _ (⟨(rd_T32 l0 x9_3).f0,(rd_T32 l0 x9_3).f1⟩ : S32));(case aB => exact (by repeat (first|(with_reducible first|exact HB.out|apply wA|apply wN_|apply wD|refine wS ?_ GE329.out|refine wS ?_ GE340.out)|exact HB.out)));(case aF => exact (fun k_ hk => ⟨Kd.fresh' (Kd.R_lt (by (with_reducible repeat (first|apply rA|apply rN|apply rD));exact (rM (rF_ (p:=⟨gb340,1,none⟩) (rF_ (p:=⟨gb340,0,none⟩) (rM HO_7.out (fun k_ hk => (⟨hk,hk.2⟩ : _ ∧ k_ ≠ gb340))) (fun _ hk => hk.2) (.int .i64 ((rd_T32 l0 x9_3).f0))) (fun _ hk => hk.2) (.int .i64 ((rd_T32 l0 x9_3).f1))) (fun _ h_ => h_.1)))) k_ hk,Kd.freshB (g:=gb329) (o:=.cells #[.int .i64 x330000_3,.int .i64 x330001_3] 32 (0,0)) (by (with_reducible repeat (first|refine bN ?_ _|refine bD ?_|refine bA ?_ _));refine bR ?_ NB329_340.out _;(with_reducible repeat (first|refine bN ?_ _|refine bD ?_|refine bA ?_ _));refine bR ?_ NB329_340.out _;(with_reducible repeat (first|refine bN ?_ _|refine bD ?_|refine bA ?_ _));exact BK329.out) k_ hk,Kd.freshB (g:=gb340) (o:=.cells #[.int .i64 ((rd_T32 l0 x9_3).f0),.int .i64 ((rd_T32 l0 x9_3).f1)] 32 (0,0)) (by (with_reducible repeat (first|refine bN ?_ _|refine bD ?_|refine bA ?_ _));refine bP (cs:=#[.int .i64 ((rd_T32 l0 x9_3).f0),.int .i64 0]) ?_ 1 _ rfl;(with_reducible repeat (first|refine bN ?_ _|refine bD ?_|refine bA ?_ _));refine bP (cs:=#[.int .i64 0,.int .i64 0]) ?_ 0 _ rfl;(with_reducible repeat (first|refine bN ?_ _|refine bD ?_|refine bA ?_ _));exact BK340.out) k_ hk⟩));(case aO => exact (by (with_reducible repeat (first|apply rA|apply rN|apply rD));exact rM (rF_ (p:=⟨gb340,1,none⟩) (rF_ (p:=⟨gb340,0,none⟩) (rM HO_8.out (fun k_ hk => (⟨hk,hk.2⟩ : _ ∧ k_ ≠ gb340))) (fun _ hk => hk.2) (.int .i64 ((rd_T32 l0 x9_3).f0))) (fun _ hk => hk.2) (.int .i64 ((rd_T32 l0 x9_3).f1))) (fun _ hk => ⟨hk.1.1.1,⟨hk.1.1.2,hk.1.2⟩⟩)));(case aS => exact (wZ (by repeat (first|(with_reducible first|exact HB.out|apply wA|apply wN_|apply wD|refine wS ?_ GE329.out|refine wS ?_ GE340.out)|exact HB.out))));(case aL => have:=LMc38.out;omega);intro v345 w43 ho hb hg hat;rw [← Ny344.out] at ho;have n0_:=aM (Kd.R_after (ok:=(fun k_ => k_ ≠ gb329 ∧ k_ ≠ gb340)) (by (with_reducible repeat (first|apply rA|apply rN|apply rD));exact rM (rF_ (p:=⟨gb340,1,none⟩) (rF_ (p:=⟨gb340,0,none⟩) (rM HO_7.out (fun k_ hk => (⟨hk,hk.2⟩ : _ ∧ k_ ≠ gb340))) (fun _ hk => hk.2) (.int .i64 ((rd_T32 l0 x9_3).f0))) (fun _ hk => hk.2) (.int .i64 ((rd_T32 l0 x9_3).f1))) (fun _ hk => ⟨⟨hk.1.1.2,hk.1.2⟩,hk.1.1.1⟩)) hg hat);have n1_:=aM (blk_grown (g:=gb329) (o:=.cells #[.int .i64 x330000_3,.int .i64 x330001_3] 32 (0,0)) (by (with_reducible repeat (first|refine bN ?_ _|refine bD ?_|refine bA ?_ _));refine bR ?_ NB329_340.out _;(with_reducible repeat (first|refine bN ?_ _|refine bD ?_|refine bA ?_ _));refine bR ?_ NB329_340.out _;(with_reducible repeat (first|refine bN ?_ _|refine bD ?_|refine bA ?_ _));exact BK329.out) hg (Kd.R_away HO_8.out (fun _ hk => hk.1.2)));have n2_:=aM (blk_grown (g:=gb340) (o:=.cells #[.int .i64 ((rd_T32 l0 x9_3).f0),.int .i64 ((rd_T32 l0 x9_3).f1)] 32 (0,0)) (by (with_reducible repeat (first|refine bN ?_ _|refine bD ?_|refine bA ?_ _));refine bP (cs:=#[.int .i64 ((rd_T32 l0 x9_3).f0),.int .i64 0]) ?_ 1 _ rfl;(with_reducible repeat (first|refine bN ?_ _|refine bD ?_|refine bA ?_ _));refine bP (cs:=#[.int .i64 0,.int .i64 0]) ?_ 0 _ rfl;(with_reducible repeat (first|refine bN ?_ _|refine bD ?_|refine bA ?_ _));exact BK340.out) hg (Kd.R_away HO_8.out (fun _ hk => hk.2)));have n3_:=aM (hb);have n4_:=aM (ho);clear HO_7;clear BK329;clear BK340;clear HB;clear HO_8;have HO_7:=n0_;have BK329:=n1_;have BK340:=n2_;have HB:=n3_;have HO346:=n4_;clear n0_ n1_ n2_ n3_ n4_;clear ho hb hg hat));try go_wp2_with (first|((with_reducible refine gate_dst (N:=10) rfl ?_);refine box_event ?hg (N:=10) ?hd (cs:=#[.int .i64 0,.int .i64 0]) (t:=32) ?hr ?_;(case hd => rfl);(case hg => rfl);(case hr => first|(go_simp;done)|(go_simp;rfl));intro gb340 hg w39 hbox hb;have n0_:=aM (rB (Kd.R_elderB (by (with_reducible repeat (first|apply rA|apply rN|apply rD));exact HO_7.out) gb340 (Nat.le_of_eq hg.symm)) hb);have n1_:=aM (rB (Kd.R_elderB (by (with_reducible repeat (first|apply rA|apply rN|apply rD));exact HO_8.out) gb340 (Nat.le_of_eq hg.symm)) hb);have n2_:=aM (bB (g:=gb329) (o:=.cells #[.int .i64 x330000_3,.int .i64 x330001_3] 32 (0,0)) (by (with_reducible repeat (first|refine bN ?_ _|refine bD ?_|refine bA ?_ _));exact BK329.out) hb);have n3_:=aM (wT (by repeat (first|(with_reducible first|exact HB.out|apply wA|apply wN_|apply wD|refine wS ?_ GE329.out)|exact HB.out)) hb);have n4_:=aM (hbox);have n5_:=aM ((by rw [hg];exact (wZ (by repeat (first|(with_reducible first|exact HB.out|apply wA|apply wN_|apply wD|refine wS ?_ GE329.out)|exact HB.out))) : w.heap.size ≤ gb340));have n6_:=aM ((by rw [hg];exact (wZ (by repeat (first|(with_reducible first|exact HB.out|apply wA|apply wN_|apply wD|refine wS ?_ GE329.out)|exact HB.out))) : w.heap.size ≤ gb340));have n7_:=aM ((by rw [hg];exact Nat.ne_of_lt (bL (g:=gb329) (o:=.cells #[.int .i64 x330000_3,.int .i64 x330001_3] 32 (0,0)) (by (with_reducible repeat (first|refine bN ?_ _|refine bD ?_|refine bA ?_ _));exact BK329.out)) : gb329 ≠ gb340));have n8_:=aM ((by rw [hg];exact Nat.ne_of_gt (bL (g:=gb329) (o:=.cells #[.int .i64 x330000_3,.int .i64 x330001_3] 32 (0,0)) (by (with_reducible repeat (first|refine bN ?_ _|refine bD ?_|refine bA ?_ _));exact BK329.out)) : gb340 ≠ gb329));clear HO_7;clear HO_8;clear BK329;clear HB;have HO_7:=n0_;have HO_8:=n1_;have BK329:=n2_;have HB:=n3_;have BK340:=n4_;have GW340:=n5_;have GE340:=n6_;have NB329_340:=n7_;have NB340_329:=n8_;clear n0_ n1_ n2_ n3_ n4_ n5_ n6_ n7_ n8_;clear hb hbox hg;have hnb40:=NB340_329.out;have hnc40:=NB329_340.out;have hcz41_0 : w39.cell? ⟨gb340,0,none⟩ = some (.int .i64 0):=(bC BK340.out 0).trans rfl;have hcz41_1 : w39.cell? ⟨gb340,1,none⟩ = some (.int .i64 0):=(bC BK340.out 1).trans rfl;have hfz41_0:=bF BK340.out 0;have hfz41_1:=bF BK340.out 1;have hcz42_0 : w39.cell? ⟨gb329,0,none⟩ = some (.int .i64 x330000_3):=(bC BK329.out 0).trans rfl;have hcz42_1 : w39.cell? ⟨gb329,1,none⟩ = some (.int .i64 x330001_3):=(bC BK329.out 1).trans rfl;have hfz42_0:=bF BK329.out 0;have hfz42_1:=bF BK329.out 1)|((with_reducible refine gate_builtin (b:=.append) (xs:=#[.tmp 63,.tmp 65]) rfl ?_);at_builtin;refine Kd.R_append k32 (w0:=w) w.heap.size rfl (.tmp 63) (.tmp 65) 23 32 (.agg #[(.int .i64 0),(.int .i64 0)]) 16 rfl Try.underlying23 info32 rfl (by decide) (by omega) u8 x8_3 (⟨(rd_T32 l0 x9_3).f0,(rd_T32 l0 x9_3).f1⟩ : S32) [.int .i64 ((rd_T32 l0 x9_3).f0),.int .i64 ((rd_T32 l0 x9_3).f1)] (fun k_ => some k_ ≠ (u7 : Value).ownBlock ∧ k_ ≠ gb329 ∧ k_ ≠ gb340) (fun _ => False) rfl (by first|(go_simp;done)|(go_simp;rfl)) ?aP (fun _ hk => hk.elim) ?aF ?aO ?aB ?aS ?aL ?_;(case aP => exact k32_mkM _ _ _ (⟨(rd_T32 l0 x9_3).f0,(rd_T32 l0 x9_3).f1⟩ : S32));(case aB => exact (by repeat (first|(with_reducible first|exact HB.out|apply wA|apply wN_|apply wD|refine wS ?_ GE329.out|refine wS ?_ GE340.out)|exact HB.out)));(case aF => exact (fun k_ hk => ⟨Kd.fresh' (Kd.R_lt (by (with_reducible repeat (first|apply rA|apply rN|apply rD));exact (rM (rF_ (p:=⟨gb340,1,none⟩) (rF_ (p:=⟨gb340,0,none⟩) (rM HO_7.out (fun k_ hk => (⟨hk,hk.2⟩ : _ ∧ k_ ≠ gb340))) (fun _ hk => hk.2) (.int .i64 ((rd_T32 l0 x9_3).f0))) (fun _ hk => hk.2) (.int .i64 ((rd_T32 l0 x9_3).f1))) (fun _ h_ => h_.1)))) k_ hk,Kd.freshB (g:=gb329) (o:=.cells #[.int .i64 x330000_3,.int .i64 x330001_3] 32 (0,0)) (by (with_reducible repeat (first|refine bN ?_ _|refine bD ?_|refine bA ?_ _));refine bR ?_ NB329_340.out _;(with_reducible repeat (first|refine bN ?_ _|refine bD ?_|refine bA ?_ _));refine bR ?_ NB329_340.out _;(with_reducible repeat (first|refine bN ?_ _|refine bD ?_|refine bA ?_ _));exact BK329.out) k_ hk,Kd.freshB (g:=gb340) (o:=.cells #[.int .i64 ((rd_T32 l0 x9_3).f0),.int .i64 ((rd_T32 l0 x9_3).f1)] 32 (0,0)) (by (with_reducible repeat (first|refine bN ?_ _|refine bD ?_|refine bA ?_ _));refine bP (cs:=#[.int .i64 ((rd_T32 l0 x9_3).f0),.int .i64 0]) ?_ 1 _ rfl;(with_reducible repeat (first|refine bN ?_ _|refine bD ?_|refine bA ?_ _));refine bP (cs:=#[.int .i64 0,.int .i64 0]) ?_ 0 _ rfl;(with_reducible repeat (first|refine bN ?_ _|refine bD ?_|refine bA ?_ _));exact BK340.out) k_ hk⟩));(case aO => exact (by (with_reducible repeat (first|apply rA|apply rN|apply rD));exact rM (rF_ (p:=⟨gb340,1,none⟩) (rF_ (p:=⟨gb340,0,none⟩) (rM HO_8.out (fun k_ hk => (⟨hk,hk.2⟩ : _ ∧ k_ ≠ gb340))) (fun _ hk => hk.2) (.int .i64 ((rd_T32 l0 x9_3).f0))) (fun _ hk => hk.2) (.int .i64 ((rd_T32 l0 x9_3).f1))) (fun _ hk => ⟨hk.1.1.1,⟨hk.1.1.2,hk.1.2⟩⟩)));(case aS => exact (wZ (by repeat (first|(with_reducible first|exact HB.out|apply wA|apply wN_|apply wD|refine wS ?_ GE329.out|refine wS ?_ GE340.out)|exact HB.out))));(case aL => have:=LMc38.out;omega);intro v345 w43 ho hb hg hat;rw [← Ny344.out] at ho;have n0_:=aM (Kd.R_after (ok:=(fun k_ => k_ ≠ gb329 ∧ k_ ≠ gb340)) (by (with_reducible repeat (first|apply rA|apply rN|apply rD));exact rM (rF_ (p:=⟨gb340,1,none⟩) (rF_ (p:=⟨gb340,0,none⟩) (rM HO_7.out (fun k_ hk => (⟨hk,hk.2⟩ : _ ∧ k_ ≠ gb340))) (fun _ hk => hk.2) (.int .i64 ((rd_T32 l0 x9_3).f0))) (fun _ hk => hk.2) (.int .i64 ((rd_T32 l0 x9_3).f1))) (fun _ hk => ⟨⟨hk.1.1.2,hk.1.2⟩,hk.1.1.1⟩)) hg hat);have n1_:=aM (blk_grown (g:=gb329) (o:=.cells #[.int .i64 x330000_3,.int .i64 x330001_3] 32 (0,0)) (by (with_reducible repeat (first|refine bN ?_ _|refine bD ?_|refine bA ?_ _));refine bR ?_ NB329_340.out _;(with_reducible repeat (first|refine bN ?_ _|refine bD ?_|refine bA ?_ _));refine bR ?_ NB329_340.out _;(with_reducible repeat (first|refine bN ?_ _|refine bD ?_|refine bA ?_ _));exact BK329.out) hg (Kd.R_away HO_8.out (fun _ hk => hk.1.2)));have n2_:=aM (blk_grown (g:=gb340) (o:=.cells #[.int .i64 ((rd_T32 l0 x9_3).f0),.int .i64 ((rd_T32 l0 x9_3).f1)] 32 (0,0)) (by (with_reducible repeat (first|refine bN ?_ _|refine bD ?_|refine bA ?_ _));refine bP (cs:=#[.int .i64 ((rd_T32 l0 x9_3).f0),.int .i64 0]) ?_ 1 _ rfl;(with_reducible repeat (first|refine bN ?_ _|refine bD ?_|refine bA ?_ _));refine bP (cs:=#[.int .i64 0,.int .i64 0]) ?_ 0 _ rfl;(with_reducible repeat (first|refine bN ?_ _|refine bD ?_|refine bA ?_ _));exact BK340.out) hg (Kd.R_away HO_8.out (fun _ hk => hk.2)));have n3_:=aM (hb);have n4_:=aM (ho);clear HO_7;clear BK329;clear BK340;clear HB;clear HO_8;have HO_7:=n0_;have BK329:=n1_;have BK340:=n2_;have HB:=n3_;have HO346:=n4_;clear n0_ n1_ n2_ n3_ n4_;clear ho hb hg hat)))
               go_roundg k3
               case measure => have:=HJ2.out;have:=HK2.out;have:=HK3.out;omega
               case rel => exact ⟨(x7_3),(y344),(wrap64 (x9_3 + 1)),(x330000_3),(x330001_3),(by first|rfl|(simp;done)|(simp [*];done)),H',⟨by have:=HJ2.out;have:=HK2.out;have:=HK3.out;omega⟩,⟨by (with_reducible repeat (first|apply rA|apply rN|apply rD));exact rM HO_7.out (fun _ hk => ⟨hk.2,hk.1.1⟩)⟩,⟨by (with_reducible repeat (first|apply rA|apply rN|apply rD));exact rM HO346.out (fun _ hk => ⟨hk.1,hk.2.1⟩)⟩,⟨by (with_reducible repeat (first|refine bN ?_ _|refine bD ?_|refine bA ?_ _));exact BK329.out⟩,⟨by repeat (first|(with_reducible first|exact HB.out|apply wA|apply wN_|apply wD|refine wS ?_ GE329.out|refine wS ?_ GE340.out)|exact HB.out)⟩⟩
              ·rw [if_neg c38] at H
               exact absurd H (by simp)
          ·rw [if_neg c20] at H
           exact absurd H (by simp)
         ·rw [if_neg c19] at H
          have c19b0 : decide (x9_3 < (l0.length : Int)) = false := decide_eq_false c19
          clear c19
          by_cases c44 : x7_3.length < 8796093022208
          ·rw [if_pos c44] at H
           have LMc44 := aM c44
           clear c44
           obtain ⟨y333, hy333⟩ : ∃ y_ : List (S32), y_ = (x7_3 ++ [(⟨x330000_3, x330001_3⟩ : S32)]) := ⟨_, rfl⟩
           replace H : (if y333.length + x8_3.length < 8796093022208 then (some ((y333 ++ x8_3), 0)) else (none)) = some (r1, r2) := by first | (rw [hy333]; with_reducible exact H) | (have H2_ := (Option.bind_some _ _).symm.trans H; rw [hy333]; with_reducible exact H2_) | (have H2_ := (Option.bind_some _ _).symm.trans H; with_reducible exact H2_) | with_reducible exact H | (rw [hy333]; exact H) | exact H
           have Ny333 := aM hy333
           clear hy333
           by_cases c45 : y333.length + x8_3.length < 8796093022208
           ·rw [if_pos c45] at H
            have LMc45 := aM c45
            clear c45
            obtain ⟨y336, hy336⟩ : ∃ y_ : List (S32), y_ = (y333 ++ x8_3) := ⟨_, rfl⟩
            replace H : (some (y336, 0)) = some (r1, r2) := by first | (rw [hy336]; with_reducible exact H) | (have H2_ := (Option.bind_some _ _).symm.trans H; rw [hy336]; with_reducible exact H2_) | (have H2_ := (Option.bind_some _ _).symm.trans H; with_reducible exact H2_) | with_reducible exact H | (rw [hy336]; exact H) | exact H
            have Ny336 := aM hy336
            clear hy336
            simp only [Option.some.injEq, Prod.mk.injEq] at H
            obtain ⟨rfl, rfl⟩ := H
            have hcz46_0 : wr.cell? ⟨gb329, 0, none⟩ = some (.int .i64 x330000_3) := (bC BK329.out 0).trans rfl
            have hcz46_1 : wr.cell? ⟨gb329, 1, none⟩ = some (.int .i64 x330001_3) := (bC BK329.out 1).trans rfl
            have hfz46_0 := bF BK329.out 0
            have hfz46_1 := bF BK329.out 1
            go_wp2_with (first|((with_reducible refine gate_builtin (b:=.append) (xs:=#[.tmp 109,.tmp 111]) rfl ?_);at_builtin;refine Kd.R_append k32 (w0:=w) w.heap.size rfl (.tmp 109) (.tmp 111) 23 32 (.agg #[(.int .i64 0),(.int .i64 0)]) 16 rfl Try.underlying23 info32 rfl (by decide) (by omega) u7 x7_3 (⟨x330000_3,x330001_3⟩ : S32) [.int .i64 x330000_3,.int .i64 x330001_3] (fun k_ => some k_ ≠ (u8 : Value).ownBlock ∧ k_ ≠ gb329) (fun _ => False) rfl rfl ?aP (fun _ hk => hk.elim) ?aF ?aO ?aB ?aS ?aL ?_;(case aP => exact k32_mkM _ _ _ (⟨x330000_3,x330001_3⟩ : S32));(case aB => exact (by repeat (first|(with_reducible first|exact HB.out|apply wA|apply wN_|apply wD|refine wS ?_ GE329.out)|exact HB.out)));(case aF => exact (fun k_ hk => ⟨Kd.fresh' (Kd.R_lt (by (with_reducible repeat (first|apply rA|apply rN|apply rD));exact HO_8.out)) k_ hk,Kd.freshB (g:=gb329) (o:=.cells #[.int .i64 x330000_3,.int .i64 x330001_3] 32 (0,0)) (by (with_reducible repeat (first|refine bN ?_ _|refine bD ?_|refine bA ?_ _));exact BK329.out) k_ hk⟩));(case aO => exact (by (with_reducible repeat (first|apply rA|apply rN|apply rD));exact HO_7.out));(case aS => exact (wZ (by repeat (first|(with_reducible first|exact HB.out|apply wA|apply wN_|apply wD|refine wS ?_ GE329.out)|exact HB.out))));(case aL => have:=LMc44.out;omega);intro v334 w47 ho hb hg hat;rw [← Ny333.out] at ho;have n0_:=aM (Kd.R_after (ok:=(fun k_ => k_ ≠ gb329)) (by (with_reducible repeat (first|apply rA|apply rN|apply rD));exact rM HO_8.out (fun _ hk => ⟨hk.2,hk.1⟩)) hg hat);have n1_:=aM (blk_grown (g:=gb329) (o:=.cells #[.int .i64 x330000_3,.int .i64 x330001_3] 32 (0,0)) (by (with_reducible repeat (first|refine bN ?_ _|refine bD ?_|refine bA ?_ _));exact BK329.out) hg (Kd.R_away HO_7.out (fun _ hk => hk.2)));have n2_:=aM (hb);have n3_:=aM (ho);clear HO_8;clear BK329;clear HB;clear HO_7;have HO_8:=n0_;have BK329:=n1_;have HB:=n2_;have HO335:=n3_;clear n0_ n1_ n2_ n3_;clear ho hb hg hat;obtain ⟨Ao49,co49,eo49⟩:=Kd.R_slice HO_8.out;subst eo49)|((with_reducible refine gate_builtin (b:=.append) (xs:=#[.tmp 112,.tmp 113]) rfl ?_);at_builtin;refine Kd.R_append_rows k32 (w0:=w) w.heap.size rfl (.tmp 112) (.tmp 113) 23 32 (.agg #[(.int .i64 0),(.int .i64 0)]) 16 rfl Try.underlying23 info32 rfl (by decide) (by omega) v334 y333 x8_3 _ _ _ (fun k_ => some k_ ≠ (.slice Ao49 x8_3.length co49 : Value).ownBlock ∧ k_ ≠ gb329) (fun _ => False) rfl rfl ?aO ?aR (fun _ _ h => h) (fun _ h => h.elim) ?aF ?aB ?aS ?aL ?_;(case aR => repeat (first|exact (Kd.R_reads' HO_8.out).2.2|(with_reducible refine cA ?_ _)|(with_reducible refine cN ?_ _)|(with_reducible refine cD ?_)));(case aB => exact (by repeat (first|(with_reducible first|exact HB.out|apply wA|apply wN_|apply wD|refine wS ?_ GE329.out)|exact HB.out)));(case aF => exact (fun k_ hk => ⟨Kd.fresh' (Kd.R_lt (by (with_reducible repeat (first|apply rA|apply rN|apply rD));exact HO_8.out)) k_ hk,Kd.freshB (g:=gb329) (o:=.cells #[.int .i64 x330000_3,.int .i64 x330001_3] 32 (0,0)) (by (with_reducible repeat (first|refine bN ?_ _|refine bD ?_|refine bA ?_ _));exact BK329.out) k_ hk⟩));(case aO => exact (by (with_reducible repeat (first|apply rA|apply rN|apply rD));exact HO335.out));(case aS => exact (wZ (by repeat (first|(with_reducible first|exact HB.out|apply wA|apply wN_|apply wD|refine wS ?_ GE329.out)|exact HB.out))));(case aL => have:=LMc45.out;omega);intro v337 w48 ho hb hg hat;rw [← Ny336.out] at ho;have n0_:=aM (Kd.R_after (ok:=(fun k_ => k_ ≠ gb329)) (by (with_reducible repeat (first|apply rA|apply rN|apply rD));exact HO_8.out) hg hat);have n1_:=aM (blk_grown (g:=gb329) (o:=.cells #[.int .i64 x330000_3,.int .i64 x330001_3] 32 (0,0)) (by (with_reducible repeat (first|refine bN ?_ _|refine bD ?_|refine bA ?_ _));exact BK329.out) hg (Kd.R_away HO335.out (fun _ hk => hk.2)));have n2_:=aM (hb);have n3_:=aM (ho);clear HO_8;clear BK329;clear HB;clear HO335;have HO_8:=n0_;have BK329:=n1_;have HB:=n2_;have HO338:=n3_;clear n0_ n1_ n2_ n3_;clear ho hb hg hat))
            repeat (go_quiet (first|((with_reducible refine gate_builtin (b:=.append) (xs:=#[.tmp 109,.tmp 111]) rfl ?_);at_builtin;refine Kd.R_append k32 (w0:=w) w.heap.size rfl (.tmp 109) (.tmp 111) 23 32 (.agg #[(.int .i64 0),(.int .i64 0)]) 16 rfl Try.underlying23 info32 rfl (by decide) (by omega) u7 x7_3 (⟨x330000_3,x330001_3⟩ : S32) [.int .i64 x330000_3,.int .i64 x330001_3] (fun k_ => some k_ ≠ (u8 : Value).ownBlock ∧ k_ ≠ gb329) (fun _ => False) rfl rfl ?aP (fun _ hk => hk.elim) ?aF ?aO ?aB ?aS ?aL ?_;(case aP => exact k32_mkM _ _ _ (⟨x330000_3,x330001_3⟩ : S32));(case aB => exact (by repeat (first|(with_reducible first|exact HB.out|apply wA|apply wN_|apply wD|refine wS ?_ GE329.out)|exact HB.out)));(case aF => exact (fun k_ hk => ⟨Kd.fresh' (Kd.R_lt (by (with_reducible repeat (first|apply rA|apply rN|apply rD));exact HO_8.out)) k_ hk,Kd.freshB (g:=gb329) (o:=.cells #[.int .i64 x330000_3,.int .i64 x330001_3] 32 (0,0)) (by (with_reducible repeat (first|refine bN ?_ _|refine bD ?_|refine bA ?_ _));exact BK329.out) k_ hk⟩));(case aO => exact (by (with_reducible repeat (first|apply rA|apply rN|apply rD));exact HO_7.out));(case aS => exact (wZ (by repeat (first|(with_reducible first|exact HB.out|apply wA|apply wN_|apply wD|refine wS ?_ GE329.out)|exact HB.out))));(case aL => have:=LMc44.out;omega);intro v334 w47 ho hb hg hat;rw [← Ny333.out] at ho;have n0_:=aM (Kd.R_after (ok:=(fun k_ => k_ ≠ gb329)) (by (with_reducible repeat (first|apply rA|apply rN|apply rD));exact rM HO_8.out (fun _ hk => ⟨hk.2,hk.1⟩)) hg hat);have n1_:=aM (blk_grown (g:=gb329) (o:=.cells #[.int .i64 x330000_3,.int .i64 x330001_3] 32 (0,0)) (by (with_reducible repeat (first|refine bN ?_ _|refine bD ?_|refine bA ?_ _));exact BK329.out) hg (Kd.R_away HO_7.out (fun _ hk => hk.2)));have n2_:=aM (hb);have n3_:=aM (ho);clear HO_8;clear BK329;clear HB;clear HO_7;have HO_8:=n0_;have BK329:=n1_;have HB:=n2_;have HO335:=n3_;clear n0_ n1_ n2_ n3_;clear ho hb hg hat;obtain ⟨Ao49,co49,eo49⟩:=Kd.R_slice HO_8.out;subst eo49)|((with_reducible refine gate_builtin (b:=.append) (xs:=#[.tmp 112,.tmp 113]) rfl ?_);at_builtin;refine Kd.R_append_rows k32 (w0:=w) w.heap.size rfl (.tmp 112) (.tmp 113) 23 32 (.agg #[(.int .i64 0),(.int .i64 0)]) 16 rfl Try.underlying23 info32 rfl (by decide) (by omega) v334 y333 x8_3 _ _ _ (fun k_ => some k_ ≠ (.slice Ao49 x8_3.length co49 : Value).ownBlock ∧ k_ ≠ gb329) (fun _ => False) rfl rfl ?aO ?aR (fun _ _ h => h) (fun _ h => h.elim) ?aF ?aB ?aS ?aL ?_;(case aR => repeat (first|exact (Kd.R_reads' HO_8.out).2.2|(with_reducible refine cA ?_ _)|(with_reducible refine cN ?_ _)|(with_reducible refine cD ?_)));(case aB => exact (by repeat (first|(with_reducible first|exact HB.out|apply wA|apply wN_|apply wD|refine wS ?_ GE329.out)|exact HB.out)));(case aF => exact (fun k_ hk => ⟨Kd.fresh' (Kd.R_lt (by (with_reducible repeat (first|apply rA|apply rN|apply rD));exact HO_8.out)) k_ hk,Kd.freshB (g:=gb329) (o:=.cells #[.int .i64 x330000_3,.int .i64 x330001_3] 32 (0,0)) (by (with_reducible repeat (first|refine bN ?_ _|refine bD ?_|refine bA ?_ _));exact BK329.out) k_ hk⟩));(case aO => exact (by (with_reducible repeat (first|apply rA|apply rN|apply rD));exact HO335.out));(case aS => exact (wZ (by repeat (first|(with_reducible first|exact HB.out|apply wA|apply wN_|apply wD|refine wS ?_ GE329.out)|exact HB.out))));(case aL => have:=LMc45.out;omega);intro v337 w48 ho hb hg hat;rw [← Ny336.out] at ho;have n0_:=aM (Kd.R_after (ok:=(fun k_ => k_ ≠ gb329)) (by (with_reducible repeat (first|apply rA|apply rN|apply rD));exact HO_8.out) hg hat);have n1_:=aM (blk_grown (g:=gb329) (o:=.cells #[.int .i64 x330000_3,.int .i64 x330001_3] 32 (0,0)) (by (with_reducible repeat (first|refine bN ?_ _|refine bD ?_|refine bA ?_ _));exact BK329.out) hg (Kd.R_away HO335.out (fun _ hk => hk.2)));have n2_:=aM (hb);have n3_:=aM (ho);clear HO_8;clear BK329;clear HB;clear HO335;have HO_8:=n0_;have BK329:=n1_;have HB:=n2_;have HO338:=n3_;clear n0_ n1_ n2_ n3_;clear ho hb hg hat));try go_wp2_with (first|((with_reducible refine gate_builtin (b:=.append) (xs:=#[.tmp 109,.tmp 111]) rfl ?_);at_builtin;refine Kd.R_append k32 (w0:=w) w.heap.size rfl (.tmp 109) (.tmp 111) 23 32 (.agg #[(.int .i64 0),(.int .i64 0)]) 16 rfl Try.underlying23 info32 rfl (by decide) (by omega) u7 x7_3 (⟨x330000_3,x330001_3⟩ : S32) [.int .i64 x330000_3,.int .i64 x330001_3] (fun k_ => some k_ ≠ (u8 : Value).ownBlock ∧ k_ ≠ gb329) (fun _ => False) rfl rfl ?aP (fun _ hk => hk.elim) ?aF ?aO ?aB ?aS ?aL ?_;(case aP => exact k32_mkM _ _ _ (⟨x330000_3,x330001_3⟩ : S32));(case aB => exact (by repeat (first|(with_reducible first|exact HB.out|apply wA|apply wN_|apply wD|refine wS ?_ GE329.out)|exact HB.out)));(case aF => exact (fun k_ hk => ⟨Kd.fresh' (Kd.R_lt (by (with_reducible repeat (first|apply rA|apply rN|apply rD));exact HO_8.out)) k_ hk,Kd.freshB (g:=gb329) (o:=.cells #[.int .i64 x330000_3,.int .i64 x330001_3] 32 (0,0)) (by (with_reducible repeat (first|refine bN ?_ _|refine bD ?_|refine bA ?_ _));exact BK329.out) k_ hk⟩));(case aO => exact (by (with_reducible repeat (first|apply rA|apply rN|apply rD));exact HO_7.out));(case aS => exact (wZ (by repeat (first|(with_reducible first|exact HB.out|apply wA|apply wN_|apply wD|refine wS ?_ GE329.out)|exact HB.out))));(case aL => have:=LMc44.out;omega);intro v334 w47 ho hb hg hat;rw [← Ny333.out] at ho;have n0_:=aM (Kd.R_after (ok:=(fun k_ => k_ ≠ gb329)) (by (with_reducible repeat (first|apply rA|apply rN|apply rD));exact rM HO_8.out (fun _ hk => ⟨hk.2,hk.1⟩)) hg hat);have n1_:=aM (blk_grown (g:=gb329) (o:=.cells #[.int .i64 x330000_3,.int .i64 x330001_3] 32 (0,0)) (by (with_reducible repeat (first|refine bN ?_ _|refine bD ?_|refine bA ?_ _));exact BK329.out) hg (Kd.R_away HO_7.out (fun _ hk => hk.2)));have n2_:=aM (hb);have n3_:=aM (ho);clear HO_8;clear BK329;clear HB;clear HO_7;have HO_8:=n0_;have BK329:=n1_;have HB:=n2_;have HO335:=n3_;clear n0_ n1_ n2_ n3_;clear ho hb hg hat;obtain ⟨Ao49,co49,eo49⟩:=Kd.R_slice HO_8.out;subst eo49)|((with_reducible refine gate_builtin (b:=.append) (xs:=#[.tmp 112,.tmp 113]) rfl ?_);at_builtin;refine Kd.R_append_rows k32 (w0:=w) w.heap.size rfl (.tmp 112) (.tmp 113) 23 32 (.agg #[(.int .i64 0),(.int .i64 0)]) 16 rfl Try.underlying23 info32 rfl (by decide) (by omega) v334 y333 x8_3 _ _ _ (fun k_ => some k_ ≠ (.slice Ao49 x8_3.length co49 : Value).ownBlock ∧ k_ ≠ gb329) (fun _ => False) rfl rfl ?aO ?aR (fun _ _ h => h) (fun _ h => h.elim) ?aF ?aB ?aS ?aL ?_;(case aR => repeat (first|exact (Kd.R_reads' HO_8.out).2.2|(with_reducible refine cA ?_ _)|(with_reducible refine cN ?_ _)|(with_reducible refine cD ?_)));(case aB => exact (by repeat (first|(with_reducible first|exact HB.out|apply wA|apply wN_|apply wD|refine wS ?_ GE329.out)|exact HB.out)));(case aF => exact (fun k_ hk => ⟨Kd.fresh' (Kd.R_lt (by (with_reducible repeat (first|apply rA|apply rN|apply rD));exact HO_8.out)) k_ hk,Kd.freshB (g:=gb329) (o:=.cells #[.int .i64 x330000_3,.int .i64 x330001_3] 32 (0,0)) (by (with_reducible repeat (first|refine bN ?_ _|refine bD ?_|refine bA ?_ _));exact BK329.out) k_ hk⟩));(case aO => exact (by (with_reducible repeat (first|apply rA|apply rN|apply rD));exact HO335.out));(case aS => exact (wZ (by repeat (first|(with_reducible first|exact HB.out|apply wA|apply wN_|apply wD|refine wS ?_ GE329.out)|exact HB.out))));(case aL => have:=LMc45.out;omega);intro v337 w48 ho hb hg hat;rw [← Ny336.out] at ho;have n0_:=aM (Kd.R_after (ok:=(fun k_ => k_ ≠ gb329)) (by (with_reducible repeat (first|apply rA|apply rN|apply rD));exact HO_8.out) hg hat);have n1_:=aM (blk_grown (g:=gb329) (o:=.cells #[.int .i64 x330000_3,.int .i64 x330001_3] 32 (0,0)) (by (with_reducible repeat (first|refine bN ?_ _|refine bD ?_|refine bA ?_ _));exact BK329.out) hg (Kd.R_away HO335.out (fun _ hk => hk.2)));have n2_:=aM (hb);have n3_:=aM (ho);clear HO_8;clear BK329;clear HB;clear HO335;have HO_8:=n0_;have BK329:=n1_;have HB:=n2_;have HO338:=n3_;clear n0_ n1_ n2_ n3_;clear ho hb hg hat)))
            go_ret2
            exact ⟨_, by first | rfl | (simp [errW_none, errW_some] <;> rfl) | (simp [*, errW_none, errW_some] <;> rfl), by (with_reducible repeat (first | apply rA | apply rN | apply rD)); exact rM HO338.out (fun _ hk => trivial), by repeat (first | (with_reducible first | exact HB.out | apply wA | apply wN_ | apply wD | refine wS ?_ GE329.out) | exact HB.out)⟩
           ·rw [if_neg c45] at H
            exact absurd H (by simp)
          ·rw [if_neg c44] at H
           exact absurd H (by simp)

end Go.Proofs.Ythbknmblehecaaa.Pr
