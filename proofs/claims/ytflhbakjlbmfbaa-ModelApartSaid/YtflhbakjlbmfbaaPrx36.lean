-- Printed by a program of this session (wip/tools/myprint.py) that runs the kit's print with contracts of this session's own.
import Derived.Test.YtflhbakjlbmfbaaPrx0
import Derived.Test.YtflhbakjlbmfbaaShort
import Derived.Test.YtflhbakjlbmfbaaWTab
import Derived.Test.YtflhbakjlbmfbaaScope
import Derived.Test.YtflhbakjlbmfbaaPrx22
namespace Go.Proofs.Ytflhbakjlbmfbaa.Pr
open Go.RowKit Go.Proofs.YtflhbakjlbmfbaaW.PrintWords Go.Proofs.YtflhbakjlbmfbaaW.PrintLast Go.Proofs.YtflhbakjlbmfbaaW.PrintMore
attribute [local go_sem] max2_int min2_int max_two min_two max_three min_three max_four min_four   -- for this text's walks alone
set_option linter.unusedVariables false
set_option linter.unusedSimpArgs false

/-! ### model_May: function 29 -/
mutual
def model_May.j0 : Nat → Bool → Int → List (S48) → Option (Bool)
 | 0, _, _, _ => none
 | k + 1, x12, x480000, x480001 => if x12 = true then (some false) else (model_May.l0 k x480001 (x480001.length : Int) 0 x480000 x480001)
def model_May.l0 : Nat → List (S48) → Int → Int → Int → List (S48) → Option (Bool)
 | 0, _, _, _, _, _ => none
 | k + 1, x14, x15, x16, x480000, x480001 => if x16 < x15 then (if 0 ≤ x16 then (if x16 < (x14.length : Int) then ((model_lies.f ((rd_T48 x14 x16).f0) ((rd_T48 x14 x16).f1) ((rd_T48 x14 x16).f2) x480000).bind fun t482 => (if t482 = true then (if ((rd_T48 x14 x16).f2) < (-1) then (some false) else (if x16 > 0 then (if 0 ≤ (wrap64 (x16 - 1)) then (if (wrap64 (x16 - 1)) < (x480001.length : Int) then (if ((rd_T48 x480001 (wrap64 (x16 - 1))).f0) ≥ ((rd_T48 x14 x16).f0) then (some false) else ((model_over.f ((rd_T48 x480001 (wrap64 (x16 - 1))).f0) ((rd_T48 x480001 (wrap64 (x16 - 1))).f1) ((rd_T48 x480001 (wrap64 (x16 - 1))).f2) ((rd_T48 x14 x16).f0) ((rd_T48 x14 x16).f1) ((rd_T48 x14 x16).f2)).bind fun t485 => (if t485 = true then (some false) else (model_May.l0 k x14 x15 (wrap64 (x16 + 1)) x480000 x480001)))) else (none)) else (none)) else (model_May.l0 k x14 x15 (wrap64 (x16 + 1)) x480000 x480001))) else (some false))) else (none)) else (none)) else (some true)
end
def model_May.f (k : Nat) (a0_0 : Int) (l0_1 : List (S48)) : Option (Bool) := if a0_0 < 0 then (model_May.j0 k true a0_0 l0_1) else (model_May.j0 k (decide (a0_0 > 16384)) a0_0 l0_1)
theorem model_May.mono_l : ∀ k, (∀ y0 y1 y2, LeO (model_May.j0 k y0 y1 y2) (model_May.j0 (k + 1) y0 y1 y2)) ∧ (∀ y0 y1 y2 y3 y4, LeO (model_May.l0 k y0 y1 y2 y3 y4) (model_May.l0 (k + 1) y0 y1 y2 y3 y4))
 | 0 => ⟨fun _ _ _ r h => by simp [model_May.j0] at h, fun _ _ _ _ _ r h => by simp [model_May.l0] at h⟩
 | k + 1 => by
  obtain ⟨ih0, ih1⟩ := model_May.mono_l k
  refine ⟨?_, ?_⟩
  ·intro y0 y1 y2
   unfold model_May.j0
   repeat' first
   | (with_reducible exact ih0 _ _ _)
   | (with_reducible exact ih1 _ _ _ _ _)
   | (with_reducible exact LeO.refl _)
   | (with_reducible exact LeO.none _)
   | (with_reducible refine LeO.ite ?_ ?_)
   | (with_reducible refine LeO.bind ?_ (fun _ => ?_))
   | exact ih0 _ _ _
   | exact ih1 _ _ _ _ _
   | exact LeO.none _
   | refine LeO.ite ?_ ?_
   | refine LeO.bind ?_ (fun _ => ?_)
  ·intro y0 y1 y2 y3 y4
   unfold model_May.l0
   repeat' first
   | (with_reducible exact ih0 _ _ _)
   | (with_reducible exact ih1 _ _ _ _ _)
   | (with_reducible exact LeO.refl _)
   | (with_reducible exact LeO.none _)
   | (with_reducible refine LeO.ite ?_ ?_)
   | (with_reducible refine LeO.bind ?_ (fun _ => ?_))
   | exact ih0 _ _ _
   | exact ih1 _ _ _ _ _
   | exact LeO.none _
   | refine LeO.ite ?_ ?_
   | refine LeO.bind ?_ (fun _ => ?_)
theorem model_May.mono : ∀ a0 a1 k, LeO (model_May.f k a0 a1) (model_May.f (k + 1) a0 a1) := by
 intro a0 a1 k
 obtain ⟨ih0, ih1⟩ := model_May.mono_l k
 unfold model_May.f
 repeat' first
   | (with_reducible exact ih0 _ _ _)
   | (with_reducible exact ih1 _ _ _ _ _)
   | (with_reducible exact LeO.refl _)
   | (with_reducible exact LeO.none _)
   | (with_reducible refine LeO.ite ?_ ?_)
   | (with_reducible refine LeO.bind ?_ (fun _ => ?_))
   | exact ih0 _ _ _
   | exact ih1 _ _ _ _ _
   | exact LeO.none _
   | refine LeO.ite ?_ ?_
   | refine LeO.bind ?_ (fun _ => ?_)
def model_May.T6 : Bool × List (List Nat × List Nat) := (true, [([], []), ([], []), ([1], [1]), ([0, 2], [0, 2]), ([3], [3]), ([4, 3], [4]), ([5], [5]), ([6, 5], [5, 6]), ([7, 5], [5, 7]), ([5, 8], [5, 8]), ([9, 5], [9]), ([10], [10]), ([11, 10], [10, 11]), ([12, 10, 10], [10, 12]), ([13], [13]), ([14, 13], [13, 14]), ([13], [13]), ([16, 13], [13, 16]), ([15, 17, 13], [13, 15, 17]), ([18, 13], [13, 18]), ([19, 13], [13, 19]), ([13], [13]), ([21, 13], [13, 21]), ([20, 22, 13], [13, 20, 22]), ([23, 13, 13], [13, 23]), ([24], [24]), ([25, 24], [24, 25]), ([24], [24]), ([27, 24], [24, 27]), ([26, 28, 24], [24, 26, 28]), ([29, 24], [24, 29]), ([24], [24]), ([30, 31, 24, 24], [24, 30, 31]), ([24, 32, 13], [13, 24, 32]), ([13, 33, 10], [10, 13, 33]), ([10, 34], [10, 34])])
def model_May.B6 : List Nat := [0, 0, 2, 7, 15, 31, 63, 127, 255, 511, 1023, 2047, 4095, 8191, 16383, 32767, 16383, 81919, 262143, 524287, 1048575, 16383, 2113535, 8388607, 16777215, 33554431, 67108863, 33554431, 167772159, 536870911, 1073741823, 33554431, 4294967295, 8589934591, 17179869183, 34359738367]
theorem model_May.tab6 : rtab .any (opsOf Try.f29 6) = model_May.T6 := by kernel_rfl
theorem model_May.bits6 : waitsOk model_May.T6.2 model_May.B6 = true := by kernel_rfl
set_option maxHeartbeats 8000000 in
set_option maxRecDepth 100000 in
theorem model_May.calls (k : Nat) (a0_0 : Int) (A0_1 : Option Addr) (c0_1 : Nat) (l0_1 : List (S48)) (r : Bool) (w : World) (hr0_1 : Kd.C k48 w A0_1 l0_1.length l0_1) (hc0_1 : l0_1.length ≤ c0_1) (h : model_May.f k a0_0 l0_1 = some r) :
  Calls Try.prog 29 #[.agg #[.int .i64 a0_0, .slice A0_1 l0_1.length c0_1]] w fun e w' => e = .returned (.bool r) ∧ Below w.heap.size w w' := by
 have hu41 := Try.underlying41
 have hu48 := Try.underlying48
 have HR0_1 := aM hr0_1
 have HC0_1 := aM hc0_1
 clear hr0_1 hc0_1
 have HB := aM (Below.refl w.heap.size w)
 have H : (if a0_0 < 0 then (model_May.j0 k true a0_0 l0_1) else (model_May.j0 k (decide (a0_0 > 16384)) a0_0 l0_1)) = some r := h
 clear h
 have HC2 := aM H
 clear H
 go_enter Try.func29, Try.ntmps29
 go_upto_region 1 with (first|((with_reducible refine gate_dst (N:=1) rfl ?_);refine box_event ?hg (N:=1) ?hd (cs:=#[.int .i64 a0_0,.slice A0_1 l0_1.length c0_1]) (t:=41) ?hr ?_;(case hd => rfl);(case hg => rfl);(case hr => first|(go_simp;done)|(go_simp;rfl));intro gb479 hg w3 hbox hb;have n0_:=aM (wT (by repeat (first|(with_reducible first|exact HB.out|apply wA|apply wN_|apply wD)|exact HB.out)) hb);have n1_:=aM (hbox);have n2_:=aM ((by rw [hg];exact (wZ (by repeat (first|(with_reducible first|exact HB.out|apply wA|apply wN_|apply wD)|exact HB.out))) : w.heap.size ≤ gb479));have n3_:=aM ((by rw [hg];exact (wZ (by repeat (first|(with_reducible first|exact HB.out|apply wA|apply wN_|apply wD)|exact HB.out))) : w.heap.size ≤ gb479));clear HB;have HB:=n0_;have BK479:=n1_;have GW479:=n2_;have GE479:=n3_;clear n0_ n1_ n2_ n3_;clear hb hbox hg))
 (try simp only [Act.put, lS, lZ, lU])
 go_cut [12] (fun v12 wc => ∃ (kq : Nat) (x12_1 : Bool), v12 = .bool x12_1 ∧ Aside0 (model_May.j0 kq x12_1 a0_0 l0_1 = some r) ∧ Aside0 (kq ≤ k) ∧ Aside0 (wc.heap[gb479]? = some (.cells #[.int .i64 a0_0, (.slice A0_1 l0_1.length c0_1)] 41 (0, 0))) ∧ Aside0 (Below w.heap.size w wc))
 case first =>
  have H := HC2.out
  clear HC2
  by_cases c4 : a0_0 < 0
  ·rw [if_pos c4] at H
   have c4b0 : decide (a0_0 < 0) = true := decide_eq_true c4
   clear c4
   (first | rw [c4b0] | (simp only [i64_w, i32_w]; rw [c4b0]) | skip)
   have H' := aM H
   clear H
   have hcz5_0 : w3.cell? ⟨gb479, 0, none⟩ = some (.int .i64 a0_0) := (bC BK479.out 0).trans rfl
   have hcz5_1 : w3.cell? ⟨gb479, 1, none⟩ = some (.slice A0_1 l0_1.length c0_1) := (bC BK479.out 1).trans rfl
   have hfz5_0 := bF BK479.out 0
   have hfz5_1 := bF BK479.out 1
   go_wp2
   go_meet
   case rel => exact ⟨_,(true),(by first|rfl|(simp;done)|(simp [*];done)),H',⟨by first|omega|exact Nat.le_refl _⟩,⟨by (with_reducible repeat (first|refine bN ?_ _|refine bD ?_|refine bA ?_ _));exact BK479.out⟩,⟨by repeat (first|(with_reducible first|exact HB.out|apply wA|apply wN_|apply wD|refine wS ?_ GE479.out)|exact HB.out)⟩⟩
  ·rw [if_neg c4] at H
   have c4b0 : decide (a0_0 < 0) = false := decide_eq_false c4
   clear c4
   (first | rw [c4b0] | (simp only [i64_w, i32_w]; rw [c4b0]) | skip)
   have H' := aM H
   clear H
   have hcz6_0 : w3.cell? ⟨gb479, 0, none⟩ = some (.int .i64 a0_0) := (bC BK479.out 0).trans rfl
   have hcz6_1 : w3.cell? ⟨gb479, 1, none⟩ = some (.slice A0_1 l0_1.length c0_1) := (bC BK479.out 1).trans rfl
   have hfz6_0 := bF BK479.out 0
   have hfz6_1 := bF BK479.out 1
   go_wp2
   go_meet
   case rel => exact ⟨_,(decide (a0_0 > 16384)),(by first|rfl|(simp;done)|(simp [*];done)),H',⟨by first|omega|exact Nat.le_refl _⟩,⟨by (with_reducible repeat (first|refine bN ?_ _|refine bD ?_|refine bA ?_ _));exact BK479.out⟩,⟨by repeat (first|(with_reducible first|exact HB.out|apply wA|apply wN_|apply wD|refine wS ?_ GE479.out)|exact HB.out)⟩⟩
 case rest =>
  clear HC2
  try clear c2
  try clear p2
  try clear c4
  try clear c4b0
  try clear hcz5_0
  try clear hcz5_1
  try clear hcz6_0
  try clear hcz6_1
  try clear hfz5_0
  try clear hfz5_1
  try clear hfz6_0
  try clear hfz6_1
  obtain ⟨kq, x12_1, rfl, HA, HJ1, BK479, HB⟩ := hcut
  cases kq with
  | zero => exact absurd HA.out (by simp [model_May.j0])
  | succ kj1 =>
   have H := HA.out
   clear HA
   simp only [model_May.j0] at H
   by_cases c7 : x12_1 = true
   ·subst c7
    have H1 : (some false) = some r := by rw [if_pos rfl] at H; exact H
    clear H
    have H := H1
    clear H1
    obtain rfl := Option.some.inj H
    go_wp2
    go_ret
    exact ⟨by first | rfl | (simp [errW_none, errW_some] <;> rfl) | (simp [*, errW_none, errW_some] <;> rfl), by repeat (first | (with_reducible first | exact HB.out | apply wA | apply wN_ | apply wD | refine wS ?_ GE479.out) | exact HB.out)⟩
   ·replace c7 := Bool.eq_false_iff.mpr c7
    subst c7
    have H1 : (model_May.l0 kj1 l0_1 (l0_1.length : Int) 0 a0_0 l0_1) = some r := by rw [if_neg (show ¬ (false = true) by decide)] at H; exact H
    clear H
    have H := H1
    clear H1
    have H' := aM H
    clear H
    have hcz8_0 : wc.cell? ⟨gb479, 0, none⟩ = some (.int .i64 a0_0) := (bC BK479.out 0).trans rfl
    have hcz8_1 : wc.cell? ⟨gb479, 1, none⟩ = some (.slice A0_1 l0_1.length c0_1) := (bC BK479.out 1).trans rfl
    have hfz8_0 := bF BK479.out 0
    have hfz8_1 := bF BK479.out 1
    go_wp2
    go_loopg [16] kj1 (fun kq v16 w' => ∃ (x16_2 : Int), v16 = .int .i64 x16_2 ∧ Aside0 (model_May.l0 kq l0_1 (l0_1.length : Int) x16_2 a0_0 l0_1 = some r) ∧ Aside0 (kq ≤ kj1) ∧ Aside0 (w'.heap[gb479]? = some (.cells #[.int .i64 a0_0, (.slice A0_1 l0_1.length c0_1)] 41 (0, 0))) ∧ Aside0 (Below w.heap.size w w'))
    case atStart => exact ⟨(0),(by first|rfl|(simp;done)|(simp [*];done)),H',⟨Nat.le_refl _⟩,⟨by (with_reducible repeat (first|refine bN ?_ _|refine bD ?_|refine bA ?_ _));exact BK479.out⟩,⟨by repeat (first|(with_reducible first|exact HB.out|apply wA|apply wN_|apply wD|refine wS ?_ GE479.out)|exact HB.out)⟩⟩
    case round =>
     clear H'
     try clear c2
     try clear p2
     try clear c4
     try clear c4b0
     try clear c7
     try clear hcz5_0
     try clear hcz5_1
     try clear hcz6_0
     try clear hcz6_1
     try clear hcz8_0
     try clear hcz8_1
     try clear hfz5_0
     try clear hfz5_1
     try clear hfz6_0
     try clear hfz6_1
     try clear hfz8_0
     try clear hfz8_1
     try clear p2
     obtain ⟨x16_2, rfl, HA, HK2, BK479, HB⟩ := hrel
     cases gk with
     | zero => exact absurd HA.out (by simp [model_May.l0])
     | succ k2 =>
      have H := HA.out
      clear HA
      simp only [model_May.l0] at H
      by_cases c9 : x16_2 < (l0_1.length : Int)
      ·rw [if_pos c9] at H
       have c9b0 : decide (x16_2 < (l0_1.length : Int)) = true := decide_eq_true c9
       clear c9
       by_cases c10 : 0 ≤ x16_2
       ·rw [if_pos c10] at H
        have c10b0 : decide (0 ≤ x16_2) = true := decide_eq_true c10
        clear c10
        by_cases c11 : x16_2 < (l0_1.length : Int)
        ·rw [if_pos c11] at H
         have c11b0 : decide (x16_2 < (l0_1.length : Int)) = true := decide_eq_true c11
         clear c11
         replace H := Option.bind_eq_some_iff.mp H
         obtain ⟨t482, A120, H⟩ := H
         replace H : (if t482 = true then (if ((rd_T48 l0_1 x16_2).f2) < (-1) then (some false) else (if x16_2 > 0 then (if 0 ≤ (wrap64 (x16_2 - 1)) then (if (wrap64 (x16_2 - 1)) < (l0_1.length : Int) then (if ((rd_T48 l0_1 (wrap64 (x16_2 - 1))).f0) ≥ ((rd_T48 l0_1 x16_2).f0) then (some false) else ((model_over.f ((rd_T48 l0_1 (wrap64 (x16_2 - 1))).f0) ((rd_T48 l0_1 (wrap64 (x16_2 - 1))).f1) ((rd_T48 l0_1 (wrap64 (x16_2 - 1))).f2) ((rd_T48 l0_1 x16_2).f0) ((rd_T48 l0_1 x16_2).f1) ((rd_T48 l0_1 x16_2).f2)).bind fun t485 => (if t485 = true then (some false) else (model_May.l0 k2 l0_1 (l0_1.length : Int) (wrap64 (x16_2 + 1)) a0_0 l0_1)))) else (none)) else (none)) else (model_May.l0 k2 l0_1 (l0_1.length : Int) (wrap64 (x16_2 + 1)) a0_0 l0_1))) else (some false)) = some r := H
         have A12 := aM A120
         clear A120
         by_cases c13 : t482 = true
         ·subst c13
          have H1 : (if ((rd_T48 l0_1 x16_2).f2) < (-1) then (some false) else (if x16_2 > 0 then (if 0 ≤ (wrap64 (x16_2 - 1)) then (if (wrap64 (x16_2 - 1)) < (l0_1.length : Int) then (if ((rd_T48 l0_1 (wrap64 (x16_2 - 1))).f0) ≥ ((rd_T48 l0_1 x16_2).f0) then (some false) else ((model_over.f ((rd_T48 l0_1 (wrap64 (x16_2 - 1))).f0) ((rd_T48 l0_1 (wrap64 (x16_2 - 1))).f1) ((rd_T48 l0_1 (wrap64 (x16_2 - 1))).f2) ((rd_T48 l0_1 x16_2).f0) ((rd_T48 l0_1 x16_2).f1) ((rd_T48 l0_1 x16_2).f2)).bind fun t485 => (if t485 = true then (some false) else (model_May.l0 k2 l0_1 (l0_1.length : Int) (wrap64 (x16_2 + 1)) a0_0 l0_1)))) else (none)) else (none)) else (model_May.l0 k2 l0_1 (l0_1.length : Int) (wrap64 (x16_2 + 1)) a0_0 l0_1))) = some r := by rw [if_pos rfl] at H; exact H
          clear H
          have H := H1
          clear H1
          by_cases c14 : ((rd_T48 l0_1 x16_2).f2) < (-1)
          ·rw [if_pos c14] at H
           have c14b0 : decide (((rd_T48 l0_1 x16_2).f2) < (-1)) = true := decide_eq_true c14
           clear c14
           obtain rfl := Option.some.inj H
           have p480 : 0 ≤ (x16_2 : Int) := oD (by first | (with_reducible assumption) | assumption)
           have q480 : x16_2 < (l0_1.length : Int) := oD (by first | (with_reducible assumption) | assumption)
           obtain ⟨ad480, e480, hx480_0, hx480_1, hx480_2⟩ := at_T48 HR0_1.out x16_2 p480 q480
           cases e480
           replace hx480_0 := (HB.out.cell (wL w _ hx480_0)).trans hx480_0
           replace hx480_1 := (HB.out.cell (wL w _ hx480_1)).trans hx480_1
           replace hx480_2 := (HB.out.cell (wL w _ hx480_2)).trans hx480_2
           replace p480 := eq_true p480
           replace q480 := eq_true q480
           try go_wp2_with (first|((with_reducible refine gate_dst (N:=4) rfl ?_);refine box_event ?hg (N:=4) ?hd (cs:=#[.int .i64 0,.int .i64 0,.int .i64 0]) (t:=48) ?hr ?_;(case hd => rfl);(case hg => rfl);(case hr => first|(go_simp;done)|(go_simp;rfl));intro gb481 hg w15 hbox hb;have n0_:=aM (bB (g:=gb479) (o:=.cells #[.int .i64 a0_0,.slice (some ad480) l0_1.length c0_1] 41 (0,0)) (by (with_reducible repeat (first|refine bN ?_ _|refine bD ?_|refine bA ?_ _));exact BK479.out) hb);have n1_:=aM (wT (by repeat (first|(with_reducible first|exact HB.out|apply wA|apply wN_|apply wD|refine wS ?_ GE479.out)|exact HB.out)) hb);have n2_:=aM (hbox);have n3_:=aM ((by rw [hg];exact (wZ (by repeat (first|(with_reducible first|exact HB.out|apply wA|apply wN_|apply wD|refine wS ?_ GE479.out)|exact HB.out))) : w.heap.size ≤ gb481));have n4_:=aM ((by rw [hg];exact (wZ (by repeat (first|(with_reducible first|exact HB.out|apply wA|apply wN_|apply wD|refine wS ?_ GE479.out)|exact HB.out))) : w.heap.size ≤ gb481));have n5_:=aM ((by rw [hg];exact Nat.ne_of_lt (bL (g:=gb479) (o:=.cells #[.int .i64 a0_0,.slice (some ad480) l0_1.length c0_1] 41 (0,0)) (by (with_reducible repeat (first|refine bN ?_ _|refine bD ?_|refine bA ?_ _));exact BK479.out)) : gb479 ≠ gb481));have n6_:=aM ((by rw [hg];exact Nat.ne_of_gt (bL (g:=gb479) (o:=.cells #[.int .i64 a0_0,.slice (some ad480) l0_1.length c0_1] 41 (0,0)) (by (with_reducible repeat (first|refine bN ?_ _|refine bD ?_|refine bA ?_ _));exact BK479.out)) : gb481 ≠ gb479));clear BK479;clear HB;have BK479:=n0_;have HB:=n1_;have BK481:=n2_;have GW481:=n3_;have GE481:=n4_;have NB479_481:=n5_;have NB481_479:=n6_;clear n0_ n1_ n2_ n3_ n4_ n5_ n6_;clear hb hbox hg;have hnb16:=NB481_479.out;have hnc16:=NB479_481.out;have hcz17_0 : w15.cell? ⟨gb481,0,none⟩ = some (.int .i64 0):=(bC BK481.out 0).trans rfl;have hcz17_1 : w15.cell? ⟨gb481,1,none⟩ = some (.int .i64 0):=(bC BK481.out 1).trans rfl;have hcz17_2 : w15.cell? ⟨gb481,2,none⟩ = some (.int .i64 0):=(bC BK481.out 2).trans rfl;have hfz17_0:=bF BK481.out 0;have hfz17_1:=bF BK481.out 1;have hfz17_2:=bF BK481.out 2))
           have n0_ : Aside0 ((((w15.setCell ⟨gb481, 0, none⟩ (.int .i64 ((rd_T48 l0_1 x16_2).f0))).setCell ⟨gb481, 1, none⟩ (.int .i64 ((rd_T48 l0_1 x16_2).f1))).setCell ⟨gb481, 2, none⟩ (.int .i64 ((rd_T48 l0_1 x16_2).f2))).heap[gb479]? = some (.cells #[.int .i64 a0_0, .slice (some ad480) l0_1.length c0_1] 41 (0, 0))) := ⟨by (with_reducible repeat (first | refine bN ?_ _ | refine bD ?_ | refine bA ?_ _)); refine bR ?_ NB479_481.out _; (with_reducible repeat (first | refine bN ?_ _ | refine bD ?_ | refine bA ?_ _)); refine bR ?_ NB479_481.out _; (with_reducible repeat (first | refine bN ?_ _ | refine bD ?_ | refine bA ?_ _)); refine bR ?_ NB479_481.out _; (with_reducible repeat (first | refine bN ?_ _ | refine bD ?_ | refine bA ?_ _)); exact BK479.out⟩
           have n1_ : Aside0 ((((w15.setCell ⟨gb481, 0, none⟩ (.int .i64 ((rd_T48 l0_1 x16_2).f0))).setCell ⟨gb481, 1, none⟩ (.int .i64 ((rd_T48 l0_1 x16_2).f1))).setCell ⟨gb481, 2, none⟩ (.int .i64 ((rd_T48 l0_1 x16_2).f2))).heap[gb481]? = some (.cells #[.int .i64 ((rd_T48 l0_1 x16_2).f0), .int .i64 ((rd_T48 l0_1 x16_2).f1), .int .i64 ((rd_T48 l0_1 x16_2).f2)] 48 (0, 0))) := ⟨by (with_reducible repeat (first | refine bN ?_ _ | refine bD ?_ | refine bA ?_ _)); refine bP (cs := #[.int .i64 ((rd_T48 l0_1 x16_2).f0), .int .i64 ((rd_T48 l0_1 x16_2).f1), .int .i64 0]) ?_ 2 _ rfl; (with_reducible repeat (first | refine bN ?_ _ | refine bD ?_ | refine bA ?_ _)); refine bP (cs := #[.int .i64 ((rd_T48 l0_1 x16_2).f0), .int .i64 0, .int .i64 0]) ?_ 1 _ rfl; (with_reducible repeat (first | refine bN ?_ _ | refine bD ?_ | refine bA ?_ _)); refine bP (cs := #[.int .i64 0, .int .i64 0, .int .i64 0]) ?_ 0 _ rfl; (with_reducible repeat (first | refine bN ?_ _ | refine bD ?_ | refine bA ?_ _)); exact BK481.out⟩
           have n2_ : Aside0 (Below w.heap.size w (((w15.setCell ⟨gb481, 0, none⟩ (.int .i64 ((rd_T48 l0_1 x16_2).f0))).setCell ⟨gb481, 1, none⟩ (.int .i64 ((rd_T48 l0_1 x16_2).f1))).setCell ⟨gb481, 2, none⟩ (.int .i64 ((rd_T48 l0_1 x16_2).f2)))) := ⟨by repeat (first | (with_reducible first | exact HB.out | apply wA | apply wN_ | apply wD | refine wS ?_ GE479.out | refine wS ?_ GE481.out) | exact HB.out)⟩
           (try clear BK479)
           (try clear BK481)
           (try clear HB)
           generalize (((w15.setCell ⟨gb481, 0, none⟩ (.int .i64 ((rd_T48 l0_1 x16_2).f0))).setCell ⟨gb481, 1, none⟩ (.int .i64 ((rd_T48 l0_1 x16_2).f1))).setCell ⟨gb481, 2, none⟩ (.int .i64 ((rd_T48 l0_1 x16_2).f2))) = w18 at n0_ n1_ n2_ ⊢
           have BK479 := n0_
           have BK481 := n1_
           have HB := n2_
           clear n0_ n1_ n2_
           have n0_ := aM (bD BK479.out)
           have n1_ := aM (bD BK481.out)
           have n2_ := aM (wD HB.out)
           clear BK479
           clear BK481
           clear HB
           have BK479 := n0_
           have BK481 := n1_
           have HB := n2_
           clear n0_ n1_ n2_
           refine start_ (n := 36) (S := fun w' => w'.cell? ⟨gb481, 0, none⟩ = some (.int .i64 ((rd_T48 l0_1 x16_2).f0)) ∧ w'.cell? ⟨gb481, 1, none⟩ = some (.int .i64 ((rd_T48 l0_1 x16_2).f1)) ∧ w'.cell? ⟨gb481, 2, none⟩ = some (.int .i64 ((rd_T48 l0_1 x16_2).f2)) ∧ w'.cell? ⟨gb479, 0, none⟩ = some (.int .i64 a0_0) ∧ w'.cell? ⟨gb479, 1, none⟩ = some (.slice (some ad480) l0_1.length c0_1)) (ds := []) (msk 0 36) (by kernel_rfl) rfl rfl ⟨(bC BK481.out 0).trans rfl, (bC BK481.out 1).trans rfl, (bC BK481.out 2).trans rfl, (bC BK479.out 0).trans rfl, (bC BK479.out 1).trans rfl⟩ (fun hHeld => ?_); refine with_tabW model_May.tab6 model_May.bits6 (fun HT_ HW_ => ?_)
           generalize w18.drew = w19 at BK479 BK481 HB hHeld ⊢
           refine pure_ (i := 1) (N := some 22) (v := ?_) (a' := ?_) #[ff,tt,ff,ff,ff,ff,ff,ff,ff,ff,ff,ff,ff,ff,ff,ff,ff,ff,ff,ff,ff,ff,ff,ff,ff,ff,ff,ff,ff,ff,ff,ff,ff,ff,ff,ff] rfl rfl (any_of HT_.out (by kernel_rfl)) (fun _ _ _ h => h) (Or.inl ⟨by rfl, ?_⟩) ?_ ?_
           rotate_left
           ·intro w'
            go_simp
            with_reducible rfl
           rotate_left
           ·simp only [Act.put, lS, lZ, lU, i64_w, i32_w]
            rfl
           refine take_ (i := 0) (N := some 21) (v := ?_) (a' := ?_) (msk 2 34) rfl rfl (take_ofW HT_.out HW_.out (by kernel_rfl)) (fun _ _ _ h => h) (Or.inl ⟨by rfl, ?_⟩) hHeld ?_ ?_
           rotate_left
           ·rintro w' ⟨s0, s1, s2, s3, s4⟩
            go_simp
            with_reducible rfl
           rotate_left
           ·simp only [Act.put, lS, lZ, lU, i64_w, i32_w]
            rfl
           refine take_ (i := 2) (N := some 23) (v := ?_) (a' := ?_) (msk 3 33) rfl rfl (take_ofW HT_.out HW_.out (by kernel_rfl)) (fun _ _ _ h => h) (Or.inl ⟨by rfl, ?_⟩) hHeld ?_ ?_
           rotate_left
           ·rintro w' ⟨s0, s1, s2, s3, s4⟩
            go_simp
            with_reducible rfl
           rotate_left
           ·simp only [Act.put, lS, lZ, lU, i64_w, i32_w]
            rfl
           refine one_ (i := 3) (N := some 24) (msk 4 32) rfl rfl (one_of HT_.out (by kernel_rfl)) (by decide) (fun K hK => ?_)
           refine goes_ Try.func52 (by kernel_rfl) rfl #[.agg #[.int .i64 ((rd_T48 l0_1 x16_2).f0), .int .i64 ((rd_T48 l0_1 x16_2).f1), .int .i64 ((rd_T48 l0_1 x16_2).f2)], .int .i64 a0_0] (by rfl) rfl rfl (by (try simp only [lM, lC, lN]); first | done | rfl | (simp only [lD, lT]; rfl)) ?_
           with_reducible refine (model_lies.calls ((rd_T48 l0_1 x16_2).f0) ((rd_T48 l0_1 x16_2).f1) ((rd_T48 l0_1 x16_2).f2) a0_0 true _ A12.out).mono ?_
           rintro e w20 ⟨rfl, hb⟩
           refine ⟨_, rfl, ?_⟩
           have n0_ := aM (bB (g := gb479) (o := .cells #[.int .i64 a0_0, .slice (some ad480) l0_1.length c0_1] 41 (0, 0)) (by (with_reducible repeat (first | refine bN ?_ _ | refine bD ?_ | refine bA ?_ _)); exact BK479.out) hb)
           have n1_ := aM (bB (g := gb481) (o := .cells #[.int .i64 ((rd_T48 l0_1 x16_2).f0), .int .i64 ((rd_T48 l0_1 x16_2).f1), .int .i64 ((rd_T48 l0_1 x16_2).f2)] 48 (0, 0)) (by (with_reducible repeat (first | refine bN ?_ _ | refine bD ?_ | refine bA ?_ _)); exact BK481.out) hb)
           have n2_ := aM (wT (by repeat (first | (with_reducible first | exact HB.out | apply wA | apply wN_ | apply wD | refine wS ?_ GE479.out | refine wS ?_ GE481.out) | exact HB.out)) hb)
           clear BK479
           clear BK481
           clear HB
           have BK479 := n0_
           have BK481 := n1_
           have HB := n2_
           clear n0_ n1_ n2_
           (try clear hb)
           (try clear hb2)
           (try clear hk)
           (try clear hi)
           refine hK.out _ _ ⟨(bC BK481.out 0).trans rfl, (bC BK481.out 1).trans rfl, (bC BK481.out 2).trans rfl, (bC BK479.out 0).trans rfl, (bC BK479.out 1).trans rfl⟩ (fun hHeld => ?_)
           clear hK K
           refine norm_ (a' := ?_) ?_ ?_
           rotate_left
           ·show Act.put _ (some 24) _ = _
            simp only [Act.put, lS, lZ, lU, i64_w, i32_w]
            rfl
           refine pure_ (i := 4) (N := some 25) (v := ?_) (a' := ?_) (msk 5 31) rfl rfl (any_of HT_.out (by kernel_rfl)) (fun _ _ _ h => h) (Or.inl ⟨by rfl, ?_⟩) ?_ ?_
           rotate_left
           ·intro w'
            go_simp
            with_reducible rfl
           rotate_left
           ·simp only [Act.put, lS, lZ, lU, i64_w, i32_w]
            rfl
           refine pure_ (i := 5) (N := some 26) (v := ?_) (a' := ?_) (msk 6 30) rfl rfl (any_of HT_.out (by kernel_rfl)) (fun _ _ _ h => h) (Or.inl ⟨by rfl, ?_⟩) ?_ ?_
           rotate_left
           ·intro w'
            go_simp
            with_reducible rfl
           rotate_left
           ·simp only [Act.put, lS, lZ, lU, i64_w, i32_w]
            rfl
           refine pure_ (i := 6) (N := some 27) (v := ?_) (a' := ?_) (msk 7 29) rfl rfl (any_of HT_.out (by kernel_rfl)) (fun _ _ _ h => h) (Or.inl ⟨by rfl, ?_⟩) ?_ ?_
           rotate_left
           ·intro w'
            go_simp
            with_reducible rfl
           rotate_left
           ·simp only [Act.put, lS, lZ, lU, i64_w, i32_w]
            rfl
           refine take_ (i := 7) (N := some 28) (v := ?_) (a' := ?_) (msk 8 28) rfl rfl (take_ofW HT_.out HW_.out (by kernel_rfl)) (fun _ _ _ h => h) (Or.inl ⟨by rfl, ?_⟩) hHeld ?_ ?_
           rotate_left
           ·rintro w' ⟨s0, s1, s2, s3, s4⟩
            go_simp
            with_reducible rfl
           rotate_left
           ·simp only [Act.put, lS, lZ, lU, i64_w, i32_w]
            rfl
           refine pure_ (i := 8) (N := some 29) (v := ?_) (a' := ?_) (msk 9 27) rfl rfl (any_of HT_.out (by kernel_rfl)) (fun _ _ _ h => h) (Or.inl ⟨by rfl, ?_⟩) ?_ ?_
           rotate_left
           ·intro w'
            go_simp
            with_reducible rfl
           rotate_left
           ·simp only [Act.put, lS, lZ, lU, i64_w, i32_w]
            rfl
           refine pure_ (i := 9) (N := some 30) (v := ?_) (a' := ?_) (msk 10 26) rfl rfl (any_of HT_.out (by kernel_rfl)) (fun _ _ _ h => h) (Or.inl ⟨by rfl, ?_⟩) ?_ ?_
           rotate_left
           ·intro w'
            go_simp
            with_reducible rfl
           rotate_left
           ·simp only [Act.put, lS, lZ, lU, i64_w, i32_w]
            rfl
           refine pure_ (i := 10) (N := some 31) (v := ?_) (a' := ?_) (msk 11 25) rfl rfl (any_of HT_.out (by kernel_rfl)) (fun _ _ _ h => h) (Or.inl ⟨by rfl, ?_⟩) ?_ ?_
           rotate_left
           ·intro w'
            go_simp
            with_reducible rfl
           rotate_left
           ·simp only [Act.put, lS, lZ, lU, i64_w, i32_w]
            rfl
           refine pure_ (i := 11) (N := some 32) (v := undef) (a' := ?_) (msk 12 24) rfl rfl (any_of HT_.out (by kernel_rfl)) (fun _ _ _ h => h) (Or.inr ⟨by rfl, rfl⟩) ?_ ?_
           rotate_left
           ·simp only [Act.put, lS, lZ, lU, i64_w, i32_w]
            rfl
           refine pure_ (i := 12) (N := some 33) (v := undef) (a' := ?_) (msk 13 23) rfl rfl (any_of HT_.out (by kernel_rfl)) (fun _ _ _ h => h) (Or.inr ⟨by rfl, rfl⟩) ?_ ?_
           rotate_left
           ·simp only [Act.put, lS, lZ, lU, i64_w, i32_w]
            rfl
           refine pure_ (i := 13) (N := some 34) (v := undef) (a' := ?_) (msk 14 22) rfl rfl (any_of HT_.out (by kernel_rfl)) (fun _ _ _ h => h) (Or.inr ⟨by rfl, rfl⟩) ?_ ?_
           rotate_left
           ·simp only [Act.put, lS, lZ, lU, i64_w, i32_w]
            rfl
           refine pure_ (i := 14) (N := some 35) (v := undef) (a' := ?_) (msk 15 21) rfl rfl (any_of HT_.out (by kernel_rfl)) (fun _ _ _ h => h) (Or.inr ⟨by rfl, rfl⟩) ?_ ?_
           rotate_left
           ·simp only [Act.put, lS, lZ, lU, i64_w, i32_w]
            rfl
           refine pure_ (i := 15) (N := some 36) (v := undef) (a' := ?_) (msk 16 20) rfl rfl (any_of HT_.out (by kernel_rfl)) (fun _ _ _ h => h) (Or.inr ⟨by rfl, rfl⟩) ?_ ?_
           rotate_left
           ·simp only [Act.put, lS, lZ, lU, i64_w, i32_w]
            rfl
           refine pure_ (i := 16) (N := some 37) (v := undef) (a' := ?_) (msk 17 19) rfl rfl (any_of HT_.out (by kernel_rfl)) (fun _ _ _ h => h) (Or.inr ⟨by rfl, rfl⟩) ?_ ?_
           rotate_left
           ·simp only [Act.put, lS, lZ, lU, i64_w, i32_w]
            rfl
           refine pure_ (i := 17) (N := some 38) (v := undef) (a' := ?_) (msk 18 18) rfl rfl (any_of HT_.out (by kernel_rfl)) (fun _ _ _ h => h) (Or.inr ⟨by rfl, rfl⟩) ?_ ?_
           rotate_left
           ·simp only [Act.put, lS, lZ, lU, i64_w, i32_w]
            rfl
           refine pure_ (i := 18) (N := some 39) (v := undef) (a' := ?_) (msk 19 17) rfl rfl (any_of HT_.out (by kernel_rfl)) (fun _ _ _ h => h) (Or.inr ⟨by rfl, rfl⟩) ?_ ?_
           rotate_left
           ·simp only [Act.put, lS, lZ, lU, i64_w, i32_w]
            rfl
           refine pure_ (i := 19) (N := some 40) (v := undef) (a' := ?_) (msk 20 16) rfl rfl (any_of HT_.out (by kernel_rfl)) (fun _ _ _ h => h) (Or.inr ⟨by rfl, rfl⟩) ?_ ?_
           rotate_left
           ·simp only [Act.put, lS, lZ, lU, i64_w, i32_w]
            rfl
           refine pure_ (i := 20) (N := some 41) (v := undef) (a' := ?_) (msk 21 15) rfl rfl (any_of HT_.out (by kernel_rfl)) (fun _ _ _ h => h) (Or.inr ⟨by rfl, rfl⟩) ?_ ?_
           rotate_left
           ·simp only [Act.put, lS, lZ, lU, i64_w, i32_w]
            rfl
           refine pure_ (i := 21) (N := some 42) (v := undef) (a' := ?_) (msk 22 14) rfl rfl (any_of HT_.out (by kernel_rfl)) (fun _ _ _ h => h) (Or.inr ⟨by rfl, rfl⟩) ?_ ?_
           rotate_left
           ·simp only [Act.put, lS, lZ, lU, i64_w, i32_w]
            rfl
           refine pure_ (i := 22) (N := some 43) (v := undef) (a' := ?_) (msk 23 13) rfl rfl (any_of HT_.out (by kernel_rfl)) (fun _ _ _ h => h) (Or.inr ⟨by rfl, rfl⟩) ?_ ?_
           rotate_left
           ·simp only [Act.put, lS, lZ, lU, i64_w, i32_w]
            rfl
           refine pure_ (i := 23) (N := some 44) (v := undef) (a' := ?_) (msk 24 12) rfl rfl (any_of HT_.out (by kernel_rfl)) (fun _ _ _ h => h) (Or.inr ⟨by rfl, rfl⟩) ?_ ?_
           rotate_left
           ·simp only [Act.put, lS, lZ, lU, i64_w, i32_w]
            rfl
           refine pure_ (i := 24) (N := some 45) (v := undef) (a' := ?_) (msk 25 11) rfl rfl (any_of HT_.out (by kernel_rfl)) (fun _ _ _ h => h) (Or.inr ⟨by rfl, rfl⟩) ?_ ?_
           rotate_left
           ·simp only [Act.put, lS, lZ, lU, i64_w, i32_w]
            rfl
           refine pure_ (i := 25) (N := some 46) (v := undef) (a' := ?_) (msk 26 10) rfl rfl (any_of HT_.out (by kernel_rfl)) (fun _ _ _ h => h) (Or.inr ⟨by rfl, rfl⟩) ?_ ?_
           rotate_left
           ·simp only [Act.put, lS, lZ, lU, i64_w, i32_w]
            rfl
           refine pure_ (i := 26) (N := some 47) (v := undef) (a' := ?_) (msk 27 9) rfl rfl (any_of HT_.out (by kernel_rfl)) (fun _ _ _ h => h) (Or.inr ⟨by rfl, rfl⟩) ?_ ?_
           rotate_left
           ·simp only [Act.put, lS, lZ, lU, i64_w, i32_w]
            rfl
           refine pure_ (i := 27) (N := some 48) (v := undef) (a' := ?_) (msk 28 8) rfl rfl (any_of HT_.out (by kernel_rfl)) (fun _ _ _ h => h) (Or.inr ⟨by rfl, rfl⟩) ?_ ?_
           rotate_left
           ·simp only [Act.put, lS, lZ, lU, i64_w, i32_w]
            rfl
           refine pure_ (i := 28) (N := some 49) (v := undef) (a' := ?_) (msk 29 7) rfl rfl (any_of HT_.out (by kernel_rfl)) (fun _ _ _ h => h) (Or.inr ⟨by rfl, rfl⟩) ?_ ?_
           rotate_left
           ·simp only [Act.put, lS, lZ, lU, i64_w, i32_w]
            rfl
           refine pure_ (i := 29) (N := some 50) (v := undef) (a' := ?_) (msk 30 6) rfl rfl (any_of HT_.out (by kernel_rfl)) (fun _ _ _ h => h) (Or.inr ⟨by rfl, rfl⟩) ?_ ?_
           rotate_left
           ·simp only [Act.put, lS, lZ, lU, i64_w, i32_w]
            rfl
           refine pure_ (i := 30) (N := some 51) (v := undef) (a' := ?_) (msk 31 5) rfl rfl (any_of HT_.out (by kernel_rfl)) (fun _ _ _ h => h) (Or.inr ⟨by rfl, rfl⟩) ?_ ?_
           rotate_left
           ·simp only [Act.put, lS, lZ, lU, i64_w, i32_w]
            rfl
           refine pure_ (i := 31) (N := some 52) (v := undef) (a' := ?_) (msk 32 4) rfl rfl (any_of HT_.out (by kernel_rfl)) (fun _ _ _ h => h) (Or.inr ⟨by rfl, rfl⟩) ?_ ?_
           rotate_left
           ·simp only [Act.put, lS, lZ, lU, i64_w, i32_w]
            rfl
           refine pure_ (i := 32) (N := some 53) (v := undef) (a' := ?_) (msk 33 3) rfl rfl (any_of HT_.out (by kernel_rfl)) (fun _ _ _ h => h) (Or.inr ⟨by rfl, rfl⟩) ?_ ?_
           rotate_left
           ·simp only [Act.put, lS, lZ, lU, i64_w, i32_w]
            rfl
           refine pure_ (i := 33) (N := some 54) (v := undef) (a' := ?_) (msk 34 2) rfl rfl (any_of HT_.out (by kernel_rfl)) (fun _ _ _ h => h) (Or.inr ⟨by rfl, rfl⟩) ?_ ?_
           rotate_left
           ·simp only [Act.put, lS, lZ, lU, i64_w, i32_w]
            rfl
           refine pure_ (i := 34) (N := some 55) (v := undef) (a' := ?_) (msk 35 1) rfl rfl (any_of HT_.out (by kernel_rfl)) (fun _ _ _ h => h) (Or.inr ⟨by rfl, rfl⟩) ?_ ?_
           rotate_left
           ·simp only [Act.put, lS, lZ, lU, i64_w, i32_w]
            rfl
           refine pure_ (i := 35) (N := some 56) (v := ?_) (a' := ?_) (msk 36 0) rfl rfl (any_of HT_.out (by kernel_rfl)) (fun _ _ _ h => h) (Or.inl ⟨by rfl, ?_⟩) ?_ ?_
           rotate_left
           ·intro w'
            go_simp
            with_reducible rfl
           rotate_left
           ·simp only [Act.put, lS, lZ, lU, i64_w, i32_w]
            rfl
           refine done_ (done_of HT_.out (by kernel_rfl)) ?_
           try go_wp2
           go_ret
           exact ⟨by first | rfl | (simp [errW_none, errW_some] <;> rfl) | (simp [*, errW_none, errW_some] <;> rfl), by repeat (first | (with_reducible first | exact HB.out | apply wA | apply wN_ | apply wD | refine wS ?_ GE479.out | refine wS ?_ GE481.out) | exact HB.out)⟩
          ·rw [if_neg c14] at H
           have c14b0 : decide (((rd_T48 l0_1 x16_2).f2) < (-1)) = false := decide_eq_false c14
           clear c14
           by_cases c21 : x16_2 > 0
           ·rw [if_pos c21] at H
            have c21b0 : decide (0 < x16_2) = true := decide_eq_true c21
            clear c21
            obtain ⟨ji22, hji22⟩ : ∃ j_ : Int, (wrap64 (x16_2 - 1)) = j_ := ⟨_, rfl⟩
            replace H : (if 0 ≤ (ji22) then (if (ji22) < (l0_1.length : Int) then (if ((rd_T48 l0_1 (ji22)).f0) ≥ ((rd_T48 l0_1 x16_2).f0) then (some false) else ((model_over.f ((rd_T48 l0_1 (ji22)).f0) ((rd_T48 l0_1 (ji22)).f1) ((rd_T48 l0_1 (ji22)).f2) ((rd_T48 l0_1 x16_2).f0) ((rd_T48 l0_1 x16_2).f1) ((rd_T48 l0_1 x16_2).f2)).bind fun t485 => (if t485 = true then (some false) else (model_May.l0 k2 l0_1 (l0_1.length : Int) (wrap64 (x16_2 + 1)) a0_0 l0_1)))) else (none)) else (none)) = some r := by first | (rw [hji22] at H; exact H) | (simp only [hji22] at H ⊢; exact H)
            (try rw [hji22] at A12)
            have hji22w : (IntKind.i64.wrap (x16_2 - 1)) = ji22 := (i64_w _).trans hji22
            by_cases c23 : 0 ≤ (ji22)
            ·rw [if_pos c23] at H
             have c23b0 : decide (0 ≤ (ji22)) = true := decide_eq_true c23
             clear c23
             by_cases c24 : (ji22) < (l0_1.length : Int)
             ·rw [if_pos c24] at H
              have c24b0 : decide ((ji22) < (l0_1.length : Int)) = true := decide_eq_true c24
              clear c24
              by_cases c25 : ((rd_T48 l0_1 (ji22)).f0) ≥ ((rd_T48 l0_1 x16_2).f0)
              ·rw [if_pos c25] at H
               have c25b0 : decide (((rd_T48 l0_1 x16_2).f0) ≤ ((rd_T48 l0_1 (ji22)).f0)) = true := decide_eq_true c25
               clear c25
               obtain rfl := Option.some.inj H
               have p480 : 0 ≤ (x16_2 : Int) := oD (by first | (with_reducible assumption) | assumption)
               have q480 : x16_2 < (l0_1.length : Int) := oD (by first | (with_reducible assumption) | assumption)
               obtain ⟨ad480, e480, hx480_0, hx480_1, hx480_2⟩ := at_T48 HR0_1.out x16_2 p480 q480
               cases e480
               replace hx480_0 := (HB.out.cell (wL w _ hx480_0)).trans hx480_0
               replace hx480_1 := (HB.out.cell (wL w _ hx480_1)).trans hx480_1
               replace hx480_2 := (HB.out.cell (wL w _ hx480_2)).trans hx480_2
               replace p480 := eq_true p480
               replace q480 := eq_true q480
               try go_wp2_with (first|((with_reducible refine gate_dst (N:=4) rfl ?_);refine box_event ?hg (N:=4) ?hd (cs:=#[.int .i64 0,.int .i64 0,.int .i64 0]) (t:=48) ?hr ?_;(case hd => rfl);(case hg => rfl);(case hr => first|(go_simp;done)|(go_simp;rfl));intro gb481 hg w26 hbox hb;have n0_:=aM (bB (g:=gb479) (o:=.cells #[.int .i64 a0_0,.slice (some ad480) l0_1.length c0_1] 41 (0,0)) (by (with_reducible repeat (first|refine bN ?_ _|refine bD ?_|refine bA ?_ _));exact BK479.out) hb);have n1_:=aM (wT (by repeat (first|(with_reducible first|exact HB.out|apply wA|apply wN_|apply wD|refine wS ?_ GE479.out)|exact HB.out)) hb);have n2_:=aM (hbox);have n3_:=aM ((by rw [hg];exact (wZ (by repeat (first|(with_reducible first|exact HB.out|apply wA|apply wN_|apply wD|refine wS ?_ GE479.out)|exact HB.out))) : w.heap.size ≤ gb481));have n4_:=aM ((by rw [hg];exact (wZ (by repeat (first|(with_reducible first|exact HB.out|apply wA|apply wN_|apply wD|refine wS ?_ GE479.out)|exact HB.out))) : w.heap.size ≤ gb481));have n5_:=aM ((by rw [hg];exact Nat.ne_of_lt (bL (g:=gb479) (o:=.cells #[.int .i64 a0_0,.slice (some ad480) l0_1.length c0_1] 41 (0,0)) (by (with_reducible repeat (first|refine bN ?_ _|refine bD ?_|refine bA ?_ _));exact BK479.out)) : gb479 ≠ gb481));have n6_:=aM ((by rw [hg];exact Nat.ne_of_gt (bL (g:=gb479) (o:=.cells #[.int .i64 a0_0,.slice (some ad480) l0_1.length c0_1] 41 (0,0)) (by (with_reducible repeat (first|refine bN ?_ _|refine bD ?_|refine bA ?_ _));exact BK479.out)) : gb481 ≠ gb479));clear BK479;clear HB;have BK479:=n0_;have HB:=n1_;have BK481:=n2_;have GW481:=n3_;have GE481:=n4_;have NB479_481:=n5_;have NB481_479:=n6_;clear n0_ n1_ n2_ n3_ n4_ n5_ n6_;clear hb hbox hg;have hnb27:=NB481_479.out;have hnc27:=NB479_481.out;have hcz28_0 : w26.cell? ⟨gb481,0,none⟩ = some (.int .i64 0):=(bC BK481.out 0).trans rfl;have hcz28_1 : w26.cell? ⟨gb481,1,none⟩ = some (.int .i64 0):=(bC BK481.out 1).trans rfl;have hcz28_2 : w26.cell? ⟨gb481,2,none⟩ = some (.int .i64 0):=(bC BK481.out 2).trans rfl;have hfz28_0:=bF BK481.out 0;have hfz28_1:=bF BK481.out 1;have hfz28_2:=bF BK481.out 2))
               have n0_ : Aside0 ((((w26.setCell ⟨gb481, 0, none⟩ (.int .i64 ((rd_T48 l0_1 x16_2).f0))).setCell ⟨gb481, 1, none⟩ (.int .i64 ((rd_T48 l0_1 x16_2).f1))).setCell ⟨gb481, 2, none⟩ (.int .i64 ((rd_T48 l0_1 x16_2).f2))).heap[gb479]? = some (.cells #[.int .i64 a0_0, .slice (some ad480) l0_1.length c0_1] 41 (0, 0))) := ⟨by (with_reducible repeat (first | refine bN ?_ _ | refine bD ?_ | refine bA ?_ _)); refine bR ?_ NB479_481.out _; (with_reducible repeat (first | refine bN ?_ _ | refine bD ?_ | refine bA ?_ _)); refine bR ?_ NB479_481.out _; (with_reducible repeat (first | refine bN ?_ _ | refine bD ?_ | refine bA ?_ _)); refine bR ?_ NB479_481.out _; (with_reducible repeat (first | refine bN ?_ _ | refine bD ?_ | refine bA ?_ _)); exact BK479.out⟩
               have n1_ : Aside0 ((((w26.setCell ⟨gb481, 0, none⟩ (.int .i64 ((rd_T48 l0_1 x16_2).f0))).setCell ⟨gb481, 1, none⟩ (.int .i64 ((rd_T48 l0_1 x16_2).f1))).setCell ⟨gb481, 2, none⟩ (.int .i64 ((rd_T48 l0_1 x16_2).f2))).heap[gb481]? = some (.cells #[.int .i64 ((rd_T48 l0_1 x16_2).f0), .int .i64 ((rd_T48 l0_1 x16_2).f1), .int .i64 ((rd_T48 l0_1 x16_2).f2)] 48 (0, 0))) := ⟨by (with_reducible repeat (first | refine bN ?_ _ | refine bD ?_ | refine bA ?_ _)); refine bP (cs := #[.int .i64 ((rd_T48 l0_1 x16_2).f0), .int .i64 ((rd_T48 l0_1 x16_2).f1), .int .i64 0]) ?_ 2 _ rfl; (with_reducible repeat (first | refine bN ?_ _ | refine bD ?_ | refine bA ?_ _)); refine bP (cs := #[.int .i64 ((rd_T48 l0_1 x16_2).f0), .int .i64 0, .int .i64 0]) ?_ 1 _ rfl; (with_reducible repeat (first | refine bN ?_ _ | refine bD ?_ | refine bA ?_ _)); refine bP (cs := #[.int .i64 0, .int .i64 0, .int .i64 0]) ?_ 0 _ rfl; (with_reducible repeat (first | refine bN ?_ _ | refine bD ?_ | refine bA ?_ _)); exact BK481.out⟩
               have n2_ : Aside0 (Below w.heap.size w (((w26.setCell ⟨gb481, 0, none⟩ (.int .i64 ((rd_T48 l0_1 x16_2).f0))).setCell ⟨gb481, 1, none⟩ (.int .i64 ((rd_T48 l0_1 x16_2).f1))).setCell ⟨gb481, 2, none⟩ (.int .i64 ((rd_T48 l0_1 x16_2).f2)))) := ⟨by repeat (first | (with_reducible first | exact HB.out | apply wA | apply wN_ | apply wD | refine wS ?_ GE479.out | refine wS ?_ GE481.out) | exact HB.out)⟩
               (try clear BK479)
               (try clear BK481)
               (try clear HB)
               generalize (((w26.setCell ⟨gb481, 0, none⟩ (.int .i64 ((rd_T48 l0_1 x16_2).f0))).setCell ⟨gb481, 1, none⟩ (.int .i64 ((rd_T48 l0_1 x16_2).f1))).setCell ⟨gb481, 2, none⟩ (.int .i64 ((rd_T48 l0_1 x16_2).f2))) = w29 at n0_ n1_ n2_ ⊢
               have BK479 := n0_
               have BK481 := n1_
               have HB := n2_
               clear n0_ n1_ n2_
               have n0_ := aM (bD BK479.out)
               have n1_ := aM (bD BK481.out)
               have n2_ := aM (wD HB.out)
               clear BK479
               clear BK481
               clear HB
               have BK479 := n0_
               have BK481 := n1_
               have HB := n2_
               clear n0_ n1_ n2_
               have p483 : 0 ≤ ((ji22) : Int) := oD (by first | (with_reducible assumption) | assumption)
               have q483 : (ji22) < (l0_1.length : Int) := oD (by first | (with_reducible assumption) | assumption)
               obtain ⟨ad483, e483, hx483_0, hx483_1, hx483_2⟩ := at_T48 HR0_1.out (ji22) p483 q483
               have hw483_2 := hx483_2
               have hw483_1 := hx483_1
               have hw483_0 := hx483_0
               obtain rfl : ad480 = ad483 := (by injection e483)
               replace hx483_0 := (HB.out.cell (wL w _ hx483_0)).trans hx483_0
               replace hx483_1 := (HB.out.cell (wL w _ hx483_1)).trans hx483_1
               replace hx483_2 := (HB.out.cell (wL w _ hx483_2)).trans hx483_2
               replace p483 := eq_true p483
               replace q483 := eq_true q483
               refine start_ (n := 36) (S := fun w' => w'.cell? ⟨gb481, 0, none⟩ = some (.int .i64 ((rd_T48 l0_1 x16_2).f0)) ∧ w'.cell? ⟨gb481, 1, none⟩ = some (.int .i64 ((rd_T48 l0_1 x16_2).f1)) ∧ w'.cell? ⟨gb481, 2, none⟩ = some (.int .i64 ((rd_T48 l0_1 x16_2).f2)) ∧ w'.cell? ⟨gb479, 0, none⟩ = some (.int .i64 a0_0) ∧ w'.cell? ⟨gb479, 1, none⟩ = some (.slice (some ad480) l0_1.length c0_1) ∧ w'.cell? (ad480.add (((ji22)).toNat * 3)) = some (.int .i64 ((rd_T48 l0_1 (ji22)).f0)) ∧ w'.cell? ⟨(ad480.add (((ji22)).toNat * 3)).block, (ad480.add (((ji22)).toNat * 3)).off + 1, none⟩ = some (.int .i64 ((rd_T48 l0_1 (ji22)).f1)) ∧ w'.cell? ⟨(ad480.add (((ji22)).toNat * 3)).block, (ad480.add (((ji22)).toNat * 3)).off + 2, none⟩ = some (.int .i64 ((rd_T48 l0_1 (ji22)).f2))) (ds := []) (msk 0 36) (by kernel_rfl) rfl rfl ⟨(bC BK481.out 0).trans rfl, (bC BK481.out 1).trans rfl, (bC BK481.out 2).trans rfl, (bC BK479.out 0).trans rfl, (bC BK479.out 1).trans rfl, ((HB.out.cell (wL w _ hw483_0)).trans hw483_0), ((HB.out.cell (wL w _ hw483_1)).trans hw483_1), ((HB.out.cell (wL w _ hw483_2)).trans hw483_2)⟩ (fun hHeld => ?_); refine with_tabW model_May.tab6 model_May.bits6 (fun HT_ HW_ => ?_)
               generalize w29.drew = w30 at BK479 BK481 HB hx483_0 hx483_1 hx483_2 hHeld ⊢
               refine pure_ (i := 1) (N := some 22) (v := ?_) (a' := ?_) #[ff,tt,ff,ff,ff,ff,ff,ff,ff,ff,ff,ff,ff,ff,ff,ff,ff,ff,ff,ff,ff,ff,ff,ff,ff,ff,ff,ff,ff,ff,ff,ff,ff,ff,ff,ff] rfl rfl (any_of HT_.out (by kernel_rfl)) (fun _ _ _ h => h) (Or.inl ⟨by rfl, ?_⟩) ?_ ?_
               rotate_left
               ·intro w'
                go_simp
                with_reducible rfl
               rotate_left
               ·simp only [Act.put, lS, lZ, lU, i64_w, i32_w]
                rfl
               refine take_ (i := 0) (N := some 21) (v := ?_) (a' := ?_) (msk 2 34) rfl rfl (take_ofW HT_.out HW_.out (by kernel_rfl)) (fun _ _ _ h => h) (Or.inl ⟨by rfl, ?_⟩) hHeld ?_ ?_
               rotate_left
               ·rintro w' ⟨s0, s1, s2, s3, s4, s5, s6, s7⟩
                go_simp
                with_reducible rfl
               rotate_left
               ·simp only [Act.put, lS, lZ, lU, i64_w, i32_w]
                rfl
               refine take_ (i := 2) (N := some 23) (v := ?_) (a' := ?_) (msk 3 33) rfl rfl (take_ofW HT_.out HW_.out (by kernel_rfl)) (fun _ _ _ h => h) (Or.inl ⟨by rfl, ?_⟩) hHeld ?_ ?_
               rotate_left
               ·rintro w' ⟨s0, s1, s2, s3, s4, s5, s6, s7⟩
                go_simp
                with_reducible rfl
               rotate_left
               ·simp only [Act.put, lS, lZ, lU, i64_w, i32_w]
                rfl
               refine one_ (i := 3) (N := some 24) (msk 4 32) rfl rfl (one_of HT_.out (by kernel_rfl)) (by decide) (fun K hK => ?_)
               refine goes_ Try.func52 (by kernel_rfl) rfl #[.agg #[.int .i64 ((rd_T48 l0_1 x16_2).f0), .int .i64 ((rd_T48 l0_1 x16_2).f1), .int .i64 ((rd_T48 l0_1 x16_2).f2)], .int .i64 a0_0] (by rfl) rfl rfl (by (try simp only [lM, lC, lN]); first | done | rfl | (simp only [lD, lT]; rfl)) ?_
               with_reducible refine (model_lies.calls ((rd_T48 l0_1 x16_2).f0) ((rd_T48 l0_1 x16_2).f1) ((rd_T48 l0_1 x16_2).f2) a0_0 true _ A12.out).mono ?_
               rintro e w31 ⟨rfl, hb⟩
               refine ⟨_, rfl, ?_⟩
               have n0_ := aM (bB (g := gb479) (o := .cells #[.int .i64 a0_0, .slice (some ad480) l0_1.length c0_1] 41 (0, 0)) (by (with_reducible repeat (first | refine bN ?_ _ | refine bD ?_ | refine bA ?_ _)); exact BK479.out) hb)
               have n1_ := aM (bB (g := gb481) (o := .cells #[.int .i64 ((rd_T48 l0_1 x16_2).f0), .int .i64 ((rd_T48 l0_1 x16_2).f1), .int .i64 ((rd_T48 l0_1 x16_2).f2)] 48 (0, 0)) (by (with_reducible repeat (first | refine bN ?_ _ | refine bD ?_ | refine bA ?_ _)); exact BK481.out) hb)
               have n2_ := aM (wT (by repeat (first | (with_reducible first | exact HB.out | apply wA | apply wN_ | apply wD | refine wS ?_ GE479.out | refine wS ?_ GE481.out) | exact HB.out)) hb)
               clear BK479
               clear BK481
               clear HB
               have BK479 := n0_
               have BK481 := n1_
               have HB := n2_
               clear n0_ n1_ n2_
               (try clear hb)
               (try clear hb2)
               (try clear hk)
               (try clear hi)
               refine hK.out _ _ ⟨(bC BK481.out 0).trans rfl, (bC BK481.out 1).trans rfl, (bC BK481.out 2).trans rfl, (bC BK479.out 0).trans rfl, (bC BK479.out 1).trans rfl, ((HB.out.cell (wL w _ hw483_0)).trans hw483_0), ((HB.out.cell (wL w _ hw483_1)).trans hw483_1), ((HB.out.cell (wL w _ hw483_2)).trans hw483_2)⟩ (fun hHeld => ?_)
               clear hK K
               refine norm_ (a' := ?_) ?_ ?_
               rotate_left
               ·show Act.put _ (some 24) _ = _
                simp only [Act.put, lS, lZ, lU, i64_w, i32_w]
                rfl
               refine pure_ (i := 4) (N := some 25) (v := ?_) (a' := ?_) (msk 5 31) rfl rfl (any_of HT_.out (by kernel_rfl)) (fun _ _ _ h => h) (Or.inl ⟨by rfl, ?_⟩) ?_ ?_
               rotate_left
               ·intro w'
                go_simp
                with_reducible rfl
               rotate_left
               ·simp only [Act.put, lS, lZ, lU, i64_w, i32_w]
                rfl
               refine pure_ (i := 5) (N := some 26) (v := ?_) (a' := ?_) (msk 6 30) rfl rfl (any_of HT_.out (by kernel_rfl)) (fun _ _ _ h => h) (Or.inl ⟨by rfl, ?_⟩) ?_ ?_
               rotate_left
               ·intro w'
                go_simp
                with_reducible rfl
               rotate_left
               ·simp only [Act.put, lS, lZ, lU, i64_w, i32_w]
                rfl
               refine pure_ (i := 6) (N := some 27) (v := ?_) (a' := ?_) (msk 7 29) rfl rfl (any_of HT_.out (by kernel_rfl)) (fun _ _ _ h => h) (Or.inl ⟨by rfl, ?_⟩) ?_ ?_
               rotate_left
               ·intro w'
                go_simp
                with_reducible rfl
               rotate_left
               ·simp only [Act.put, lS, lZ, lU, i64_w, i32_w]
                rfl
               refine take_ (i := 7) (N := some 28) (v := ?_) (a' := ?_) (msk 8 28) rfl rfl (take_ofW HT_.out HW_.out (by kernel_rfl)) (fun _ _ _ h => h) (Or.inl ⟨by rfl, ?_⟩) hHeld ?_ ?_
               rotate_left
               ·rintro w' ⟨s0, s1, s2, s3, s4, s5, s6, s7⟩
                go_simp
                with_reducible rfl
               rotate_left
               ·simp only [Act.put, lS, lZ, lU, i64_w, i32_w]
                rfl
               refine pure_ (i := 8) (N := some 29) (v := ?_) (a' := ?_) (msk 9 27) rfl rfl (any_of HT_.out (by kernel_rfl)) (fun _ _ _ h => h) (Or.inl ⟨by rfl, ?_⟩) ?_ ?_
               rotate_left
               ·intro w'
                go_simp
                with_reducible rfl
               rotate_left
               ·simp only [Act.put, lS, lZ, lU, i64_w, i32_w]
                rfl
               refine pure_ (i := 9) (N := some 30) (v := ?_) (a' := ?_) (msk 10 26) rfl rfl (any_of HT_.out (by kernel_rfl)) (fun _ _ _ h => h) (Or.inl ⟨by rfl, ?_⟩) ?_ ?_
               rotate_left
               ·intro w'
                go_simp
                with_reducible rfl
               rotate_left
               ·simp only [Act.put, lS, lZ, lU, i64_w, i32_w]
                rfl
               refine pure_ (i := 10) (N := some 31) (v := ?_) (a' := ?_) (msk 11 25) rfl rfl (any_of HT_.out (by kernel_rfl)) (fun _ _ _ h => h) (Or.inl ⟨by rfl, ?_⟩) ?_ ?_
               rotate_left
               ·intro w'
                go_simp
                with_reducible rfl
               rotate_left
               ·simp only [Act.put, lS, lZ, lU, i64_w, i32_w]
                rfl
               refine pure_ (i := 11) (N := some 32) (v := ?_) (a' := ?_) (msk 12 24) rfl rfl (any_of HT_.out (by kernel_rfl)) (fun _ _ _ h => h) (Or.inl ⟨by rfl, ?_⟩) ?_ ?_
               rotate_left
               ·intro w'
                go_simp
                with_reducible rfl
               rotate_left
               ·simp only [Act.put, lS, lZ, lU, i64_w, i32_w]
                rfl
               refine pure_ (i := 12) (N := some 33) (v := ?_) (a' := ?_) (msk 13 23) rfl rfl (any_of HT_.out (by kernel_rfl)) (fun _ _ _ h => h) (Or.inl ⟨by rfl, ?_⟩) ?_ ?_
               rotate_left
               ·intro w'
                go_simp
                with_reducible rfl
               rotate_left
               ·simp only [Act.put, lS, lZ, lU, i64_w, i32_w]
                rfl
               refine pure_ (i := 13) (N := some 34) (v := ?_) (a' := ?_) (msk 14 22) rfl rfl (any_of HT_.out (by kernel_rfl)) (fun _ _ _ h => h) (Or.inl ⟨by rfl, ?_⟩) ?_ ?_
               rotate_left
               ·intro w'
                go_simp
                with_reducible rfl
               rotate_left
               ·simp only [Act.put, lS, lZ, lU, i64_w, i32_w]
                rfl
               refine pure_ (i := 14) (N := some 35) (v := ?_) (a' := ?_) (msk 15 21) rfl rfl (any_of HT_.out (by kernel_rfl)) (fun _ _ _ h => h) (Or.inl ⟨by rfl, ?_⟩) ?_ ?_
               rotate_left
               ·intro w'
                go_simp
                with_reducible rfl
               rotate_left
               ·simp only [Act.put, lS, lZ, lU, i64_w, i32_w]
                rfl
               refine pure_ (i := 16) (N := some 37) (v := ?_) (a' := ?_) #[tt,tt,tt,tt,tt,tt,tt,tt,tt,tt,tt,tt,tt,tt,tt,ff,tt,ff,ff,ff,ff,ff,ff,ff,ff,ff,ff,ff,ff,ff,ff,ff,ff,ff,ff,ff] rfl rfl (any_of HT_.out (by kernel_rfl)) (fun _ _ _ h => h) (Or.inl ⟨by rfl, ?_⟩) ?_ ?_
               rotate_left
               ·intro w'
                go_simp
                with_reducible rfl
               rotate_left
               ·simp only [Act.put, lS, lZ, lU, i64_w, i32_w]
                rfl
               refine pure_ (i := 17) (N := some 38) (v := ?_) (a' := ?_) #[tt,tt,tt,tt,tt,tt,tt,tt,tt,tt,tt,tt,tt,tt,tt,ff,tt,tt,ff,ff,ff,ff,ff,ff,ff,ff,ff,ff,ff,ff,ff,ff,ff,ff,ff,ff] rfl rfl (any_of HT_.out (by kernel_rfl)) (fun _ _ _ h => h) (Or.inl ⟨by rfl, ?_⟩) ?_ ?_
               rotate_left
               ·intro w'
                go_simp
                with_reducible rfl
               rotate_left
               ·simp only [Act.put, lS, lZ, lU, i64_w, i32_w]
                rfl
               refine pure_ (i := 21) (N := some 42) (v := ?_) (a' := ?_) #[tt,tt,tt,tt,tt,tt,tt,tt,tt,tt,tt,tt,tt,tt,tt,ff,tt,tt,ff,ff,ff,tt,ff,ff,ff,ff,ff,ff,ff,ff,ff,ff,ff,ff,ff,ff] rfl rfl (any_of HT_.out (by kernel_rfl)) (fun _ _ _ h => h) (Or.inl ⟨by rfl, ?_⟩) ?_ ?_
               rotate_left
               ·intro w'
                go_simp
                with_reducible rfl
               rotate_left
               ·simp only [Act.put, lS, lZ, lU, i64_w, i32_w]
                rfl
               refine take_ (i := 15) (N := some 36) (v := ?_) (a' := ?_) #[tt,tt,tt,tt,tt,tt,tt,tt,tt,tt,tt,tt,tt,tt,tt,tt,tt,tt,ff,ff,ff,tt,ff,ff,ff,ff,ff,ff,ff,ff,ff,ff,ff,ff,ff,ff] rfl rfl (take_ofW HT_.out HW_.out (by kernel_rfl)) (fun _ _ _ h => h) (Or.inl ⟨by rfl, ?_⟩) hHeld ?_ ?_
               rotate_left
               ·rintro w' ⟨s0, s1, s2, s3, s4, s5, s6, s7⟩
                go_simp
                with_reducible rfl
               rotate_left
               ·simp only [Act.put, lS, lZ, lU, i64_w, i32_w]
                rfl
               refine pure_ (i := 18) (N := some 39) (v := ?_) (a' := ?_) #[tt,tt,tt,tt,tt,tt,tt,tt,tt,tt,tt,tt,tt,tt,tt,tt,tt,tt,tt,ff,ff,tt,ff,ff,ff,ff,ff,ff,ff,ff,ff,ff,ff,ff,ff,ff] rfl rfl (any_of HT_.out (by kernel_rfl)) (fun _ _ _ h => h) (Or.inl ⟨by rfl, ?_⟩) ?_ ?_
               rotate_left
               ·intro w'
                go_simp
                with_reducible rfl
               rotate_left
               ·simp only [Act.put, lS, lZ, lU, i64_w, i32_w]
                rfl
               refine pure_ (i := 19) (N := some 40) (v := ?_) (a' := ?_) #[tt,tt,tt,tt,tt,tt,tt,tt,tt,tt,tt,tt,tt,tt,tt,tt,tt,tt,tt,tt,ff,tt,ff,ff,ff,ff,ff,ff,ff,ff,ff,ff,ff,ff,ff,ff] rfl rfl (any_of HT_.out (by kernel_rfl)) (fun _ _ _ h => h) (Or.inl ⟨by rfl, ?_⟩) ?_ ?_
               rotate_left
               ·intro w'
                go_simp
                with_reducible rfl
               rotate_left
               ·simp only [Act.put, lS, lZ, lU, i64_w, i32_w]
                rfl
               refine take_ (i := 20) (N := some 41) (v := ?_) (a' := ?_) (msk 22 14) rfl rfl (take_ofW HT_.out HW_.out (by kernel_rfl)) (fun _ _ _ h => h) (Or.inl ⟨by rfl, ?_⟩) hHeld ?_ ?_
               rotate_left
               ·rintro w' ⟨s0, s1, s2, s3, s4, s5, s6, s7⟩
                go_simp
                with_reducible rfl
               rotate_left
               ·simp only [Act.put, lS, lZ, lU, i64_w, i32_w]
                rfl
               refine take_ (i := 22) (N := some 43) (v := ?_) (a' := ?_) (msk 23 13) rfl rfl (take_ofW HT_.out HW_.out (by kernel_rfl)) (fun _ _ _ h => h) (Or.inl ⟨by rfl, ?_⟩) hHeld ?_ ?_
               rotate_left
               ·rintro w' ⟨s0, s1, s2, s3, s4, s5, s6, s7⟩
                go_simp
                with_reducible rfl
               rotate_left
               ·simp only [Act.put, lS, lZ, lU, i64_w, i32_w]
                rfl
               refine pure_ (i := 23) (N := some 44) (v := ?_) (a' := ?_) (msk 24 12) rfl rfl (any_of HT_.out (by kernel_rfl)) (fun _ _ _ h => h) (Or.inl ⟨by rfl, ?_⟩) ?_ ?_
               rotate_left
               ·intro w'
                go_simp
                with_reducible rfl
               rotate_left
               ·simp only [Act.put, lS, lZ, lU, i64_w, i32_w]
                rfl
               refine pure_ (i := 24) (N := some 45) (v := ?_) (a' := ?_) (msk 25 11) rfl rfl (any_of HT_.out (by kernel_rfl)) (fun _ _ _ h => h) (Or.inl ⟨by rfl, ?_⟩) ?_ ?_
               rotate_left
               ·intro w'
                go_simp
                with_reducible rfl
               rotate_left
               ·simp only [Act.put, lS, lZ, lU, i64_w, i32_w]
                rfl
               refine pure_ (i := 25) (N := some 46) (v := undef) (a' := ?_) (msk 26 10) rfl rfl (any_of HT_.out (by kernel_rfl)) (fun _ _ _ h => h) (Or.inr ⟨by rfl, rfl⟩) ?_ ?_
               rotate_left
               ·simp only [Act.put, lS, lZ, lU, i64_w, i32_w]
                rfl
               refine pure_ (i := 26) (N := some 47) (v := undef) (a' := ?_) (msk 27 9) rfl rfl (any_of HT_.out (by kernel_rfl)) (fun _ _ _ h => h) (Or.inr ⟨by rfl, rfl⟩) ?_ ?_
               rotate_left
               ·simp only [Act.put, lS, lZ, lU, i64_w, i32_w]
                rfl
               refine pure_ (i := 27) (N := some 48) (v := undef) (a' := ?_) (msk 28 8) rfl rfl (any_of HT_.out (by kernel_rfl)) (fun _ _ _ h => h) (Or.inr ⟨by rfl, rfl⟩) ?_ ?_
               rotate_left
               ·simp only [Act.put, lS, lZ, lU, i64_w, i32_w]
                rfl
               refine pure_ (i := 28) (N := some 49) (v := undef) (a' := ?_) (msk 29 7) rfl rfl (any_of HT_.out (by kernel_rfl)) (fun _ _ _ h => h) (Or.inr ⟨by rfl, rfl⟩) ?_ ?_
               rotate_left
               ·simp only [Act.put, lS, lZ, lU, i64_w, i32_w]
                rfl
               refine pure_ (i := 29) (N := some 50) (v := undef) (a' := ?_) (msk 30 6) rfl rfl (any_of HT_.out (by kernel_rfl)) (fun _ _ _ h => h) (Or.inr ⟨by rfl, rfl⟩) ?_ ?_
               rotate_left
               ·simp only [Act.put, lS, lZ, lU, i64_w, i32_w]
                rfl
               refine pure_ (i := 30) (N := some 51) (v := undef) (a' := ?_) (msk 31 5) rfl rfl (any_of HT_.out (by kernel_rfl)) (fun _ _ _ h => h) (Or.inr ⟨by rfl, rfl⟩) ?_ ?_
               rotate_left
               ·simp only [Act.put, lS, lZ, lU, i64_w, i32_w]
                rfl
               refine pure_ (i := 31) (N := some 52) (v := undef) (a' := ?_) (msk 32 4) rfl rfl (any_of HT_.out (by kernel_rfl)) (fun _ _ _ h => h) (Or.inr ⟨by rfl, rfl⟩) ?_ ?_
               rotate_left
               ·simp only [Act.put, lS, lZ, lU, i64_w, i32_w]
                rfl
               refine pure_ (i := 32) (N := some 53) (v := undef) (a' := ?_) (msk 33 3) rfl rfl (any_of HT_.out (by kernel_rfl)) (fun _ _ _ h => h) (Or.inr ⟨by rfl, rfl⟩) ?_ ?_
               rotate_left
               ·simp only [Act.put, lS, lZ, lU, i64_w, i32_w]
                rfl
               refine pure_ (i := 33) (N := some 54) (v := ?_) (a' := ?_) (msk 34 2) rfl rfl (any_of HT_.out (by kernel_rfl)) (fun _ _ _ h => h) (Or.inl ⟨by rfl, ?_⟩) ?_ ?_
               rotate_left
               ·intro w'
                go_simp
                with_reducible rfl
               rotate_left
               ·simp only [Act.put, lS, lZ, lU, i64_w, i32_w]
                rfl
               refine pure_ (i := 34) (N := some 55) (v := ?_) (a' := ?_) (msk 35 1) rfl rfl (any_of HT_.out (by kernel_rfl)) (fun _ _ _ h => h) (Or.inl ⟨by rfl, ?_⟩) ?_ ?_
               rotate_left
               ·intro w'
                go_simp
                with_reducible rfl
               rotate_left
               ·simp only [Act.put, lS, lZ, lU, i64_w, i32_w]
                rfl
               refine pure_ (i := 35) (N := some 56) (v := ?_) (a' := ?_) (msk 36 0) rfl rfl (any_of HT_.out (by kernel_rfl)) (fun _ _ _ h => h) (Or.inl ⟨by rfl, ?_⟩) ?_ ?_
               rotate_left
               ·intro w'
                go_simp
                with_reducible rfl
               rotate_left
               ·simp only [Act.put, lS, lZ, lU, i64_w, i32_w]
                rfl
               refine done_ (done_of HT_.out (by kernel_rfl)) ?_
               try go_wp2
               go_ret
               exact ⟨by first | rfl | (simp [errW_none, errW_some] <;> rfl) | (simp only [← hji22]; first | rfl | (simp [errW_none, errW_some] <;> rfl)) | (simp [*, errW_none, errW_some] <;> rfl), by repeat (first | (with_reducible first | exact HB.out | apply wA | apply wN_ | apply wD | refine wS ?_ GE479.out | refine wS ?_ GE481.out) | exact HB.out)⟩
              ·rw [if_neg c25] at H
               have c25b0 : decide (((rd_T48 l0_1 x16_2).f0) ≤ ((rd_T48 l0_1 (ji22)).f0)) = false := decide_eq_false c25
               clear c25
               replace H := Option.bind_eq_some_iff.mp H
               obtain ⟨t485, A320, H⟩ := H
               replace H : (if t485 = true then (some false) else (model_May.l0 k2 l0_1 (l0_1.length : Int) (wrap64 (x16_2 + 1)) a0_0 l0_1)) = some r := H
               have A32 := aM A320
               clear A320
               by_cases c33 : t485 = true
               ·subst c33
                have H1 : (some false) = some r := by rw [if_pos rfl] at H; exact H
                clear H
                have H := H1
                clear H1
                obtain rfl := Option.some.inj H
                have p480 : 0 ≤ (x16_2 : Int) := oD (by first | (with_reducible assumption) | assumption)
                have q480 : x16_2 < (l0_1.length : Int) := oD (by first | (with_reducible assumption) | assumption)
                obtain ⟨ad480, e480, hx480_0, hx480_1, hx480_2⟩ := at_T48 HR0_1.out x16_2 p480 q480
                cases e480
                replace hx480_0 := (HB.out.cell (wL w _ hx480_0)).trans hx480_0
                replace hx480_1 := (HB.out.cell (wL w _ hx480_1)).trans hx480_1
                replace hx480_2 := (HB.out.cell (wL w _ hx480_2)).trans hx480_2
                replace p480 := eq_true p480
                replace q480 := eq_true q480
                try go_wp2_with (first|((with_reducible refine gate_dst (N:=4) rfl ?_);refine box_event ?hg (N:=4) ?hd (cs:=#[.int .i64 0,.int .i64 0,.int .i64 0]) (t:=48) ?hr ?_;(case hd => rfl);(case hg => rfl);(case hr => first|(go_simp;done)|(go_simp;rfl));intro gb481 hg w34 hbox hb;have n0_:=aM (bB (g:=gb479) (o:=.cells #[.int .i64 a0_0,.slice (some ad480) l0_1.length c0_1] 41 (0,0)) (by (with_reducible repeat (first|refine bN ?_ _|refine bD ?_|refine bA ?_ _));exact BK479.out) hb);have n1_:=aM (wT (by repeat (first|(with_reducible first|exact HB.out|apply wA|apply wN_|apply wD|refine wS ?_ GE479.out)|exact HB.out)) hb);have n2_:=aM (hbox);have n3_:=aM ((by rw [hg];exact (wZ (by repeat (first|(with_reducible first|exact HB.out|apply wA|apply wN_|apply wD|refine wS ?_ GE479.out)|exact HB.out))) : w.heap.size ≤ gb481));have n4_:=aM ((by rw [hg];exact (wZ (by repeat (first|(with_reducible first|exact HB.out|apply wA|apply wN_|apply wD|refine wS ?_ GE479.out)|exact HB.out))) : w.heap.size ≤ gb481));have n5_:=aM ((by rw [hg];exact Nat.ne_of_lt (bL (g:=gb479) (o:=.cells #[.int .i64 a0_0,.slice (some ad480) l0_1.length c0_1] 41 (0,0)) (by (with_reducible repeat (first|refine bN ?_ _|refine bD ?_|refine bA ?_ _));exact BK479.out)) : gb479 ≠ gb481));have n6_:=aM ((by rw [hg];exact Nat.ne_of_gt (bL (g:=gb479) (o:=.cells #[.int .i64 a0_0,.slice (some ad480) l0_1.length c0_1] 41 (0,0)) (by (with_reducible repeat (first|refine bN ?_ _|refine bD ?_|refine bA ?_ _));exact BK479.out)) : gb481 ≠ gb479));clear BK479;clear HB;have BK479:=n0_;have HB:=n1_;have BK481:=n2_;have GW481:=n3_;have GE481:=n4_;have NB479_481:=n5_;have NB481_479:=n6_;clear n0_ n1_ n2_ n3_ n4_ n5_ n6_;clear hb hbox hg;have hnb35:=NB481_479.out;have hnc35:=NB479_481.out;have hcz36_0 : w34.cell? ⟨gb481,0,none⟩ = some (.int .i64 0):=(bC BK481.out 0).trans rfl;have hcz36_1 : w34.cell? ⟨gb481,1,none⟩ = some (.int .i64 0):=(bC BK481.out 1).trans rfl;have hcz36_2 : w34.cell? ⟨gb481,2,none⟩ = some (.int .i64 0):=(bC BK481.out 2).trans rfl;have hfz36_0:=bF BK481.out 0;have hfz36_1:=bF BK481.out 1;have hfz36_2:=bF BK481.out 2))
                have n0_ : Aside0 ((((w34.setCell ⟨gb481, 0, none⟩ (.int .i64 ((rd_T48 l0_1 x16_2).f0))).setCell ⟨gb481, 1, none⟩ (.int .i64 ((rd_T48 l0_1 x16_2).f1))).setCell ⟨gb481, 2, none⟩ (.int .i64 ((rd_T48 l0_1 x16_2).f2))).heap[gb479]? = some (.cells #[.int .i64 a0_0, .slice (some ad480) l0_1.length c0_1] 41 (0, 0))) := ⟨by (with_reducible repeat (first | refine bN ?_ _ | refine bD ?_ | refine bA ?_ _)); refine bR ?_ NB479_481.out _; (with_reducible repeat (first | refine bN ?_ _ | refine bD ?_ | refine bA ?_ _)); refine bR ?_ NB479_481.out _; (with_reducible repeat (first | refine bN ?_ _ | refine bD ?_ | refine bA ?_ _)); refine bR ?_ NB479_481.out _; (with_reducible repeat (first | refine bN ?_ _ | refine bD ?_ | refine bA ?_ _)); exact BK479.out⟩
                have n1_ : Aside0 ((((w34.setCell ⟨gb481, 0, none⟩ (.int .i64 ((rd_T48 l0_1 x16_2).f0))).setCell ⟨gb481, 1, none⟩ (.int .i64 ((rd_T48 l0_1 x16_2).f1))).setCell ⟨gb481, 2, none⟩ (.int .i64 ((rd_T48 l0_1 x16_2).f2))).heap[gb481]? = some (.cells #[.int .i64 ((rd_T48 l0_1 x16_2).f0), .int .i64 ((rd_T48 l0_1 x16_2).f1), .int .i64 ((rd_T48 l0_1 x16_2).f2)] 48 (0, 0))) := ⟨by (with_reducible repeat (first | refine bN ?_ _ | refine bD ?_ | refine bA ?_ _)); refine bP (cs := #[.int .i64 ((rd_T48 l0_1 x16_2).f0), .int .i64 ((rd_T48 l0_1 x16_2).f1), .int .i64 0]) ?_ 2 _ rfl; (with_reducible repeat (first | refine bN ?_ _ | refine bD ?_ | refine bA ?_ _)); refine bP (cs := #[.int .i64 ((rd_T48 l0_1 x16_2).f0), .int .i64 0, .int .i64 0]) ?_ 1 _ rfl; (with_reducible repeat (first | refine bN ?_ _ | refine bD ?_ | refine bA ?_ _)); refine bP (cs := #[.int .i64 0, .int .i64 0, .int .i64 0]) ?_ 0 _ rfl; (with_reducible repeat (first | refine bN ?_ _ | refine bD ?_ | refine bA ?_ _)); exact BK481.out⟩
                have n2_ : Aside0 (Below w.heap.size w (((w34.setCell ⟨gb481, 0, none⟩ (.int .i64 ((rd_T48 l0_1 x16_2).f0))).setCell ⟨gb481, 1, none⟩ (.int .i64 ((rd_T48 l0_1 x16_2).f1))).setCell ⟨gb481, 2, none⟩ (.int .i64 ((rd_T48 l0_1 x16_2).f2)))) := ⟨by repeat (first | (with_reducible first | exact HB.out | apply wA | apply wN_ | apply wD | refine wS ?_ GE479.out | refine wS ?_ GE481.out) | exact HB.out)⟩
                (try clear BK479)
                (try clear BK481)
                (try clear HB)
                generalize (((w34.setCell ⟨gb481, 0, none⟩ (.int .i64 ((rd_T48 l0_1 x16_2).f0))).setCell ⟨gb481, 1, none⟩ (.int .i64 ((rd_T48 l0_1 x16_2).f1))).setCell ⟨gb481, 2, none⟩ (.int .i64 ((rd_T48 l0_1 x16_2).f2))) = w37 at n0_ n1_ n2_ ⊢
                have BK479 := n0_
                have BK481 := n1_
                have HB := n2_
                clear n0_ n1_ n2_
                have n0_ := aM (bD BK479.out)
                have n1_ := aM (bD BK481.out)
                have n2_ := aM (wD HB.out)
                clear BK479
                clear BK481
                clear HB
                have BK479 := n0_
                have BK481 := n1_
                have HB := n2_
                clear n0_ n1_ n2_
                have p483 : 0 ≤ ((ji22) : Int) := oD (by first | (with_reducible assumption) | assumption)
                have q483 : (ji22) < (l0_1.length : Int) := oD (by first | (with_reducible assumption) | assumption)
                obtain ⟨ad483, e483, hx483_0, hx483_1, hx483_2⟩ := at_T48 HR0_1.out (ji22) p483 q483
                have hw483_2 := hx483_2
                have hw483_1 := hx483_1
                have hw483_0 := hx483_0
                obtain rfl : ad480 = ad483 := (by injection e483)
                replace hx483_0 := (HB.out.cell (wL w _ hx483_0)).trans hx483_0
                replace hx483_1 := (HB.out.cell (wL w _ hx483_1)).trans hx483_1
                replace hx483_2 := (HB.out.cell (wL w _ hx483_2)).trans hx483_2
                replace p483 := eq_true p483
                replace q483 := eq_true q483
                have p484 : 0 ≤ ((ji22) : Int) := oD (by first | (with_reducible assumption) | assumption)
                have q484 : (ji22) < (l0_1.length : Int) := oD (by first | (with_reducible assumption) | assumption)
                obtain ⟨ad484, e484, hx484_0, hx484_1, hx484_2⟩ := at_T48 HR0_1.out (ji22) p484 q484
                have hw484_2 := hx484_2
                have hw484_1 := hx484_1
                have hw484_0 := hx484_0
                obtain rfl : ad480 = ad484 := (by injection e484)
                replace hx484_0 := (HB.out.cell (wL w _ hx484_0)).trans hx484_0
                replace hx484_1 := (HB.out.cell (wL w _ hx484_1)).trans hx484_1
                replace hx484_2 := (HB.out.cell (wL w _ hx484_2)).trans hx484_2
                replace p484 := eq_true p484
                replace q484 := eq_true q484
                refine start_ (n := 36) (S := fun w' => w'.cell? ⟨gb481, 0, none⟩ = some (.int .i64 ((rd_T48 l0_1 x16_2).f0)) ∧ w'.cell? ⟨gb481, 1, none⟩ = some (.int .i64 ((rd_T48 l0_1 x16_2).f1)) ∧ w'.cell? ⟨gb481, 2, none⟩ = some (.int .i64 ((rd_T48 l0_1 x16_2).f2)) ∧ w'.cell? ⟨gb479, 0, none⟩ = some (.int .i64 a0_0) ∧ w'.cell? ⟨gb479, 1, none⟩ = some (.slice (some ad480) l0_1.length c0_1) ∧ w'.cell? (ad480.add (((ji22)).toNat * 3)) = some (.int .i64 ((rd_T48 l0_1 (ji22)).f0)) ∧ w'.cell? ⟨(ad480.add (((ji22)).toNat * 3)).block, (ad480.add (((ji22)).toNat * 3)).off + 1, none⟩ = some (.int .i64 ((rd_T48 l0_1 (ji22)).f1)) ∧ w'.cell? ⟨(ad480.add (((ji22)).toNat * 3)).block, (ad480.add (((ji22)).toNat * 3)).off + 2, none⟩ = some (.int .i64 ((rd_T48 l0_1 (ji22)).f2)) ∧ w'.cell? (ad480.add (((ji22)).toNat * 3)) = some (.int .i64 ((rd_T48 l0_1 (ji22)).f0)) ∧ w'.cell? ⟨(ad480.add (((ji22)).toNat * 3)).block, (ad480.add (((ji22)).toNat * 3)).off + 1, none⟩ = some (.int .i64 ((rd_T48 l0_1 (ji22)).f1)) ∧ w'.cell? ⟨(ad480.add (((ji22)).toNat * 3)).block, (ad480.add (((ji22)).toNat * 3)).off + 2, none⟩ = some (.int .i64 ((rd_T48 l0_1 (ji22)).f2))) (ds := []) (msk 0 36) (by kernel_rfl) rfl rfl ⟨(bC BK481.out 0).trans rfl, (bC BK481.out 1).trans rfl, (bC BK481.out 2).trans rfl, (bC BK479.out 0).trans rfl, (bC BK479.out 1).trans rfl, ((HB.out.cell (wL w _ hw483_0)).trans hw483_0), ((HB.out.cell (wL w _ hw483_1)).trans hw483_1), ((HB.out.cell (wL w _ hw483_2)).trans hw483_2), ((HB.out.cell (wL w _ hw484_0)).trans hw484_0), ((HB.out.cell (wL w _ hw484_1)).trans hw484_1), ((HB.out.cell (wL w _ hw484_2)).trans hw484_2)⟩ (fun hHeld => ?_); refine with_tabW model_May.tab6 model_May.bits6 (fun HT_ HW_ => ?_)
                generalize w37.drew = w38 at BK479 BK481 HB hx483_0 hx483_1 hx483_2 hx484_0 hx484_1 hx484_2 hHeld ⊢
                refine pure_ (i := 1) (N := some 22) (v := ?_) (a' := ?_) #[ff,tt,ff,ff,ff,ff,ff,ff,ff,ff,ff,ff,ff,ff,ff,ff,ff,ff,ff,ff,ff,ff,ff,ff,ff,ff,ff,ff,ff,ff,ff,ff,ff,ff,ff,ff] rfl rfl (any_of HT_.out (by kernel_rfl)) (fun _ _ _ h => h) (Or.inl ⟨by rfl, ?_⟩) ?_ ?_
                rotate_left
                ·intro w'
                 go_simp
                 with_reducible rfl
                rotate_left
                ·simp only [Act.put, lS, lZ, lU, i64_w, i32_w]
                 rfl
                refine take_ (i := 0) (N := some 21) (v := ?_) (a' := ?_) (msk 2 34) rfl rfl (take_ofW HT_.out HW_.out (by kernel_rfl)) (fun _ _ _ h => h) (Or.inl ⟨by rfl, ?_⟩) hHeld ?_ ?_
                rotate_left
                ·rintro w' ⟨s0, s1, s2, s3, s4, s5, s6, s7, s8, s9, s10⟩
                 go_simp
                 with_reducible rfl
                rotate_left
                ·simp only [Act.put, lS, lZ, lU, i64_w, i32_w]
                 rfl
                refine take_ (i := 2) (N := some 23) (v := ?_) (a' := ?_) (msk 3 33) rfl rfl (take_ofW HT_.out HW_.out (by kernel_rfl)) (fun _ _ _ h => h) (Or.inl ⟨by rfl, ?_⟩) hHeld ?_ ?_
                rotate_left
                ·rintro w' ⟨s0, s1, s2, s3, s4, s5, s6, s7, s8, s9, s10⟩
                 go_simp
                 with_reducible rfl
                rotate_left
                ·simp only [Act.put, lS, lZ, lU, i64_w, i32_w]
                 rfl
                refine one_ (i := 3) (N := some 24) (msk 4 32) rfl rfl (one_of HT_.out (by kernel_rfl)) (by decide) (fun K hK => ?_)
                refine goes_ Try.func52 (by kernel_rfl) rfl #[.agg #[.int .i64 ((rd_T48 l0_1 x16_2).f0), .int .i64 ((rd_T48 l0_1 x16_2).f1), .int .i64 ((rd_T48 l0_1 x16_2).f2)], .int .i64 a0_0] (by rfl) rfl rfl (by (try simp only [lM, lC, lN]); first | done | rfl | (simp only [lD, lT]; rfl)) ?_
                with_reducible refine (model_lies.calls ((rd_T48 l0_1 x16_2).f0) ((rd_T48 l0_1 x16_2).f1) ((rd_T48 l0_1 x16_2).f2) a0_0 true _ A12.out).mono ?_
                rintro e w39 ⟨rfl, hb⟩
                refine ⟨_, rfl, ?_⟩
                have n0_ := aM (bB (g := gb479) (o := .cells #[.int .i64 a0_0, .slice (some ad480) l0_1.length c0_1] 41 (0, 0)) (by (with_reducible repeat (first | refine bN ?_ _ | refine bD ?_ | refine bA ?_ _)); exact BK479.out) hb)
                have n1_ := aM (bB (g := gb481) (o := .cells #[.int .i64 ((rd_T48 l0_1 x16_2).f0), .int .i64 ((rd_T48 l0_1 x16_2).f1), .int .i64 ((rd_T48 l0_1 x16_2).f2)] 48 (0, 0)) (by (with_reducible repeat (first | refine bN ?_ _ | refine bD ?_ | refine bA ?_ _)); exact BK481.out) hb)
                have n2_ := aM (wT (by repeat (first | (with_reducible first | exact HB.out | apply wA | apply wN_ | apply wD | refine wS ?_ GE479.out | refine wS ?_ GE481.out) | exact HB.out)) hb)
                clear BK479
                clear BK481
                clear HB
                have BK479 := n0_
                have BK481 := n1_
                have HB := n2_
                clear n0_ n1_ n2_
                (try clear hb)
                (try clear hb2)
                (try clear hk)
                (try clear hi)
                refine hK.out _ _ ⟨(bC BK481.out 0).trans rfl, (bC BK481.out 1).trans rfl, (bC BK481.out 2).trans rfl, (bC BK479.out 0).trans rfl, (bC BK479.out 1).trans rfl, ((HB.out.cell (wL w _ hw483_0)).trans hw483_0), ((HB.out.cell (wL w _ hw483_1)).trans hw483_1), ((HB.out.cell (wL w _ hw483_2)).trans hw483_2), ((HB.out.cell (wL w _ hw484_0)).trans hw484_0), ((HB.out.cell (wL w _ hw484_1)).trans hw484_1), ((HB.out.cell (wL w _ hw484_2)).trans hw484_2)⟩ (fun hHeld => ?_)
                clear hK K
                refine norm_ (a' := ?_) ?_ ?_
                rotate_left
                ·show Act.put _ (some 24) _ = _
                 simp only [Act.put, lS, lZ, lU, i64_w, i32_w]
                 rfl
                refine pure_ (i := 4) (N := some 25) (v := ?_) (a' := ?_) (msk 5 31) rfl rfl (any_of HT_.out (by kernel_rfl)) (fun _ _ _ h => h) (Or.inl ⟨by rfl, ?_⟩) ?_ ?_
                rotate_left
                ·intro w'
                 go_simp
                 with_reducible rfl
                rotate_left
                ·simp only [Act.put, lS, lZ, lU, i64_w, i32_w]
                 rfl
                refine pure_ (i := 5) (N := some 26) (v := ?_) (a' := ?_) (msk 6 30) rfl rfl (any_of HT_.out (by kernel_rfl)) (fun _ _ _ h => h) (Or.inl ⟨by rfl, ?_⟩) ?_ ?_
                rotate_left
                ·intro w'
                 go_simp
                 with_reducible rfl
                rotate_left
                ·simp only [Act.put, lS, lZ, lU, i64_w, i32_w]
                 rfl
                refine pure_ (i := 6) (N := some 27) (v := ?_) (a' := ?_) (msk 7 29) rfl rfl (any_of HT_.out (by kernel_rfl)) (fun _ _ _ h => h) (Or.inl ⟨by rfl, ?_⟩) ?_ ?_
                rotate_left
                ·intro w'
                 go_simp
                 with_reducible rfl
                rotate_left
                ·simp only [Act.put, lS, lZ, lU, i64_w, i32_w]
                 rfl
                refine take_ (i := 7) (N := some 28) (v := ?_) (a' := ?_) (msk 8 28) rfl rfl (take_ofW HT_.out HW_.out (by kernel_rfl)) (fun _ _ _ h => h) (Or.inl ⟨by rfl, ?_⟩) hHeld ?_ ?_
                rotate_left
                ·rintro w' ⟨s0, s1, s2, s3, s4, s5, s6, s7, s8, s9, s10⟩
                 go_simp
                 with_reducible rfl
                rotate_left
                ·simp only [Act.put, lS, lZ, lU, i64_w, i32_w]
                 rfl
                refine pure_ (i := 8) (N := some 29) (v := ?_) (a' := ?_) (msk 9 27) rfl rfl (any_of HT_.out (by kernel_rfl)) (fun _ _ _ h => h) (Or.inl ⟨by rfl, ?_⟩) ?_ ?_
                rotate_left
                ·intro w'
                 go_simp
                 with_reducible rfl
                rotate_left
                ·simp only [Act.put, lS, lZ, lU, i64_w, i32_w]
                 rfl
                refine pure_ (i := 9) (N := some 30) (v := ?_) (a' := ?_) (msk 10 26) rfl rfl (any_of HT_.out (by kernel_rfl)) (fun _ _ _ h => h) (Or.inl ⟨by rfl, ?_⟩) ?_ ?_
                rotate_left
                ·intro w'
                 go_simp
                 with_reducible rfl
                rotate_left
                ·simp only [Act.put, lS, lZ, lU, i64_w, i32_w]
                 rfl
                refine pure_ (i := 10) (N := some 31) (v := ?_) (a' := ?_) (msk 11 25) rfl rfl (any_of HT_.out (by kernel_rfl)) (fun _ _ _ h => h) (Or.inl ⟨by rfl, ?_⟩) ?_ ?_
                rotate_left
                ·intro w'
                 go_simp
                 with_reducible rfl
                rotate_left
                ·simp only [Act.put, lS, lZ, lU, i64_w, i32_w]
                 rfl
                refine pure_ (i := 11) (N := some 32) (v := ?_) (a' := ?_) (msk 12 24) rfl rfl (any_of HT_.out (by kernel_rfl)) (fun _ _ _ h => h) (Or.inl ⟨by rfl, ?_⟩) ?_ ?_
                rotate_left
                ·intro w'
                 go_simp
                 with_reducible rfl
                rotate_left
                ·simp only [Act.put, lS, lZ, lU, i64_w, i32_w]
                 rfl
                refine pure_ (i := 12) (N := some 33) (v := ?_) (a' := ?_) (msk 13 23) rfl rfl (any_of HT_.out (by kernel_rfl)) (fun _ _ _ h => h) (Or.inl ⟨by rfl, ?_⟩) ?_ ?_
                rotate_left
                ·intro w'
                 go_simp
                 with_reducible rfl
                rotate_left
                ·simp only [Act.put, lS, lZ, lU, i64_w, i32_w]
                 rfl
                refine pure_ (i := 13) (N := some 34) (v := ?_) (a' := ?_) (msk 14 22) rfl rfl (any_of HT_.out (by kernel_rfl)) (fun _ _ _ h => h) (Or.inl ⟨by rfl, ?_⟩) ?_ ?_
                rotate_left
                ·intro w'
                 go_simp
                 with_reducible rfl
                rotate_left
                ·simp only [Act.put, lS, lZ, lU, i64_w, i32_w]
                 rfl
                refine pure_ (i := 14) (N := some 35) (v := ?_) (a' := ?_) (msk 15 21) rfl rfl (any_of HT_.out (by kernel_rfl)) (fun _ _ _ h => h) (Or.inl ⟨by rfl, ?_⟩) ?_ ?_
                rotate_left
                ·intro w'
                 go_simp
                 with_reducible rfl
                rotate_left
                ·simp only [Act.put, lS, lZ, lU, i64_w, i32_w]
                 rfl
                refine pure_ (i := 16) (N := some 37) (v := ?_) (a' := ?_) #[tt,tt,tt,tt,tt,tt,tt,tt,tt,tt,tt,tt,tt,tt,tt,ff,tt,ff,ff,ff,ff,ff,ff,ff,ff,ff,ff,ff,ff,ff,ff,ff,ff,ff,ff,ff] rfl rfl (any_of HT_.out (by kernel_rfl)) (fun _ _ _ h => h) (Or.inl ⟨by rfl, ?_⟩) ?_ ?_
                rotate_left
                ·intro w'
                 go_simp
                 with_reducible rfl
                rotate_left
                ·simp only [Act.put, lS, lZ, lU, i64_w, i32_w]
                 rfl
                refine pure_ (i := 17) (N := some 38) (v := ?_) (a' := ?_) #[tt,tt,tt,tt,tt,tt,tt,tt,tt,tt,tt,tt,tt,tt,tt,ff,tt,tt,ff,ff,ff,ff,ff,ff,ff,ff,ff,ff,ff,ff,ff,ff,ff,ff,ff,ff] rfl rfl (any_of HT_.out (by kernel_rfl)) (fun _ _ _ h => h) (Or.inl ⟨by rfl, ?_⟩) ?_ ?_
                rotate_left
                ·intro w'
                 go_simp
                 with_reducible rfl
                rotate_left
                ·simp only [Act.put, lS, lZ, lU, i64_w, i32_w]
                 rfl
                refine pure_ (i := 21) (N := some 42) (v := ?_) (a' := ?_) #[tt,tt,tt,tt,tt,tt,tt,tt,tt,tt,tt,tt,tt,tt,tt,ff,tt,tt,ff,ff,ff,tt,ff,ff,ff,ff,ff,ff,ff,ff,ff,ff,ff,ff,ff,ff] rfl rfl (any_of HT_.out (by kernel_rfl)) (fun _ _ _ h => h) (Or.inl ⟨by rfl, ?_⟩) ?_ ?_
                rotate_left
                ·intro w'
                 go_simp
                 with_reducible rfl
                rotate_left
                ·simp only [Act.put, lS, lZ, lU, i64_w, i32_w]
                 rfl
                refine take_ (i := 15) (N := some 36) (v := ?_) (a' := ?_) #[tt,tt,tt,tt,tt,tt,tt,tt,tt,tt,tt,tt,tt,tt,tt,tt,tt,tt,ff,ff,ff,tt,ff,ff,ff,ff,ff,ff,ff,ff,ff,ff,ff,ff,ff,ff] rfl rfl (take_ofW HT_.out HW_.out (by kernel_rfl)) (fun _ _ _ h => h) (Or.inl ⟨by rfl, ?_⟩) hHeld ?_ ?_
                rotate_left
                ·rintro w' ⟨s0, s1, s2, s3, s4, s5, s6, s7, s8, s9, s10⟩
                 go_simp
                 with_reducible rfl
                rotate_left
                ·simp only [Act.put, lS, lZ, lU, i64_w, i32_w]
                 rfl
                refine pure_ (i := 18) (N := some 39) (v := ?_) (a' := ?_) #[tt,tt,tt,tt,tt,tt,tt,tt,tt,tt,tt,tt,tt,tt,tt,tt,tt,tt,tt,ff,ff,tt,ff,ff,ff,ff,ff,ff,ff,ff,ff,ff,ff,ff,ff,ff] rfl rfl (any_of HT_.out (by kernel_rfl)) (fun _ _ _ h => h) (Or.inl ⟨by rfl, ?_⟩) ?_ ?_
                rotate_left
                ·intro w'
                 go_simp
                 with_reducible rfl
                rotate_left
                ·simp only [Act.put, lS, lZ, lU, i64_w, i32_w]
                 rfl
                refine pure_ (i := 19) (N := some 40) (v := ?_) (a' := ?_) #[tt,tt,tt,tt,tt,tt,tt,tt,tt,tt,tt,tt,tt,tt,tt,tt,tt,tt,tt,tt,ff,tt,ff,ff,ff,ff,ff,ff,ff,ff,ff,ff,ff,ff,ff,ff] rfl rfl (any_of HT_.out (by kernel_rfl)) (fun _ _ _ h => h) (Or.inl ⟨by rfl, ?_⟩) ?_ ?_
                rotate_left
                ·intro w'
                 go_simp
                 with_reducible rfl
                rotate_left
                ·simp only [Act.put, lS, lZ, lU, i64_w, i32_w]
                 rfl
                refine take_ (i := 20) (N := some 41) (v := ?_) (a' := ?_) (msk 22 14) rfl rfl (take_ofW HT_.out HW_.out (by kernel_rfl)) (fun _ _ _ h => h) (Or.inl ⟨by rfl, ?_⟩) hHeld ?_ ?_
                rotate_left
                ·rintro w' ⟨s0, s1, s2, s3, s4, s5, s6, s7, s8, s9, s10⟩
                 go_simp
                 with_reducible rfl
                rotate_left
                ·simp only [Act.put, lS, lZ, lU, i64_w, i32_w]
                 rfl
                refine take_ (i := 22) (N := some 43) (v := ?_) (a' := ?_) (msk 23 13) rfl rfl (take_ofW HT_.out HW_.out (by kernel_rfl)) (fun _ _ _ h => h) (Or.inl ⟨by rfl, ?_⟩) hHeld ?_ ?_
                rotate_left
                ·rintro w' ⟨s0, s1, s2, s3, s4, s5, s6, s7, s8, s9, s10⟩
                 go_simp
                 with_reducible rfl
                rotate_left
                ·simp only [Act.put, lS, lZ, lU, i64_w, i32_w]
                 rfl
                refine pure_ (i := 23) (N := some 44) (v := ?_) (a' := ?_) (msk 24 12) rfl rfl (any_of HT_.out (by kernel_rfl)) (fun _ _ _ h => h) (Or.inl ⟨by rfl, ?_⟩) ?_ ?_
                rotate_left
                ·intro w'
                 go_simp
                 with_reducible rfl
                rotate_left
                ·simp only [Act.put, lS, lZ, lU, i64_w, i32_w]
                 rfl
                refine pure_ (i := 24) (N := some 45) (v := ?_) (a' := ?_) (msk 25 11) rfl rfl (any_of HT_.out (by kernel_rfl)) (fun _ _ _ h => h) (Or.inl ⟨by rfl, ?_⟩) ?_ ?_
                rotate_left
                ·intro w'
                 go_simp
                 with_reducible rfl
                rotate_left
                ·simp only [Act.put, lS, lZ, lU, i64_w, i32_w]
                 rfl
                refine pure_ (i := 25) (N := some 46) (v := ?_) (a' := ?_) (msk 26 10) rfl rfl (any_of HT_.out (by kernel_rfl)) (fun _ _ _ h => h) (Or.inl ⟨by rfl, ?_⟩) ?_ ?_
                rotate_left
                ·intro w'
                 go_simp
                 with_reducible rfl
                rotate_left
                ·simp only [Act.put, lS, lZ, lU, i64_w, i32_w]
                 rfl
                refine pure_ (i := 27) (N := some 48) (v := ?_) (a' := ?_) #[tt,tt,tt,tt,tt,tt,tt,tt,tt,tt,tt,tt,tt,tt,tt,tt,tt,tt,tt,tt,tt,tt,tt,tt,tt,tt,ff,tt,ff,ff,ff,ff,ff,ff,ff,ff] rfl rfl (any_of HT_.out (by kernel_rfl)) (fun _ _ _ h => h) (Or.inl ⟨by rfl, ?_⟩) ?_ ?_
                rotate_left
                ·intro w'
                 go_simp
                 with_reducible rfl
                rotate_left
                ·simp only [Act.put, lS, lZ, lU, i64_w, i32_w]
                 rfl
                refine pure_ (i := 28) (N := some 49) (v := ?_) (a' := ?_) #[tt,tt,tt,tt,tt,tt,tt,tt,tt,tt,tt,tt,tt,tt,tt,tt,tt,tt,tt,tt,tt,tt,tt,tt,tt,tt,ff,tt,tt,ff,ff,ff,ff,ff,ff,ff] rfl rfl (any_of HT_.out (by kernel_rfl)) (fun _ _ _ h => h) (Or.inl ⟨by rfl, ?_⟩) ?_ ?_
                rotate_left
                ·intro w'
                 go_simp
                 with_reducible rfl
                rotate_left
                ·simp only [Act.put, lS, lZ, lU, i64_w, i32_w]
                 rfl
                refine take_ (i := 26) (N := some 47) (v := ?_) (a' := ?_) (msk 29 7) rfl rfl (take_ofW HT_.out HW_.out (by kernel_rfl)) (fun _ _ _ h => h) (Or.inl ⟨by rfl, ?_⟩) hHeld ?_ ?_
                rotate_left
                ·rintro w' ⟨s0, s1, s2, s3, s4, s5, s6, s7, s8, s9, s10⟩
                 go_simp
                 with_reducible rfl
                rotate_left
                ·simp only [Act.put, lS, lZ, lU, i64_w, i32_w]
                 rfl
                refine pure_ (i := 29) (N := some 50) (v := ?_) (a' := ?_) (msk 30 6) rfl rfl (any_of HT_.out (by kernel_rfl)) (fun _ _ _ h => h) (Or.inl ⟨by rfl, ?_⟩) ?_ ?_
                rotate_left
                ·intro w'
                 go_simp
                 with_reducible rfl
                rotate_left
                ·simp only [Act.put, lS, lZ, lU, i64_w, i32_w]
                 rfl
                refine take_ (i := 30) (N := some 51) (v := ?_) (a' := ?_) (msk 31 5) rfl rfl (take_ofW HT_.out HW_.out (by kernel_rfl)) (fun _ _ _ h => h) (Or.inl ⟨by rfl, ?_⟩) hHeld ?_ ?_
                rotate_left
                ·rintro w' ⟨s0, s1, s2, s3, s4, s5, s6, s7, s8, s9, s10⟩
                 go_simp
                 with_reducible rfl
                rotate_left
                ·simp only [Act.put, lS, lZ, lU, i64_w, i32_w]
                 rfl
                refine take_ (i := 31) (N := some 52) (v := ?_) (a' := ?_) (msk 32 4) rfl rfl (take_ofW HT_.out HW_.out (by kernel_rfl)) (fun _ _ _ h => h) (Or.inl ⟨by rfl, ?_⟩) hHeld ?_ ?_
                rotate_left
                ·rintro w' ⟨s0, s1, s2, s3, s4, s5, s6, s7, s8, s9, s10⟩
                 go_simp
                 with_reducible rfl
                rotate_left
                ·simp only [Act.put, lS, lZ, lU, i64_w, i32_w]
                 rfl
                refine one_ (i := 32) (N := some 53) (msk 33 3) rfl rfl (one_of HT_.out (by kernel_rfl)) (by decide) (fun K hK => ?_)
                refine goes_ Try.func55 (by kernel_rfl) rfl #[.agg #[.int .i64 ((rd_T48 l0_1 (ji22)).f0), .int .i64 ((rd_T48 l0_1 (ji22)).f1), .int .i64 ((rd_T48 l0_1 (ji22)).f2)], .agg #[.int .i64 ((rd_T48 l0_1 x16_2).f0), .int .i64 ((rd_T48 l0_1 x16_2).f1), .int .i64 ((rd_T48 l0_1 x16_2).f2)]] (by rfl) rfl rfl (by (try simp only [lM, lC, lN]); first | done | (simp only [hji22]; rfl) | rfl | (simp only [lD, lT]; rfl)) ?_
                with_reducible refine (model_over.calls ((rd_T48 l0_1 (ji22)).f0) ((rd_T48 l0_1 (ji22)).f1) ((rd_T48 l0_1 (ji22)).f2) ((rd_T48 l0_1 x16_2).f0) ((rd_T48 l0_1 x16_2).f1) ((rd_T48 l0_1 x16_2).f2) true _ A32.out).mono ?_
                rintro e w40 ⟨rfl, hb⟩
                refine ⟨_, rfl, ?_⟩
                have n0_ := aM (bB (g := gb479) (o := .cells #[.int .i64 a0_0, .slice (some ad480) l0_1.length c0_1] 41 (0, 0)) (by (with_reducible repeat (first | refine bN ?_ _ | refine bD ?_ | refine bA ?_ _)); exact BK479.out) hb)
                have n1_ := aM (bB (g := gb481) (o := .cells #[.int .i64 ((rd_T48 l0_1 x16_2).f0), .int .i64 ((rd_T48 l0_1 x16_2).f1), .int .i64 ((rd_T48 l0_1 x16_2).f2)] 48 (0, 0)) (by (with_reducible repeat (first | refine bN ?_ _ | refine bD ?_ | refine bA ?_ _)); exact BK481.out) hb)
                have n2_ := aM (wT (by repeat (first | (with_reducible first | exact HB.out | apply wA | apply wN_ | apply wD | refine wS ?_ GE479.out | refine wS ?_ GE481.out) | exact HB.out)) hb)
                clear BK479
                clear BK481
                clear HB
                have BK479 := n0_
                have BK481 := n1_
                have HB := n2_
                clear n0_ n1_ n2_
                (try clear hb)
                (try clear hb2)
                (try clear hk)
                (try clear hi)
                refine hK.out _ _ ⟨(bC BK481.out 0).trans rfl, (bC BK481.out 1).trans rfl, (bC BK481.out 2).trans rfl, (bC BK479.out 0).trans rfl, (bC BK479.out 1).trans rfl, ((HB.out.cell (wL w _ hw483_0)).trans hw483_0), ((HB.out.cell (wL w _ hw483_1)).trans hw483_1), ((HB.out.cell (wL w _ hw483_2)).trans hw483_2), ((HB.out.cell (wL w _ hw484_0)).trans hw484_0), ((HB.out.cell (wL w _ hw484_1)).trans hw484_1), ((HB.out.cell (wL w _ hw484_2)).trans hw484_2)⟩ (fun hHeld => ?_)
                clear hK K
                refine norm_ (a' := ?_) ?_ ?_
                rotate_left
                ·show Act.put _ (some 53) _ = _
                 simp only [Act.put, lS, lZ, lU, i64_w, i32_w]
                 rfl
                refine pure_ (i := 33) (N := some 54) (v := ?_) (a' := ?_) (msk 34 2) rfl rfl (any_of HT_.out (by kernel_rfl)) (fun _ _ _ h => h) (Or.inl ⟨by rfl, ?_⟩) ?_ ?_
                rotate_left
                ·intro w'
                 go_simp
                 with_reducible rfl
                rotate_left
                ·simp only [Act.put, lS, lZ, lU, i64_w, i32_w]
                 rfl
                refine pure_ (i := 34) (N := some 55) (v := ?_) (a' := ?_) (msk 35 1) rfl rfl (any_of HT_.out (by kernel_rfl)) (fun _ _ _ h => h) (Or.inl ⟨by rfl, ?_⟩) ?_ ?_
                rotate_left
                ·intro w'
                 go_simp
                 with_reducible rfl
                rotate_left
                ·simp only [Act.put, lS, lZ, lU, i64_w, i32_w]
                 rfl
                refine pure_ (i := 35) (N := some 56) (v := ?_) (a' := ?_) (msk 36 0) rfl rfl (any_of HT_.out (by kernel_rfl)) (fun _ _ _ h => h) (Or.inl ⟨by rfl, ?_⟩) ?_ ?_
                rotate_left
                ·intro w'
                 go_simp
                 with_reducible rfl
                rotate_left
                ·simp only [Act.put, lS, lZ, lU, i64_w, i32_w]
                 rfl
                refine done_ (done_of HT_.out (by kernel_rfl)) ?_
                try go_wp2
                go_ret
                exact ⟨by first | rfl | (simp [errW_none, errW_some] <;> rfl) | (simp only [← hji22]; first | rfl | (simp [errW_none, errW_some] <;> rfl)) | (simp [*, errW_none, errW_some] <;> rfl), by repeat (first | (with_reducible first | exact HB.out | apply wA | apply wN_ | apply wD | refine wS ?_ GE479.out | refine wS ?_ GE481.out) | exact HB.out)⟩
               ·replace c33 := Bool.eq_false_iff.mpr c33
                subst c33
                have H1 : (model_May.l0 k2 l0_1 (l0_1.length : Int) (wrap64 (x16_2 + 1)) a0_0 l0_1) = some r := by rw [if_neg (show ¬ (false = true) by decide)] at H; exact H
                clear H
                have H := H1
                clear H1
                have H' := aM H
                clear H
                have p480 : 0 ≤ (x16_2 : Int) := oD (by first | (with_reducible assumption) | assumption)
                have q480 : x16_2 < (l0_1.length : Int) := oD (by first | (with_reducible assumption) | assumption)
                obtain ⟨ad480, e480, hx480_0, hx480_1, hx480_2⟩ := at_T48 HR0_1.out x16_2 p480 q480
                cases e480
                replace hx480_0 := (HB.out.cell (wL w _ hx480_0)).trans hx480_0
                replace hx480_1 := (HB.out.cell (wL w _ hx480_1)).trans hx480_1
                replace hx480_2 := (HB.out.cell (wL w _ hx480_2)).trans hx480_2
                replace p480 := eq_true p480
                replace q480 := eq_true q480
                try go_wp2_with (first|((with_reducible refine gate_dst (N:=4) rfl ?_);refine box_event ?hg (N:=4) ?hd (cs:=#[.int .i64 0,.int .i64 0,.int .i64 0]) (t:=48) ?hr ?_;(case hd => rfl);(case hg => rfl);(case hr => first|(go_simp;done)|(go_simp;rfl));intro gb481 hg w41 hbox hb;have n0_:=aM (bB (g:=gb479) (o:=.cells #[.int .i64 a0_0,.slice (some ad480) l0_1.length c0_1] 41 (0,0)) (by (with_reducible repeat (first|refine bN ?_ _|refine bD ?_|refine bA ?_ _));exact BK479.out) hb);have n1_:=aM (wT (by repeat (first|(with_reducible first|exact HB.out|apply wA|apply wN_|apply wD|refine wS ?_ GE479.out)|exact HB.out)) hb);have n2_:=aM (hbox);have n3_:=aM ((by rw [hg];exact (wZ (by repeat (first|(with_reducible first|exact HB.out|apply wA|apply wN_|apply wD|refine wS ?_ GE479.out)|exact HB.out))) : w.heap.size ≤ gb481));have n4_:=aM ((by rw [hg];exact (wZ (by repeat (first|(with_reducible first|exact HB.out|apply wA|apply wN_|apply wD|refine wS ?_ GE479.out)|exact HB.out))) : w.heap.size ≤ gb481));have n5_:=aM ((by rw [hg];exact Nat.ne_of_lt (bL (g:=gb479) (o:=.cells #[.int .i64 a0_0,.slice (some ad480) l0_1.length c0_1] 41 (0,0)) (by (with_reducible repeat (first|refine bN ?_ _|refine bD ?_|refine bA ?_ _));exact BK479.out)) : gb479 ≠ gb481));have n6_:=aM ((by rw [hg];exact Nat.ne_of_gt (bL (g:=gb479) (o:=.cells #[.int .i64 a0_0,.slice (some ad480) l0_1.length c0_1] 41 (0,0)) (by (with_reducible repeat (first|refine bN ?_ _|refine bD ?_|refine bA ?_ _));exact BK479.out)) : gb481 ≠ gb479));clear BK479;clear HB;have BK479:=n0_;have HB:=n1_;have BK481:=n2_;have GW481:=n3_;have GE481:=n4_;have NB479_481:=n5_;have NB481_479:=n6_;clear n0_ n1_ n2_ n3_ n4_ n5_ n6_;clear hb hbox hg;have hnb42:=NB481_479.out;have hnc42:=NB479_481.out;have hcz43_0 : w41.cell? ⟨gb481,0,none⟩ = some (.int .i64 0):=(bC BK481.out 0).trans rfl;have hcz43_1 : w41.cell? ⟨gb481,1,none⟩ = some (.int .i64 0):=(bC BK481.out 1).trans rfl;have hcz43_2 : w41.cell? ⟨gb481,2,none⟩ = some (.int .i64 0):=(bC BK481.out 2).trans rfl;have hfz43_0:=bF BK481.out 0;have hfz43_1:=bF BK481.out 1;have hfz43_2:=bF BK481.out 2))
                have n0_ : Aside0 ((((w41.setCell ⟨gb481, 0, none⟩ (.int .i64 ((rd_T48 l0_1 x16_2).f0))).setCell ⟨gb481, 1, none⟩ (.int .i64 ((rd_T48 l0_1 x16_2).f1))).setCell ⟨gb481, 2, none⟩ (.int .i64 ((rd_T48 l0_1 x16_2).f2))).heap[gb479]? = some (.cells #[.int .i64 a0_0, .slice (some ad480) l0_1.length c0_1] 41 (0, 0))) := ⟨by (with_reducible repeat (first | refine bN ?_ _ | refine bD ?_ | refine bA ?_ _)); refine bR ?_ NB479_481.out _; (with_reducible repeat (first | refine bN ?_ _ | refine bD ?_ | refine bA ?_ _)); refine bR ?_ NB479_481.out _; (with_reducible repeat (first | refine bN ?_ _ | refine bD ?_ | refine bA ?_ _)); refine bR ?_ NB479_481.out _; (with_reducible repeat (first | refine bN ?_ _ | refine bD ?_ | refine bA ?_ _)); exact BK479.out⟩
                have n1_ : Aside0 ((((w41.setCell ⟨gb481, 0, none⟩ (.int .i64 ((rd_T48 l0_1 x16_2).f0))).setCell ⟨gb481, 1, none⟩ (.int .i64 ((rd_T48 l0_1 x16_2).f1))).setCell ⟨gb481, 2, none⟩ (.int .i64 ((rd_T48 l0_1 x16_2).f2))).heap[gb481]? = some (.cells #[.int .i64 ((rd_T48 l0_1 x16_2).f0), .int .i64 ((rd_T48 l0_1 x16_2).f1), .int .i64 ((rd_T48 l0_1 x16_2).f2)] 48 (0, 0))) := ⟨by (with_reducible repeat (first | refine bN ?_ _ | refine bD ?_ | refine bA ?_ _)); refine bP (cs := #[.int .i64 ((rd_T48 l0_1 x16_2).f0), .int .i64 ((rd_T48 l0_1 x16_2).f1), .int .i64 0]) ?_ 2 _ rfl; (with_reducible repeat (first | refine bN ?_ _ | refine bD ?_ | refine bA ?_ _)); refine bP (cs := #[.int .i64 ((rd_T48 l0_1 x16_2).f0), .int .i64 0, .int .i64 0]) ?_ 1 _ rfl; (with_reducible repeat (first | refine bN ?_ _ | refine bD ?_ | refine bA ?_ _)); refine bP (cs := #[.int .i64 0, .int .i64 0, .int .i64 0]) ?_ 0 _ rfl; (with_reducible repeat (first | refine bN ?_ _ | refine bD ?_ | refine bA ?_ _)); exact BK481.out⟩
                have n2_ : Aside0 (Below w.heap.size w (((w41.setCell ⟨gb481, 0, none⟩ (.int .i64 ((rd_T48 l0_1 x16_2).f0))).setCell ⟨gb481, 1, none⟩ (.int .i64 ((rd_T48 l0_1 x16_2).f1))).setCell ⟨gb481, 2, none⟩ (.int .i64 ((rd_T48 l0_1 x16_2).f2)))) := ⟨by repeat (first | (with_reducible first | exact HB.out | apply wA | apply wN_ | apply wD | refine wS ?_ GE479.out | refine wS ?_ GE481.out) | exact HB.out)⟩
                (try clear BK479)
                (try clear BK481)
                (try clear HB)
                generalize (((w41.setCell ⟨gb481, 0, none⟩ (.int .i64 ((rd_T48 l0_1 x16_2).f0))).setCell ⟨gb481, 1, none⟩ (.int .i64 ((rd_T48 l0_1 x16_2).f1))).setCell ⟨gb481, 2, none⟩ (.int .i64 ((rd_T48 l0_1 x16_2).f2))) = w44 at n0_ n1_ n2_ ⊢
                have BK479 := n0_
                have BK481 := n1_
                have HB := n2_
                clear n0_ n1_ n2_
                have n0_ := aM (bD BK479.out)
                have n1_ := aM (bD BK481.out)
                have n2_ := aM (wD HB.out)
                clear BK479
                clear BK481
                clear HB
                have BK479 := n0_
                have BK481 := n1_
                have HB := n2_
                clear n0_ n1_ n2_
                have p483 : 0 ≤ ((ji22) : Int) := oD (by first | (with_reducible assumption) | assumption)
                have q483 : (ji22) < (l0_1.length : Int) := oD (by first | (with_reducible assumption) | assumption)
                obtain ⟨ad483, e483, hx483_0, hx483_1, hx483_2⟩ := at_T48 HR0_1.out (ji22) p483 q483
                have hw483_2 := hx483_2
                have hw483_1 := hx483_1
                have hw483_0 := hx483_0
                obtain rfl : ad480 = ad483 := (by injection e483)
                replace hx483_0 := (HB.out.cell (wL w _ hx483_0)).trans hx483_0
                replace hx483_1 := (HB.out.cell (wL w _ hx483_1)).trans hx483_1
                replace hx483_2 := (HB.out.cell (wL w _ hx483_2)).trans hx483_2
                replace p483 := eq_true p483
                replace q483 := eq_true q483
                have p484 : 0 ≤ ((ji22) : Int) := oD (by first | (with_reducible assumption) | assumption)
                have q484 : (ji22) < (l0_1.length : Int) := oD (by first | (with_reducible assumption) | assumption)
                obtain ⟨ad484, e484, hx484_0, hx484_1, hx484_2⟩ := at_T48 HR0_1.out (ji22) p484 q484
                have hw484_2 := hx484_2
                have hw484_1 := hx484_1
                have hw484_0 := hx484_0
                obtain rfl : ad480 = ad484 := (by injection e484)
                replace hx484_0 := (HB.out.cell (wL w _ hx484_0)).trans hx484_0
                replace hx484_1 := (HB.out.cell (wL w _ hx484_1)).trans hx484_1
                replace hx484_2 := (HB.out.cell (wL w _ hx484_2)).trans hx484_2
                replace p484 := eq_true p484
                replace q484 := eq_true q484
                refine start_ (n := 36) (S := fun w' => w'.cell? ⟨gb481, 0, none⟩ = some (.int .i64 ((rd_T48 l0_1 x16_2).f0)) ∧ w'.cell? ⟨gb481, 1, none⟩ = some (.int .i64 ((rd_T48 l0_1 x16_2).f1)) ∧ w'.cell? ⟨gb481, 2, none⟩ = some (.int .i64 ((rd_T48 l0_1 x16_2).f2)) ∧ w'.cell? ⟨gb479, 0, none⟩ = some (.int .i64 a0_0) ∧ w'.cell? ⟨gb479, 1, none⟩ = some (.slice (some ad480) l0_1.length c0_1) ∧ w'.cell? (ad480.add (((ji22)).toNat * 3)) = some (.int .i64 ((rd_T48 l0_1 (ji22)).f0)) ∧ w'.cell? ⟨(ad480.add (((ji22)).toNat * 3)).block, (ad480.add (((ji22)).toNat * 3)).off + 1, none⟩ = some (.int .i64 ((rd_T48 l0_1 (ji22)).f1)) ∧ w'.cell? ⟨(ad480.add (((ji22)).toNat * 3)).block, (ad480.add (((ji22)).toNat * 3)).off + 2, none⟩ = some (.int .i64 ((rd_T48 l0_1 (ji22)).f2)) ∧ w'.cell? (ad480.add (((ji22)).toNat * 3)) = some (.int .i64 ((rd_T48 l0_1 (ji22)).f0)) ∧ w'.cell? ⟨(ad480.add (((ji22)).toNat * 3)).block, (ad480.add (((ji22)).toNat * 3)).off + 1, none⟩ = some (.int .i64 ((rd_T48 l0_1 (ji22)).f1)) ∧ w'.cell? ⟨(ad480.add (((ji22)).toNat * 3)).block, (ad480.add (((ji22)).toNat * 3)).off + 2, none⟩ = some (.int .i64 ((rd_T48 l0_1 (ji22)).f2))) (ds := []) (msk 0 36) (by kernel_rfl) rfl rfl ⟨(bC BK481.out 0).trans rfl, (bC BK481.out 1).trans rfl, (bC BK481.out 2).trans rfl, (bC BK479.out 0).trans rfl, (bC BK479.out 1).trans rfl, ((HB.out.cell (wL w _ hw483_0)).trans hw483_0), ((HB.out.cell (wL w _ hw483_1)).trans hw483_1), ((HB.out.cell (wL w _ hw483_2)).trans hw483_2), ((HB.out.cell (wL w _ hw484_0)).trans hw484_0), ((HB.out.cell (wL w _ hw484_1)).trans hw484_1), ((HB.out.cell (wL w _ hw484_2)).trans hw484_2)⟩ (fun hHeld => ?_); refine with_tabW model_May.tab6 model_May.bits6 (fun HT_ HW_ => ?_)
                generalize w44.drew = w45 at BK479 BK481 HB hx483_0 hx483_1 hx483_2 hx484_0 hx484_1 hx484_2 hHeld ⊢
                refine pure_ (i := 1) (N := some 22) (v := ?_) (a' := ?_) #[ff,tt,ff,ff,ff,ff,ff,ff,ff,ff,ff,ff,ff,ff,ff,ff,ff,ff,ff,ff,ff,ff,ff,ff,ff,ff,ff,ff,ff,ff,ff,ff,ff,ff,ff,ff] rfl rfl (any_of HT_.out (by kernel_rfl)) (fun _ _ _ h => h) (Or.inl ⟨by rfl, ?_⟩) ?_ ?_
                rotate_left
                ·intro w'
                 go_simp
                 with_reducible rfl
                rotate_left
                ·simp only [Act.put, lS, lZ, lU, i64_w, i32_w]
                 rfl
                refine take_ (i := 0) (N := some 21) (v := ?_) (a' := ?_) (msk 2 34) rfl rfl (take_ofW HT_.out HW_.out (by kernel_rfl)) (fun _ _ _ h => h) (Or.inl ⟨by rfl, ?_⟩) hHeld ?_ ?_
                rotate_left
                ·rintro w' ⟨s0, s1, s2, s3, s4, s5, s6, s7, s8, s9, s10⟩
                 go_simp
                 with_reducible rfl
                rotate_left
                ·simp only [Act.put, lS, lZ, lU, i64_w, i32_w]
                 rfl
                refine take_ (i := 2) (N := some 23) (v := ?_) (a' := ?_) (msk 3 33) rfl rfl (take_ofW HT_.out HW_.out (by kernel_rfl)) (fun _ _ _ h => h) (Or.inl ⟨by rfl, ?_⟩) hHeld ?_ ?_
                rotate_left
                ·rintro w' ⟨s0, s1, s2, s3, s4, s5, s6, s7, s8, s9, s10⟩
                 go_simp
                 with_reducible rfl
                rotate_left
                ·simp only [Act.put, lS, lZ, lU, i64_w, i32_w]
                 rfl
                refine one_ (i := 3) (N := some 24) (msk 4 32) rfl rfl (one_of HT_.out (by kernel_rfl)) (by decide) (fun K hK => ?_)
                refine goes_ Try.func52 (by kernel_rfl) rfl #[.agg #[.int .i64 ((rd_T48 l0_1 x16_2).f0), .int .i64 ((rd_T48 l0_1 x16_2).f1), .int .i64 ((rd_T48 l0_1 x16_2).f2)], .int .i64 a0_0] (by rfl) rfl rfl (by (try simp only [lM, lC, lN]); first | done | rfl | (simp only [lD, lT]; rfl)) ?_
                with_reducible refine (model_lies.calls ((rd_T48 l0_1 x16_2).f0) ((rd_T48 l0_1 x16_2).f1) ((rd_T48 l0_1 x16_2).f2) a0_0 true _ A12.out).mono ?_
                rintro e w46 ⟨rfl, hb⟩
                refine ⟨_, rfl, ?_⟩
                have n0_ := aM (bB (g := gb479) (o := .cells #[.int .i64 a0_0, .slice (some ad480) l0_1.length c0_1] 41 (0, 0)) (by (with_reducible repeat (first | refine bN ?_ _ | refine bD ?_ | refine bA ?_ _)); exact BK479.out) hb)
                have n1_ := aM (bB (g := gb481) (o := .cells #[.int .i64 ((rd_T48 l0_1 x16_2).f0), .int .i64 ((rd_T48 l0_1 x16_2).f1), .int .i64 ((rd_T48 l0_1 x16_2).f2)] 48 (0, 0)) (by (with_reducible repeat (first | refine bN ?_ _ | refine bD ?_ | refine bA ?_ _)); exact BK481.out) hb)
                have n2_ := aM (wT (by repeat (first | (with_reducible first | exact HB.out | apply wA | apply wN_ | apply wD | refine wS ?_ GE479.out | refine wS ?_ GE481.out) | exact HB.out)) hb)
                clear BK479
                clear BK481
                clear HB
                have BK479 := n0_
                have BK481 := n1_
                have HB := n2_
                clear n0_ n1_ n2_
                (try clear hb)
                (try clear hb2)
                (try clear hk)
                (try clear hi)
                refine hK.out _ _ ⟨(bC BK481.out 0).trans rfl, (bC BK481.out 1).trans rfl, (bC BK481.out 2).trans rfl, (bC BK479.out 0).trans rfl, (bC BK479.out 1).trans rfl, ((HB.out.cell (wL w _ hw483_0)).trans hw483_0), ((HB.out.cell (wL w _ hw483_1)).trans hw483_1), ((HB.out.cell (wL w _ hw483_2)).trans hw483_2), ((HB.out.cell (wL w _ hw484_0)).trans hw484_0), ((HB.out.cell (wL w _ hw484_1)).trans hw484_1), ((HB.out.cell (wL w _ hw484_2)).trans hw484_2)⟩ (fun hHeld => ?_)
                clear hK K
                refine norm_ (a' := ?_) ?_ ?_
                rotate_left
                ·show Act.put _ (some 24) _ = _
                 simp only [Act.put, lS, lZ, lU, i64_w, i32_w]
                 rfl
                refine pure_ (i := 4) (N := some 25) (v := ?_) (a' := ?_) (msk 5 31) rfl rfl (any_of HT_.out (by kernel_rfl)) (fun _ _ _ h => h) (Or.inl ⟨by rfl, ?_⟩) ?_ ?_
                rotate_left
                ·intro w'
                 go_simp
                 with_reducible rfl
                rotate_left
                ·simp only [Act.put, lS, lZ, lU, i64_w, i32_w]
                 rfl
                refine pure_ (i := 5) (N := some 26) (v := ?_) (a' := ?_) (msk 6 30) rfl rfl (any_of HT_.out (by kernel_rfl)) (fun _ _ _ h => h) (Or.inl ⟨by rfl, ?_⟩) ?_ ?_
                rotate_left
                ·intro w'
                 go_simp
                 with_reducible rfl
                rotate_left
                ·simp only [Act.put, lS, lZ, lU, i64_w, i32_w]
                 rfl
                refine pure_ (i := 6) (N := some 27) (v := ?_) (a' := ?_) (msk 7 29) rfl rfl (any_of HT_.out (by kernel_rfl)) (fun _ _ _ h => h) (Or.inl ⟨by rfl, ?_⟩) ?_ ?_
                rotate_left
                ·intro w'
                 go_simp
                 with_reducible rfl
                rotate_left
                ·simp only [Act.put, lS, lZ, lU, i64_w, i32_w]
                 rfl
                refine take_ (i := 7) (N := some 28) (v := ?_) (a' := ?_) (msk 8 28) rfl rfl (take_ofW HT_.out HW_.out (by kernel_rfl)) (fun _ _ _ h => h) (Or.inl ⟨by rfl, ?_⟩) hHeld ?_ ?_
                rotate_left
                ·rintro w' ⟨s0, s1, s2, s3, s4, s5, s6, s7, s8, s9, s10⟩
                 go_simp
                 with_reducible rfl
                rotate_left
                ·simp only [Act.put, lS, lZ, lU, i64_w, i32_w]
                 rfl
                refine pure_ (i := 8) (N := some 29) (v := ?_) (a' := ?_) (msk 9 27) rfl rfl (any_of HT_.out (by kernel_rfl)) (fun _ _ _ h => h) (Or.inl ⟨by rfl, ?_⟩) ?_ ?_
                rotate_left
                ·intro w'
                 go_simp
                 with_reducible rfl
                rotate_left
                ·simp only [Act.put, lS, lZ, lU, i64_w, i32_w]
                 rfl
                refine pure_ (i := 9) (N := some 30) (v := ?_) (a' := ?_) (msk 10 26) rfl rfl (any_of HT_.out (by kernel_rfl)) (fun _ _ _ h => h) (Or.inl ⟨by rfl, ?_⟩) ?_ ?_
                rotate_left
                ·intro w'
                 go_simp
                 with_reducible rfl
                rotate_left
                ·simp only [Act.put, lS, lZ, lU, i64_w, i32_w]
                 rfl
                refine pure_ (i := 10) (N := some 31) (v := ?_) (a' := ?_) (msk 11 25) rfl rfl (any_of HT_.out (by kernel_rfl)) (fun _ _ _ h => h) (Or.inl ⟨by rfl, ?_⟩) ?_ ?_
                rotate_left
                ·intro w'
                 go_simp
                 with_reducible rfl
                rotate_left
                ·simp only [Act.put, lS, lZ, lU, i64_w, i32_w]
                 rfl
                refine pure_ (i := 11) (N := some 32) (v := ?_) (a' := ?_) (msk 12 24) rfl rfl (any_of HT_.out (by kernel_rfl)) (fun _ _ _ h => h) (Or.inl ⟨by rfl, ?_⟩) ?_ ?_
                rotate_left
                ·intro w'
                 go_simp
                 with_reducible rfl
                rotate_left
                ·simp only [Act.put, lS, lZ, lU, i64_w, i32_w]
                 rfl
                refine pure_ (i := 12) (N := some 33) (v := ?_) (a' := ?_) (msk 13 23) rfl rfl (any_of HT_.out (by kernel_rfl)) (fun _ _ _ h => h) (Or.inl ⟨by rfl, ?_⟩) ?_ ?_
                rotate_left
                ·intro w'
                 go_simp
                 with_reducible rfl
                rotate_left
                ·simp only [Act.put, lS, lZ, lU, i64_w, i32_w]
                 rfl
                refine pure_ (i := 13) (N := some 34) (v := ?_) (a' := ?_) (msk 14 22) rfl rfl (any_of HT_.out (by kernel_rfl)) (fun _ _ _ h => h) (Or.inl ⟨by rfl, ?_⟩) ?_ ?_
                rotate_left
                ·intro w'
                 go_simp
                 with_reducible rfl
                rotate_left
                ·simp only [Act.put, lS, lZ, lU, i64_w, i32_w]
                 rfl
                refine pure_ (i := 14) (N := some 35) (v := ?_) (a' := ?_) (msk 15 21) rfl rfl (any_of HT_.out (by kernel_rfl)) (fun _ _ _ h => h) (Or.inl ⟨by rfl, ?_⟩) ?_ ?_
                rotate_left
                ·intro w'
                 go_simp
                 with_reducible rfl
                rotate_left
                ·simp only [Act.put, lS, lZ, lU, i64_w, i32_w]
                 rfl
                refine pure_ (i := 16) (N := some 37) (v := ?_) (a' := ?_) #[tt,tt,tt,tt,tt,tt,tt,tt,tt,tt,tt,tt,tt,tt,tt,ff,tt,ff,ff,ff,ff,ff,ff,ff,ff,ff,ff,ff,ff,ff,ff,ff,ff,ff,ff,ff] rfl rfl (any_of HT_.out (by kernel_rfl)) (fun _ _ _ h => h) (Or.inl ⟨by rfl, ?_⟩) ?_ ?_
                rotate_left
                ·intro w'
                 go_simp
                 with_reducible rfl
                rotate_left
                ·simp only [Act.put, lS, lZ, lU, i64_w, i32_w]
                 rfl
                refine pure_ (i := 17) (N := some 38) (v := ?_) (a' := ?_) #[tt,tt,tt,tt,tt,tt,tt,tt,tt,tt,tt,tt,tt,tt,tt,ff,tt,tt,ff,ff,ff,ff,ff,ff,ff,ff,ff,ff,ff,ff,ff,ff,ff,ff,ff,ff] rfl rfl (any_of HT_.out (by kernel_rfl)) (fun _ _ _ h => h) (Or.inl ⟨by rfl, ?_⟩) ?_ ?_
                rotate_left
                ·intro w'
                 go_simp
                 with_reducible rfl
                rotate_left
                ·simp only [Act.put, lS, lZ, lU, i64_w, i32_w]
                 rfl
                refine pure_ (i := 21) (N := some 42) (v := ?_) (a' := ?_) #[tt,tt,tt,tt,tt,tt,tt,tt,tt,tt,tt,tt,tt,tt,tt,ff,tt,tt,ff,ff,ff,tt,ff,ff,ff,ff,ff,ff,ff,ff,ff,ff,ff,ff,ff,ff] rfl rfl (any_of HT_.out (by kernel_rfl)) (fun _ _ _ h => h) (Or.inl ⟨by rfl, ?_⟩) ?_ ?_
                rotate_left
                ·intro w'
                 go_simp
                 with_reducible rfl
                rotate_left
                ·simp only [Act.put, lS, lZ, lU, i64_w, i32_w]
                 rfl
                refine take_ (i := 15) (N := some 36) (v := ?_) (a' := ?_) #[tt,tt,tt,tt,tt,tt,tt,tt,tt,tt,tt,tt,tt,tt,tt,tt,tt,tt,ff,ff,ff,tt,ff,ff,ff,ff,ff,ff,ff,ff,ff,ff,ff,ff,ff,ff] rfl rfl (take_ofW HT_.out HW_.out (by kernel_rfl)) (fun _ _ _ h => h) (Or.inl ⟨by rfl, ?_⟩) hHeld ?_ ?_
                rotate_left
                ·rintro w' ⟨s0, s1, s2, s3, s4, s5, s6, s7, s8, s9, s10⟩
                 go_simp
                 with_reducible rfl
                rotate_left
                ·simp only [Act.put, lS, lZ, lU, i64_w, i32_w]
                 rfl
                refine pure_ (i := 18) (N := some 39) (v := ?_) (a' := ?_) #[tt,tt,tt,tt,tt,tt,tt,tt,tt,tt,tt,tt,tt,tt,tt,tt,tt,tt,tt,ff,ff,tt,ff,ff,ff,ff,ff,ff,ff,ff,ff,ff,ff,ff,ff,ff] rfl rfl (any_of HT_.out (by kernel_rfl)) (fun _ _ _ h => h) (Or.inl ⟨by rfl, ?_⟩) ?_ ?_
                rotate_left
                ·intro w'
                 go_simp
                 with_reducible rfl
                rotate_left
                ·simp only [Act.put, lS, lZ, lU, i64_w, i32_w]
                 rfl
                refine pure_ (i := 19) (N := some 40) (v := ?_) (a' := ?_) #[tt,tt,tt,tt,tt,tt,tt,tt,tt,tt,tt,tt,tt,tt,tt,tt,tt,tt,tt,tt,ff,tt,ff,ff,ff,ff,ff,ff,ff,ff,ff,ff,ff,ff,ff,ff] rfl rfl (any_of HT_.out (by kernel_rfl)) (fun _ _ _ h => h) (Or.inl ⟨by rfl, ?_⟩) ?_ ?_
                rotate_left
                ·intro w'
                 go_simp
                 with_reducible rfl
                rotate_left
                ·simp only [Act.put, lS, lZ, lU, i64_w, i32_w]
                 rfl
                refine take_ (i := 20) (N := some 41) (v := ?_) (a' := ?_) (msk 22 14) rfl rfl (take_ofW HT_.out HW_.out (by kernel_rfl)) (fun _ _ _ h => h) (Or.inl ⟨by rfl, ?_⟩) hHeld ?_ ?_
                rotate_left
                ·rintro w' ⟨s0, s1, s2, s3, s4, s5, s6, s7, s8, s9, s10⟩
                 go_simp
                 with_reducible rfl
                rotate_left
                ·simp only [Act.put, lS, lZ, lU, i64_w, i32_w]
                 rfl
                refine take_ (i := 22) (N := some 43) (v := ?_) (a' := ?_) (msk 23 13) rfl rfl (take_ofW HT_.out HW_.out (by kernel_rfl)) (fun _ _ _ h => h) (Or.inl ⟨by rfl, ?_⟩) hHeld ?_ ?_
                rotate_left
                ·rintro w' ⟨s0, s1, s2, s3, s4, s5, s6, s7, s8, s9, s10⟩
                 go_simp
                 with_reducible rfl
                rotate_left
                ·simp only [Act.put, lS, lZ, lU, i64_w, i32_w]
                 rfl
                refine pure_ (i := 23) (N := some 44) (v := ?_) (a' := ?_) (msk 24 12) rfl rfl (any_of HT_.out (by kernel_rfl)) (fun _ _ _ h => h) (Or.inl ⟨by rfl, ?_⟩) ?_ ?_
                rotate_left
                ·intro w'
                 go_simp
                 with_reducible rfl
                rotate_left
                ·simp only [Act.put, lS, lZ, lU, i64_w, i32_w]
                 rfl
                refine pure_ (i := 24) (N := some 45) (v := ?_) (a' := ?_) (msk 25 11) rfl rfl (any_of HT_.out (by kernel_rfl)) (fun _ _ _ h => h) (Or.inl ⟨by rfl, ?_⟩) ?_ ?_
                rotate_left
                ·intro w'
                 go_simp
                 with_reducible rfl
                rotate_left
                ·simp only [Act.put, lS, lZ, lU, i64_w, i32_w]
                 rfl
                refine pure_ (i := 25) (N := some 46) (v := ?_) (a' := ?_) (msk 26 10) rfl rfl (any_of HT_.out (by kernel_rfl)) (fun _ _ _ h => h) (Or.inl ⟨by rfl, ?_⟩) ?_ ?_
                rotate_left
                ·intro w'
                 go_simp
                 with_reducible rfl
                rotate_left
                ·simp only [Act.put, lS, lZ, lU, i64_w, i32_w]
                 rfl
                refine pure_ (i := 27) (N := some 48) (v := ?_) (a' := ?_) #[tt,tt,tt,tt,tt,tt,tt,tt,tt,tt,tt,tt,tt,tt,tt,tt,tt,tt,tt,tt,tt,tt,tt,tt,tt,tt,ff,tt,ff,ff,ff,ff,ff,ff,ff,ff] rfl rfl (any_of HT_.out (by kernel_rfl)) (fun _ _ _ h => h) (Or.inl ⟨by rfl, ?_⟩) ?_ ?_
                rotate_left
                ·intro w'
                 go_simp
                 with_reducible rfl
                rotate_left
                ·simp only [Act.put, lS, lZ, lU, i64_w, i32_w]
                 rfl
                refine pure_ (i := 28) (N := some 49) (v := ?_) (a' := ?_) #[tt,tt,tt,tt,tt,tt,tt,tt,tt,tt,tt,tt,tt,tt,tt,tt,tt,tt,tt,tt,tt,tt,tt,tt,tt,tt,ff,tt,tt,ff,ff,ff,ff,ff,ff,ff] rfl rfl (any_of HT_.out (by kernel_rfl)) (fun _ _ _ h => h) (Or.inl ⟨by rfl, ?_⟩) ?_ ?_
                rotate_left
                ·intro w'
                 go_simp
                 with_reducible rfl
                rotate_left
                ·simp only [Act.put, lS, lZ, lU, i64_w, i32_w]
                 rfl
                refine take_ (i := 26) (N := some 47) (v := ?_) (a' := ?_) (msk 29 7) rfl rfl (take_ofW HT_.out HW_.out (by kernel_rfl)) (fun _ _ _ h => h) (Or.inl ⟨by rfl, ?_⟩) hHeld ?_ ?_
                rotate_left
                ·rintro w' ⟨s0, s1, s2, s3, s4, s5, s6, s7, s8, s9, s10⟩
                 go_simp
                 with_reducible rfl
                rotate_left
                ·simp only [Act.put, lS, lZ, lU, i64_w, i32_w]
                 rfl
                refine pure_ (i := 29) (N := some 50) (v := ?_) (a' := ?_) (msk 30 6) rfl rfl (any_of HT_.out (by kernel_rfl)) (fun _ _ _ h => h) (Or.inl ⟨by rfl, ?_⟩) ?_ ?_
                rotate_left
                ·intro w'
                 go_simp
                 with_reducible rfl
                rotate_left
                ·simp only [Act.put, lS, lZ, lU, i64_w, i32_w]
                 rfl
                refine take_ (i := 30) (N := some 51) (v := ?_) (a' := ?_) (msk 31 5) rfl rfl (take_ofW HT_.out HW_.out (by kernel_rfl)) (fun _ _ _ h => h) (Or.inl ⟨by rfl, ?_⟩) hHeld ?_ ?_
                rotate_left
                ·rintro w' ⟨s0, s1, s2, s3, s4, s5, s6, s7, s8, s9, s10⟩
                 go_simp
                 with_reducible rfl
                rotate_left
                ·simp only [Act.put, lS, lZ, lU, i64_w, i32_w]
                 rfl
                refine take_ (i := 31) (N := some 52) (v := ?_) (a' := ?_) (msk 32 4) rfl rfl (take_ofW HT_.out HW_.out (by kernel_rfl)) (fun _ _ _ h => h) (Or.inl ⟨by rfl, ?_⟩) hHeld ?_ ?_
                rotate_left
                ·rintro w' ⟨s0, s1, s2, s3, s4, s5, s6, s7, s8, s9, s10⟩
                 go_simp
                 with_reducible rfl
                rotate_left
                ·simp only [Act.put, lS, lZ, lU, i64_w, i32_w]
                 rfl
                refine one_ (i := 32) (N := some 53) (msk 33 3) rfl rfl (one_of HT_.out (by kernel_rfl)) (by decide) (fun K hK => ?_)
                refine goes_ Try.func55 (by kernel_rfl) rfl #[.agg #[.int .i64 ((rd_T48 l0_1 (ji22)).f0), .int .i64 ((rd_T48 l0_1 (ji22)).f1), .int .i64 ((rd_T48 l0_1 (ji22)).f2)], .agg #[.int .i64 ((rd_T48 l0_1 x16_2).f0), .int .i64 ((rd_T48 l0_1 x16_2).f1), .int .i64 ((rd_T48 l0_1 x16_2).f2)]] (by rfl) rfl rfl (by (try simp only [lM, lC, lN]); first | done | (simp only [hji22]; rfl) | rfl | (simp only [lD, lT]; rfl)) ?_
                with_reducible refine (model_over.calls ((rd_T48 l0_1 (ji22)).f0) ((rd_T48 l0_1 (ji22)).f1) ((rd_T48 l0_1 (ji22)).f2) ((rd_T48 l0_1 x16_2).f0) ((rd_T48 l0_1 x16_2).f1) ((rd_T48 l0_1 x16_2).f2) false _ A32.out).mono ?_
                rintro e w47 ⟨rfl, hb⟩
                refine ⟨_, rfl, ?_⟩
                have n0_ := aM (bB (g := gb479) (o := .cells #[.int .i64 a0_0, .slice (some ad480) l0_1.length c0_1] 41 (0, 0)) (by (with_reducible repeat (first | refine bN ?_ _ | refine bD ?_ | refine bA ?_ _)); exact BK479.out) hb)
                have n1_ := aM (bB (g := gb481) (o := .cells #[.int .i64 ((rd_T48 l0_1 x16_2).f0), .int .i64 ((rd_T48 l0_1 x16_2).f1), .int .i64 ((rd_T48 l0_1 x16_2).f2)] 48 (0, 0)) (by (with_reducible repeat (first | refine bN ?_ _ | refine bD ?_ | refine bA ?_ _)); exact BK481.out) hb)
                have n2_ := aM (wT (by repeat (first | (with_reducible first | exact HB.out | apply wA | apply wN_ | apply wD | refine wS ?_ GE479.out | refine wS ?_ GE481.out) | exact HB.out)) hb)
                clear BK479
                clear BK481
                clear HB
                have BK479 := n0_
                have BK481 := n1_
                have HB := n2_
                clear n0_ n1_ n2_
                (try clear hb)
                (try clear hb2)
                (try clear hk)
                (try clear hi)
                refine hK.out _ _ ⟨(bC BK481.out 0).trans rfl, (bC BK481.out 1).trans rfl, (bC BK481.out 2).trans rfl, (bC BK479.out 0).trans rfl, (bC BK479.out 1).trans rfl, ((HB.out.cell (wL w _ hw483_0)).trans hw483_0), ((HB.out.cell (wL w _ hw483_1)).trans hw483_1), ((HB.out.cell (wL w _ hw483_2)).trans hw483_2), ((HB.out.cell (wL w _ hw484_0)).trans hw484_0), ((HB.out.cell (wL w _ hw484_1)).trans hw484_1), ((HB.out.cell (wL w _ hw484_2)).trans hw484_2)⟩ (fun hHeld => ?_)
                clear hK K
                refine norm_ (a' := ?_) ?_ ?_
                rotate_left
                ·show Act.put _ (some 53) _ = _
                 simp only [Act.put, lS, lZ, lU, i64_w, i32_w]
                 rfl
                refine pure_ (i := 33) (N := some 54) (v := ?_) (a' := ?_) (msk 34 2) rfl rfl (any_of HT_.out (by kernel_rfl)) (fun _ _ _ h => h) (Or.inl ⟨by rfl, ?_⟩) ?_ ?_
                rotate_left
                ·intro w'
                 go_simp
                 with_reducible rfl
                rotate_left
                ·simp only [Act.put, lS, lZ, lU, i64_w, i32_w]
                 rfl
                refine pure_ (i := 34) (N := some 55) (v := ?_) (a' := ?_) (msk 35 1) rfl rfl (any_of HT_.out (by kernel_rfl)) (fun _ _ _ h => h) (Or.inl ⟨by rfl, ?_⟩) ?_ ?_
                rotate_left
                ·intro w'
                 go_simp
                 with_reducible rfl
                rotate_left
                ·simp only [Act.put, lS, lZ, lU, i64_w, i32_w]
                 rfl
                refine pure_ (i := 35) (N := some 56) (v := ?_) (a' := ?_) (msk 36 0) rfl rfl (any_of HT_.out (by kernel_rfl)) (fun _ _ _ h => h) (Or.inl ⟨by rfl, ?_⟩) ?_ ?_
                rotate_left
                ·intro w'
                 go_simp
                 with_reducible rfl
                rotate_left
                ·simp only [Act.put, lS, lZ, lU, i64_w, i32_w]
                 rfl
                refine done_ (done_of HT_.out (by kernel_rfl)) ?_
                try go_wp2
                go_roundg k2
                case measure => have:=HJ1.out;have:=HK2.out;omega
                case rel => exact ⟨(wrap64 (x16_2 + 1)),(by first|rfl|(simp;done)|(simp [*];done)),H',⟨by have:=HJ1.out;have:=HK2.out;omega⟩,⟨by (with_reducible repeat (first|refine bN ?_ _|refine bD ?_|refine bA ?_ _));exact BK479.out⟩,⟨by repeat (first|(with_reducible first|exact HB.out|apply wA|apply wN_|apply wD|refine wS ?_ GE479.out|refine wS ?_ GE481.out)|exact HB.out)⟩⟩
             ·rw [if_neg c24] at H
              exact absurd H (by simp)
            ·rw [if_neg c23] at H
             exact absurd H (by simp)
           ·rw [if_neg c21] at H
            have c21b0 : decide (0 < x16_2) = false := decide_eq_false c21
            clear c21
            have H' := aM H
            clear H
            have p480 : 0 ≤ (x16_2 : Int) := oD (by first | (with_reducible assumption) | assumption)
            have q480 : x16_2 < (l0_1.length : Int) := oD (by first | (with_reducible assumption) | assumption)
            obtain ⟨ad480, e480, hx480_0, hx480_1, hx480_2⟩ := at_T48 HR0_1.out x16_2 p480 q480
            cases e480
            replace hx480_0 := (HB.out.cell (wL w _ hx480_0)).trans hx480_0
            replace hx480_1 := (HB.out.cell (wL w _ hx480_1)).trans hx480_1
            replace hx480_2 := (HB.out.cell (wL w _ hx480_2)).trans hx480_2
            replace p480 := eq_true p480
            replace q480 := eq_true q480
            try go_wp2_with (first|((with_reducible refine gate_dst (N:=4) rfl ?_);refine box_event ?hg (N:=4) ?hd (cs:=#[.int .i64 0,.int .i64 0,.int .i64 0]) (t:=48) ?hr ?_;(case hd => rfl);(case hg => rfl);(case hr => first|(go_simp;done)|(go_simp;rfl));intro gb481 hg w48 hbox hb;have n0_:=aM (bB (g:=gb479) (o:=.cells #[.int .i64 a0_0,.slice (some ad480) l0_1.length c0_1] 41 (0,0)) (by (with_reducible repeat (first|refine bN ?_ _|refine bD ?_|refine bA ?_ _));exact BK479.out) hb);have n1_:=aM (wT (by repeat (first|(with_reducible first|exact HB.out|apply wA|apply wN_|apply wD|refine wS ?_ GE479.out)|exact HB.out)) hb);have n2_:=aM (hbox);have n3_:=aM ((by rw [hg];exact (wZ (by repeat (first|(with_reducible first|exact HB.out|apply wA|apply wN_|apply wD|refine wS ?_ GE479.out)|exact HB.out))) : w.heap.size ≤ gb481));have n4_:=aM ((by rw [hg];exact (wZ (by repeat (first|(with_reducible first|exact HB.out|apply wA|apply wN_|apply wD|refine wS ?_ GE479.out)|exact HB.out))) : w.heap.size ≤ gb481));have n5_:=aM ((by rw [hg];exact Nat.ne_of_lt (bL (g:=gb479) (o:=.cells #[.int .i64 a0_0,.slice (some ad480) l0_1.length c0_1] 41 (0,0)) (by (with_reducible repeat (first|refine bN ?_ _|refine bD ?_|refine bA ?_ _));exact BK479.out)) : gb479 ≠ gb481));have n6_:=aM ((by rw [hg];exact Nat.ne_of_gt (bL (g:=gb479) (o:=.cells #[.int .i64 a0_0,.slice (some ad480) l0_1.length c0_1] 41 (0,0)) (by (with_reducible repeat (first|refine bN ?_ _|refine bD ?_|refine bA ?_ _));exact BK479.out)) : gb481 ≠ gb479));clear BK479;clear HB;have BK479:=n0_;have HB:=n1_;have BK481:=n2_;have GW481:=n3_;have GE481:=n4_;have NB479_481:=n5_;have NB481_479:=n6_;clear n0_ n1_ n2_ n3_ n4_ n5_ n6_;clear hb hbox hg;have hnb49:=NB481_479.out;have hnc49:=NB479_481.out;have hcz50_0 : w48.cell? ⟨gb481,0,none⟩ = some (.int .i64 0):=(bC BK481.out 0).trans rfl;have hcz50_1 : w48.cell? ⟨gb481,1,none⟩ = some (.int .i64 0):=(bC BK481.out 1).trans rfl;have hcz50_2 : w48.cell? ⟨gb481,2,none⟩ = some (.int .i64 0):=(bC BK481.out 2).trans rfl;have hfz50_0:=bF BK481.out 0;have hfz50_1:=bF BK481.out 1;have hfz50_2:=bF BK481.out 2))
            have n0_ : Aside0 ((((w48.setCell ⟨gb481, 0, none⟩ (.int .i64 ((rd_T48 l0_1 x16_2).f0))).setCell ⟨gb481, 1, none⟩ (.int .i64 ((rd_T48 l0_1 x16_2).f1))).setCell ⟨gb481, 2, none⟩ (.int .i64 ((rd_T48 l0_1 x16_2).f2))).heap[gb479]? = some (.cells #[.int .i64 a0_0, .slice (some ad480) l0_1.length c0_1] 41 (0, 0))) := ⟨by (with_reducible repeat (first | refine bN ?_ _ | refine bD ?_ | refine bA ?_ _)); refine bR ?_ NB479_481.out _; (with_reducible repeat (first | refine bN ?_ _ | refine bD ?_ | refine bA ?_ _)); refine bR ?_ NB479_481.out _; (with_reducible repeat (first | refine bN ?_ _ | refine bD ?_ | refine bA ?_ _)); refine bR ?_ NB479_481.out _; (with_reducible repeat (first | refine bN ?_ _ | refine bD ?_ | refine bA ?_ _)); exact BK479.out⟩
            have n1_ : Aside0 ((((w48.setCell ⟨gb481, 0, none⟩ (.int .i64 ((rd_T48 l0_1 x16_2).f0))).setCell ⟨gb481, 1, none⟩ (.int .i64 ((rd_T48 l0_1 x16_2).f1))).setCell ⟨gb481, 2, none⟩ (.int .i64 ((rd_T48 l0_1 x16_2).f2))).heap[gb481]? = some (.cells #[.int .i64 ((rd_T48 l0_1 x16_2).f0), .int .i64 ((rd_T48 l0_1 x16_2).f1), .int .i64 ((rd_T48 l0_1 x16_2).f2)] 48 (0, 0))) := ⟨by (with_reducible repeat (first | refine bN ?_ _ | refine bD ?_ | refine bA ?_ _)); refine bP (cs := #[.int .i64 ((rd_T48 l0_1 x16_2).f0), .int .i64 ((rd_T48 l0_1 x16_2).f1), .int .i64 0]) ?_ 2 _ rfl; (with_reducible repeat (first | refine bN ?_ _ | refine bD ?_ | refine bA ?_ _)); refine bP (cs := #[.int .i64 ((rd_T48 l0_1 x16_2).f0), .int .i64 0, .int .i64 0]) ?_ 1 _ rfl; (with_reducible repeat (first | refine bN ?_ _ | refine bD ?_ | refine bA ?_ _)); refine bP (cs := #[.int .i64 0, .int .i64 0, .int .i64 0]) ?_ 0 _ rfl; (with_reducible repeat (first | refine bN ?_ _ | refine bD ?_ | refine bA ?_ _)); exact BK481.out⟩
            have n2_ : Aside0 (Below w.heap.size w (((w48.setCell ⟨gb481, 0, none⟩ (.int .i64 ((rd_T48 l0_1 x16_2).f0))).setCell ⟨gb481, 1, none⟩ (.int .i64 ((rd_T48 l0_1 x16_2).f1))).setCell ⟨gb481, 2, none⟩ (.int .i64 ((rd_T48 l0_1 x16_2).f2)))) := ⟨by repeat (first | (with_reducible first | exact HB.out | apply wA | apply wN_ | apply wD | refine wS ?_ GE479.out | refine wS ?_ GE481.out) | exact HB.out)⟩
            (try clear BK479)
            (try clear BK481)
            (try clear HB)
            generalize (((w48.setCell ⟨gb481, 0, none⟩ (.int .i64 ((rd_T48 l0_1 x16_2).f0))).setCell ⟨gb481, 1, none⟩ (.int .i64 ((rd_T48 l0_1 x16_2).f1))).setCell ⟨gb481, 2, none⟩ (.int .i64 ((rd_T48 l0_1 x16_2).f2))) = w51 at n0_ n1_ n2_ ⊢
            have BK479 := n0_
            have BK481 := n1_
            have HB := n2_
            clear n0_ n1_ n2_
            have n0_ := aM (bD BK479.out)
            have n1_ := aM (bD BK481.out)
            have n2_ := aM (wD HB.out)
            clear BK479
            clear BK481
            clear HB
            have BK479 := n0_
            have BK481 := n1_
            have HB := n2_
            clear n0_ n1_ n2_
            refine start_ (n := 36) (S := fun w' => w'.cell? ⟨gb481, 0, none⟩ = some (.int .i64 ((rd_T48 l0_1 x16_2).f0)) ∧ w'.cell? ⟨gb481, 1, none⟩ = some (.int .i64 ((rd_T48 l0_1 x16_2).f1)) ∧ w'.cell? ⟨gb481, 2, none⟩ = some (.int .i64 ((rd_T48 l0_1 x16_2).f2)) ∧ w'.cell? ⟨gb479, 0, none⟩ = some (.int .i64 a0_0) ∧ w'.cell? ⟨gb479, 1, none⟩ = some (.slice (some ad480) l0_1.length c0_1)) (ds := []) (msk 0 36) (by kernel_rfl) rfl rfl ⟨(bC BK481.out 0).trans rfl, (bC BK481.out 1).trans rfl, (bC BK481.out 2).trans rfl, (bC BK479.out 0).trans rfl, (bC BK479.out 1).trans rfl⟩ (fun hHeld => ?_); refine with_tabW model_May.tab6 model_May.bits6 (fun HT_ HW_ => ?_)
            generalize w51.drew = w52 at BK479 BK481 HB hHeld ⊢
            refine pure_ (i := 1) (N := some 22) (v := ?_) (a' := ?_) #[ff,tt,ff,ff,ff,ff,ff,ff,ff,ff,ff,ff,ff,ff,ff,ff,ff,ff,ff,ff,ff,ff,ff,ff,ff,ff,ff,ff,ff,ff,ff,ff,ff,ff,ff,ff] rfl rfl (any_of HT_.out (by kernel_rfl)) (fun _ _ _ h => h) (Or.inl ⟨by rfl, ?_⟩) ?_ ?_
            rotate_left
            ·intro w'
             go_simp
             with_reducible rfl
            rotate_left
            ·simp only [Act.put, lS, lZ, lU, i64_w, i32_w]
             rfl
            refine take_ (i := 0) (N := some 21) (v := ?_) (a' := ?_) (msk 2 34) rfl rfl (take_ofW HT_.out HW_.out (by kernel_rfl)) (fun _ _ _ h => h) (Or.inl ⟨by rfl, ?_⟩) hHeld ?_ ?_
            rotate_left
            ·rintro w' ⟨s0, s1, s2, s3, s4⟩
             go_simp
             with_reducible rfl
            rotate_left
            ·simp only [Act.put, lS, lZ, lU, i64_w, i32_w]
             rfl
            refine take_ (i := 2) (N := some 23) (v := ?_) (a' := ?_) (msk 3 33) rfl rfl (take_ofW HT_.out HW_.out (by kernel_rfl)) (fun _ _ _ h => h) (Or.inl ⟨by rfl, ?_⟩) hHeld ?_ ?_
            rotate_left
            ·rintro w' ⟨s0, s1, s2, s3, s4⟩
             go_simp
             with_reducible rfl
            rotate_left
            ·simp only [Act.put, lS, lZ, lU, i64_w, i32_w]
             rfl
            refine one_ (i := 3) (N := some 24) (msk 4 32) rfl rfl (one_of HT_.out (by kernel_rfl)) (by decide) (fun K hK => ?_)
            refine goes_ Try.func52 (by kernel_rfl) rfl #[.agg #[.int .i64 ((rd_T48 l0_1 x16_2).f0), .int .i64 ((rd_T48 l0_1 x16_2).f1), .int .i64 ((rd_T48 l0_1 x16_2).f2)], .int .i64 a0_0] (by rfl) rfl rfl (by (try simp only [lM, lC, lN]); first | done | rfl | (simp only [lD, lT]; rfl)) ?_
            with_reducible refine (model_lies.calls ((rd_T48 l0_1 x16_2).f0) ((rd_T48 l0_1 x16_2).f1) ((rd_T48 l0_1 x16_2).f2) a0_0 true _ A12.out).mono ?_
            rintro e w53 ⟨rfl, hb⟩
            refine ⟨_, rfl, ?_⟩
            have n0_ := aM (bB (g := gb479) (o := .cells #[.int .i64 a0_0, .slice (some ad480) l0_1.length c0_1] 41 (0, 0)) (by (with_reducible repeat (first | refine bN ?_ _ | refine bD ?_ | refine bA ?_ _)); exact BK479.out) hb)
            have n1_ := aM (bB (g := gb481) (o := .cells #[.int .i64 ((rd_T48 l0_1 x16_2).f0), .int .i64 ((rd_T48 l0_1 x16_2).f1), .int .i64 ((rd_T48 l0_1 x16_2).f2)] 48 (0, 0)) (by (with_reducible repeat (first | refine bN ?_ _ | refine bD ?_ | refine bA ?_ _)); exact BK481.out) hb)
            have n2_ := aM (wT (by repeat (first | (with_reducible first | exact HB.out | apply wA | apply wN_ | apply wD | refine wS ?_ GE479.out | refine wS ?_ GE481.out) | exact HB.out)) hb)
            clear BK479
            clear BK481
            clear HB
            have BK479 := n0_
            have BK481 := n1_
            have HB := n2_
            clear n0_ n1_ n2_
            (try clear hb)
            (try clear hb2)
            (try clear hk)
            (try clear hi)
            refine hK.out _ _ ⟨(bC BK481.out 0).trans rfl, (bC BK481.out 1).trans rfl, (bC BK481.out 2).trans rfl, (bC BK479.out 0).trans rfl, (bC BK479.out 1).trans rfl⟩ (fun hHeld => ?_)
            clear hK K
            refine norm_ (a' := ?_) ?_ ?_
            rotate_left
            ·show Act.put _ (some 24) _ = _
             simp only [Act.put, lS, lZ, lU, i64_w, i32_w]
             rfl
            refine pure_ (i := 4) (N := some 25) (v := ?_) (a' := ?_) (msk 5 31) rfl rfl (any_of HT_.out (by kernel_rfl)) (fun _ _ _ h => h) (Or.inl ⟨by rfl, ?_⟩) ?_ ?_
            rotate_left
            ·intro w'
             go_simp
             with_reducible rfl
            rotate_left
            ·simp only [Act.put, lS, lZ, lU, i64_w, i32_w]
             rfl
            refine pure_ (i := 5) (N := some 26) (v := ?_) (a' := ?_) (msk 6 30) rfl rfl (any_of HT_.out (by kernel_rfl)) (fun _ _ _ h => h) (Or.inl ⟨by rfl, ?_⟩) ?_ ?_
            rotate_left
            ·intro w'
             go_simp
             with_reducible rfl
            rotate_left
            ·simp only [Act.put, lS, lZ, lU, i64_w, i32_w]
             rfl
            refine pure_ (i := 6) (N := some 27) (v := ?_) (a' := ?_) (msk 7 29) rfl rfl (any_of HT_.out (by kernel_rfl)) (fun _ _ _ h => h) (Or.inl ⟨by rfl, ?_⟩) ?_ ?_
            rotate_left
            ·intro w'
             go_simp
             with_reducible rfl
            rotate_left
            ·simp only [Act.put, lS, lZ, lU, i64_w, i32_w]
             rfl
            refine take_ (i := 7) (N := some 28) (v := ?_) (a' := ?_) (msk 8 28) rfl rfl (take_ofW HT_.out HW_.out (by kernel_rfl)) (fun _ _ _ h => h) (Or.inl ⟨by rfl, ?_⟩) hHeld ?_ ?_
            rotate_left
            ·rintro w' ⟨s0, s1, s2, s3, s4⟩
             go_simp
             with_reducible rfl
            rotate_left
            ·simp only [Act.put, lS, lZ, lU, i64_w, i32_w]
             rfl
            refine pure_ (i := 8) (N := some 29) (v := ?_) (a' := ?_) (msk 9 27) rfl rfl (any_of HT_.out (by kernel_rfl)) (fun _ _ _ h => h) (Or.inl ⟨by rfl, ?_⟩) ?_ ?_
            rotate_left
            ·intro w'
             go_simp
             with_reducible rfl
            rotate_left
            ·simp only [Act.put, lS, lZ, lU, i64_w, i32_w]
             rfl
            refine pure_ (i := 9) (N := some 30) (v := ?_) (a' := ?_) (msk 10 26) rfl rfl (any_of HT_.out (by kernel_rfl)) (fun _ _ _ h => h) (Or.inl ⟨by rfl, ?_⟩) ?_ ?_
            rotate_left
            ·intro w'
             go_simp
             with_reducible rfl
            rotate_left
            ·simp only [Act.put, lS, lZ, lU, i64_w, i32_w]
             rfl
            refine pure_ (i := 10) (N := some 31) (v := ?_) (a' := ?_) (msk 11 25) rfl rfl (any_of HT_.out (by kernel_rfl)) (fun _ _ _ h => h) (Or.inl ⟨by rfl, ?_⟩) ?_ ?_
            rotate_left
            ·intro w'
             go_simp
             with_reducible rfl
            rotate_left
            ·simp only [Act.put, lS, lZ, lU, i64_w, i32_w]
             rfl
            refine pure_ (i := 11) (N := some 32) (v := ?_) (a' := ?_) (msk 12 24) rfl rfl (any_of HT_.out (by kernel_rfl)) (fun _ _ _ h => h) (Or.inl ⟨by rfl, ?_⟩) ?_ ?_
            rotate_left
            ·intro w'
             go_simp
             with_reducible rfl
            rotate_left
            ·simp only [Act.put, lS, lZ, lU, i64_w, i32_w]
             rfl
            refine pure_ (i := 12) (N := some 33) (v := ?_) (a' := ?_) (msk 13 23) rfl rfl (any_of HT_.out (by kernel_rfl)) (fun _ _ _ h => h) (Or.inl ⟨by rfl, ?_⟩) ?_ ?_
            rotate_left
            ·intro w'
             go_simp
             with_reducible rfl
            rotate_left
            ·simp only [Act.put, lS, lZ, lU, i64_w, i32_w]
             rfl
            refine pure_ (i := 13) (N := some 34) (v := ?_) (a' := ?_) (msk 14 22) rfl rfl (any_of HT_.out (by kernel_rfl)) (fun _ _ _ h => h) (Or.inl ⟨by rfl, ?_⟩) ?_ ?_
            rotate_left
            ·intro w'
             go_simp
             with_reducible rfl
            rotate_left
            ·simp only [Act.put, lS, lZ, lU, i64_w, i32_w]
             rfl
            refine pure_ (i := 14) (N := some 35) (v := undef) (a' := ?_) (msk 15 21) rfl rfl (any_of HT_.out (by kernel_rfl)) (fun _ _ _ h => h) (Or.inr ⟨by rfl, rfl⟩) ?_ ?_
            rotate_left
            ·simp only [Act.put, lS, lZ, lU, i64_w, i32_w]
             rfl
            refine pure_ (i := 15) (N := some 36) (v := undef) (a' := ?_) (msk 16 20) rfl rfl (any_of HT_.out (by kernel_rfl)) (fun _ _ _ h => h) (Or.inr ⟨by rfl, rfl⟩) ?_ ?_
            rotate_left
            ·simp only [Act.put, lS, lZ, lU, i64_w, i32_w]
             rfl
            refine pure_ (i := 16) (N := some 37) (v := undef) (a' := ?_) (msk 17 19) rfl rfl (any_of HT_.out (by kernel_rfl)) (fun _ _ _ h => h) (Or.inr ⟨by rfl, rfl⟩) ?_ ?_
            rotate_left
            ·simp only [Act.put, lS, lZ, lU, i64_w, i32_w]
             rfl
            refine pure_ (i := 17) (N := some 38) (v := undef) (a' := ?_) (msk 18 18) rfl rfl (any_of HT_.out (by kernel_rfl)) (fun _ _ _ h => h) (Or.inr ⟨by rfl, rfl⟩) ?_ ?_
            rotate_left
            ·simp only [Act.put, lS, lZ, lU, i64_w, i32_w]
             rfl
            refine pure_ (i := 18) (N := some 39) (v := undef) (a' := ?_) (msk 19 17) rfl rfl (any_of HT_.out (by kernel_rfl)) (fun _ _ _ h => h) (Or.inr ⟨by rfl, rfl⟩) ?_ ?_
            rotate_left
            ·simp only [Act.put, lS, lZ, lU, i64_w, i32_w]
             rfl
            refine pure_ (i := 19) (N := some 40) (v := undef) (a' := ?_) (msk 20 16) rfl rfl (any_of HT_.out (by kernel_rfl)) (fun _ _ _ h => h) (Or.inr ⟨by rfl, rfl⟩) ?_ ?_
            rotate_left
            ·simp only [Act.put, lS, lZ, lU, i64_w, i32_w]
             rfl
            refine pure_ (i := 20) (N := some 41) (v := undef) (a' := ?_) (msk 21 15) rfl rfl (any_of HT_.out (by kernel_rfl)) (fun _ _ _ h => h) (Or.inr ⟨by rfl, rfl⟩) ?_ ?_
            rotate_left
            ·simp only [Act.put, lS, lZ, lU, i64_w, i32_w]
             rfl
            refine pure_ (i := 21) (N := some 42) (v := undef) (a' := ?_) (msk 22 14) rfl rfl (any_of HT_.out (by kernel_rfl)) (fun _ _ _ h => h) (Or.inr ⟨by rfl, rfl⟩) ?_ ?_
            rotate_left
            ·simp only [Act.put, lS, lZ, lU, i64_w, i32_w]
             rfl
            refine pure_ (i := 22) (N := some 43) (v := undef) (a' := ?_) (msk 23 13) rfl rfl (any_of HT_.out (by kernel_rfl)) (fun _ _ _ h => h) (Or.inr ⟨by rfl, rfl⟩) ?_ ?_
            rotate_left
            ·simp only [Act.put, lS, lZ, lU, i64_w, i32_w]
             rfl
            refine pure_ (i := 23) (N := some 44) (v := undef) (a' := ?_) (msk 24 12) rfl rfl (any_of HT_.out (by kernel_rfl)) (fun _ _ _ h => h) (Or.inr ⟨by rfl, rfl⟩) ?_ ?_
            rotate_left
            ·simp only [Act.put, lS, lZ, lU, i64_w, i32_w]
             rfl
            refine pure_ (i := 24) (N := some 45) (v := undef) (a' := ?_) (msk 25 11) rfl rfl (any_of HT_.out (by kernel_rfl)) (fun _ _ _ h => h) (Or.inr ⟨by rfl, rfl⟩) ?_ ?_
            rotate_left
            ·simp only [Act.put, lS, lZ, lU, i64_w, i32_w]
             rfl
            refine pure_ (i := 25) (N := some 46) (v := undef) (a' := ?_) (msk 26 10) rfl rfl (any_of HT_.out (by kernel_rfl)) (fun _ _ _ h => h) (Or.inr ⟨by rfl, rfl⟩) ?_ ?_
            rotate_left
            ·simp only [Act.put, lS, lZ, lU, i64_w, i32_w]
             rfl
            refine pure_ (i := 26) (N := some 47) (v := undef) (a' := ?_) (msk 27 9) rfl rfl (any_of HT_.out (by kernel_rfl)) (fun _ _ _ h => h) (Or.inr ⟨by rfl, rfl⟩) ?_ ?_
            rotate_left
            ·simp only [Act.put, lS, lZ, lU, i64_w, i32_w]
             rfl
            refine pure_ (i := 27) (N := some 48) (v := undef) (a' := ?_) (msk 28 8) rfl rfl (any_of HT_.out (by kernel_rfl)) (fun _ _ _ h => h) (Or.inr ⟨by rfl, rfl⟩) ?_ ?_
            rotate_left
            ·simp only [Act.put, lS, lZ, lU, i64_w, i32_w]
             rfl
            refine pure_ (i := 28) (N := some 49) (v := undef) (a' := ?_) (msk 29 7) rfl rfl (any_of HT_.out (by kernel_rfl)) (fun _ _ _ h => h) (Or.inr ⟨by rfl, rfl⟩) ?_ ?_
            rotate_left
            ·simp only [Act.put, lS, lZ, lU, i64_w, i32_w]
             rfl
            refine pure_ (i := 29) (N := some 50) (v := undef) (a' := ?_) (msk 30 6) rfl rfl (any_of HT_.out (by kernel_rfl)) (fun _ _ _ h => h) (Or.inr ⟨by rfl, rfl⟩) ?_ ?_
            rotate_left
            ·simp only [Act.put, lS, lZ, lU, i64_w, i32_w]
             rfl
            refine pure_ (i := 30) (N := some 51) (v := undef) (a' := ?_) (msk 31 5) rfl rfl (any_of HT_.out (by kernel_rfl)) (fun _ _ _ h => h) (Or.inr ⟨by rfl, rfl⟩) ?_ ?_
            rotate_left
            ·simp only [Act.put, lS, lZ, lU, i64_w, i32_w]
             rfl
            refine pure_ (i := 31) (N := some 52) (v := undef) (a' := ?_) (msk 32 4) rfl rfl (any_of HT_.out (by kernel_rfl)) (fun _ _ _ h => h) (Or.inr ⟨by rfl, rfl⟩) ?_ ?_
            rotate_left
            ·simp only [Act.put, lS, lZ, lU, i64_w, i32_w]
             rfl
            refine pure_ (i := 32) (N := some 53) (v := undef) (a' := ?_) (msk 33 3) rfl rfl (any_of HT_.out (by kernel_rfl)) (fun _ _ _ h => h) (Or.inr ⟨by rfl, rfl⟩) ?_ ?_
            rotate_left
            ·simp only [Act.put, lS, lZ, lU, i64_w, i32_w]
             rfl
            refine pure_ (i := 33) (N := some 54) (v := undef) (a' := ?_) (msk 34 2) rfl rfl (any_of HT_.out (by kernel_rfl)) (fun _ _ _ h => h) (Or.inr ⟨by rfl, rfl⟩) ?_ ?_
            rotate_left
            ·simp only [Act.put, lS, lZ, lU, i64_w, i32_w]
             rfl
            refine pure_ (i := 34) (N := some 55) (v := ?_) (a' := ?_) (msk 35 1) rfl rfl (any_of HT_.out (by kernel_rfl)) (fun _ _ _ h => h) (Or.inl ⟨by rfl, ?_⟩) ?_ ?_
            rotate_left
            ·intro w'
             go_simp
             with_reducible rfl
            rotate_left
            ·simp only [Act.put, lS, lZ, lU, i64_w, i32_w]
             rfl
            refine pure_ (i := 35) (N := some 56) (v := ?_) (a' := ?_) (msk 36 0) rfl rfl (any_of HT_.out (by kernel_rfl)) (fun _ _ _ h => h) (Or.inl ⟨by rfl, ?_⟩) ?_ ?_
            rotate_left
            ·intro w'
             go_simp
             with_reducible rfl
            rotate_left
            ·simp only [Act.put, lS, lZ, lU, i64_w, i32_w]
             rfl
            refine done_ (done_of HT_.out (by kernel_rfl)) ?_
            try go_wp2
            go_roundg k2
            case measure => have:=HJ1.out;have:=HK2.out;omega
            case rel => exact ⟨(wrap64 (x16_2 + 1)),(by first|rfl|(simp;done)|(simp [*];done)),H',⟨by have:=HJ1.out;have:=HK2.out;omega⟩,⟨by (with_reducible repeat (first|refine bN ?_ _|refine bD ?_|refine bA ?_ _));exact BK479.out⟩,⟨by repeat (first|(with_reducible first|exact HB.out|apply wA|apply wN_|apply wD|refine wS ?_ GE479.out|refine wS ?_ GE481.out)|exact HB.out)⟩⟩
         ·replace c13 := Bool.eq_false_iff.mpr c13
          subst c13
          have H1 : (some false) = some r := by rw [if_neg (show ¬ (false = true) by decide)] at H; exact H
          clear H
          have H := H1
          clear H1
          obtain rfl := Option.some.inj H
          have p480 : 0 ≤ (x16_2 : Int) := oD (by first | (with_reducible assumption) | assumption)
          have q480 : x16_2 < (l0_1.length : Int) := oD (by first | (with_reducible assumption) | assumption)
          obtain ⟨ad480, e480, hx480_0, hx480_1, hx480_2⟩ := at_T48 HR0_1.out x16_2 p480 q480
          cases e480
          replace hx480_0 := (HB.out.cell (wL w _ hx480_0)).trans hx480_0
          replace hx480_1 := (HB.out.cell (wL w _ hx480_1)).trans hx480_1
          replace hx480_2 := (HB.out.cell (wL w _ hx480_2)).trans hx480_2
          replace p480 := eq_true p480
          replace q480 := eq_true q480
          try go_wp2_with (first|((with_reducible refine gate_dst (N:=4) rfl ?_);refine box_event ?hg (N:=4) ?hd (cs:=#[.int .i64 0,.int .i64 0,.int .i64 0]) (t:=48) ?hr ?_;(case hd => rfl);(case hg => rfl);(case hr => first|(go_simp;done)|(go_simp;rfl));intro gb481 hg w54 hbox hb;have n0_:=aM (bB (g:=gb479) (o:=.cells #[.int .i64 a0_0,.slice (some ad480) l0_1.length c0_1] 41 (0,0)) (by (with_reducible repeat (first|refine bN ?_ _|refine bD ?_|refine bA ?_ _));exact BK479.out) hb);have n1_:=aM (wT (by repeat (first|(with_reducible first|exact HB.out|apply wA|apply wN_|apply wD|refine wS ?_ GE479.out)|exact HB.out)) hb);have n2_:=aM (hbox);have n3_:=aM ((by rw [hg];exact (wZ (by repeat (first|(with_reducible first|exact HB.out|apply wA|apply wN_|apply wD|refine wS ?_ GE479.out)|exact HB.out))) : w.heap.size ≤ gb481));have n4_:=aM ((by rw [hg];exact (wZ (by repeat (first|(with_reducible first|exact HB.out|apply wA|apply wN_|apply wD|refine wS ?_ GE479.out)|exact HB.out))) : w.heap.size ≤ gb481));have n5_:=aM ((by rw [hg];exact Nat.ne_of_lt (bL (g:=gb479) (o:=.cells #[.int .i64 a0_0,.slice (some ad480) l0_1.length c0_1] 41 (0,0)) (by (with_reducible repeat (first|refine bN ?_ _|refine bD ?_|refine bA ?_ _));exact BK479.out)) : gb479 ≠ gb481));have n6_:=aM ((by rw [hg];exact Nat.ne_of_gt (bL (g:=gb479) (o:=.cells #[.int .i64 a0_0,.slice (some ad480) l0_1.length c0_1] 41 (0,0)) (by (with_reducible repeat (first|refine bN ?_ _|refine bD ?_|refine bA ?_ _));exact BK479.out)) : gb481 ≠ gb479));clear BK479;clear HB;have BK479:=n0_;have HB:=n1_;have BK481:=n2_;have GW481:=n3_;have GE481:=n4_;have NB479_481:=n5_;have NB481_479:=n6_;clear n0_ n1_ n2_ n3_ n4_ n5_ n6_;clear hb hbox hg;have hnb55:=NB481_479.out;have hnc55:=NB479_481.out;have hcz56_0 : w54.cell? ⟨gb481,0,none⟩ = some (.int .i64 0):=(bC BK481.out 0).trans rfl;have hcz56_1 : w54.cell? ⟨gb481,1,none⟩ = some (.int .i64 0):=(bC BK481.out 1).trans rfl;have hcz56_2 : w54.cell? ⟨gb481,2,none⟩ = some (.int .i64 0):=(bC BK481.out 2).trans rfl;have hfz56_0:=bF BK481.out 0;have hfz56_1:=bF BK481.out 1;have hfz56_2:=bF BK481.out 2))
          have n0_ : Aside0 ((((w54.setCell ⟨gb481, 0, none⟩ (.int .i64 ((rd_T48 l0_1 x16_2).f0))).setCell ⟨gb481, 1, none⟩ (.int .i64 ((rd_T48 l0_1 x16_2).f1))).setCell ⟨gb481, 2, none⟩ (.int .i64 ((rd_T48 l0_1 x16_2).f2))).heap[gb479]? = some (.cells #[.int .i64 a0_0, .slice (some ad480) l0_1.length c0_1] 41 (0, 0))) := ⟨by (with_reducible repeat (first | refine bN ?_ _ | refine bD ?_ | refine bA ?_ _)); refine bR ?_ NB479_481.out _; (with_reducible repeat (first | refine bN ?_ _ | refine bD ?_ | refine bA ?_ _)); refine bR ?_ NB479_481.out _; (with_reducible repeat (first | refine bN ?_ _ | refine bD ?_ | refine bA ?_ _)); refine bR ?_ NB479_481.out _; (with_reducible repeat (first | refine bN ?_ _ | refine bD ?_ | refine bA ?_ _)); exact BK479.out⟩
          have n1_ : Aside0 ((((w54.setCell ⟨gb481, 0, none⟩ (.int .i64 ((rd_T48 l0_1 x16_2).f0))).setCell ⟨gb481, 1, none⟩ (.int .i64 ((rd_T48 l0_1 x16_2).f1))).setCell ⟨gb481, 2, none⟩ (.int .i64 ((rd_T48 l0_1 x16_2).f2))).heap[gb481]? = some (.cells #[.int .i64 ((rd_T48 l0_1 x16_2).f0), .int .i64 ((rd_T48 l0_1 x16_2).f1), .int .i64 ((rd_T48 l0_1 x16_2).f2)] 48 (0, 0))) := ⟨by (with_reducible repeat (first | refine bN ?_ _ | refine bD ?_ | refine bA ?_ _)); refine bP (cs := #[.int .i64 ((rd_T48 l0_1 x16_2).f0), .int .i64 ((rd_T48 l0_1 x16_2).f1), .int .i64 0]) ?_ 2 _ rfl; (with_reducible repeat (first | refine bN ?_ _ | refine bD ?_ | refine bA ?_ _)); refine bP (cs := #[.int .i64 ((rd_T48 l0_1 x16_2).f0), .int .i64 0, .int .i64 0]) ?_ 1 _ rfl; (with_reducible repeat (first | refine bN ?_ _ | refine bD ?_ | refine bA ?_ _)); refine bP (cs := #[.int .i64 0, .int .i64 0, .int .i64 0]) ?_ 0 _ rfl; (with_reducible repeat (first | refine bN ?_ _ | refine bD ?_ | refine bA ?_ _)); exact BK481.out⟩
          have n2_ : Aside0 (Below w.heap.size w (((w54.setCell ⟨gb481, 0, none⟩ (.int .i64 ((rd_T48 l0_1 x16_2).f0))).setCell ⟨gb481, 1, none⟩ (.int .i64 ((rd_T48 l0_1 x16_2).f1))).setCell ⟨gb481, 2, none⟩ (.int .i64 ((rd_T48 l0_1 x16_2).f2)))) := ⟨by repeat (first | (with_reducible first | exact HB.out | apply wA | apply wN_ | apply wD | refine wS ?_ GE479.out | refine wS ?_ GE481.out) | exact HB.out)⟩
          (try clear BK479)
          (try clear BK481)
          (try clear HB)
          generalize (((w54.setCell ⟨gb481, 0, none⟩ (.int .i64 ((rd_T48 l0_1 x16_2).f0))).setCell ⟨gb481, 1, none⟩ (.int .i64 ((rd_T48 l0_1 x16_2).f1))).setCell ⟨gb481, 2, none⟩ (.int .i64 ((rd_T48 l0_1 x16_2).f2))) = w57 at n0_ n1_ n2_ ⊢
          have BK479 := n0_
          have BK481 := n1_
          have HB := n2_
          clear n0_ n1_ n2_
          have n0_ := aM (bD BK479.out)
          have n1_ := aM (bD BK481.out)
          have n2_ := aM (wD HB.out)
          clear BK479
          clear BK481
          clear HB
          have BK479 := n0_
          have BK481 := n1_
          have HB := n2_
          clear n0_ n1_ n2_
          refine start_ (n := 36) (S := fun w' => w'.cell? ⟨gb481, 0, none⟩ = some (.int .i64 ((rd_T48 l0_1 x16_2).f0)) ∧ w'.cell? ⟨gb481, 1, none⟩ = some (.int .i64 ((rd_T48 l0_1 x16_2).f1)) ∧ w'.cell? ⟨gb481, 2, none⟩ = some (.int .i64 ((rd_T48 l0_1 x16_2).f2)) ∧ w'.cell? ⟨gb479, 0, none⟩ = some (.int .i64 a0_0) ∧ w'.cell? ⟨gb479, 1, none⟩ = some (.slice (some ad480) l0_1.length c0_1)) (ds := []) (msk 0 36) (by kernel_rfl) rfl rfl ⟨(bC BK481.out 0).trans rfl, (bC BK481.out 1).trans rfl, (bC BK481.out 2).trans rfl, (bC BK479.out 0).trans rfl, (bC BK479.out 1).trans rfl⟩ (fun hHeld => ?_); refine with_tabW model_May.tab6 model_May.bits6 (fun HT_ HW_ => ?_)
          generalize w57.drew = w58 at BK479 BK481 HB hHeld ⊢
          refine pure_ (i := 1) (N := some 22) (v := ?_) (a' := ?_) #[ff,tt,ff,ff,ff,ff,ff,ff,ff,ff,ff,ff,ff,ff,ff,ff,ff,ff,ff,ff,ff,ff,ff,ff,ff,ff,ff,ff,ff,ff,ff,ff,ff,ff,ff,ff] rfl rfl (any_of HT_.out (by kernel_rfl)) (fun _ _ _ h => h) (Or.inl ⟨by rfl, ?_⟩) ?_ ?_
          rotate_left
          ·intro w'
           go_simp
           with_reducible rfl
          rotate_left
          ·simp only [Act.put, lS, lZ, lU, i64_w, i32_w]
           rfl
          refine take_ (i := 0) (N := some 21) (v := ?_) (a' := ?_) (msk 2 34) rfl rfl (take_ofW HT_.out HW_.out (by kernel_rfl)) (fun _ _ _ h => h) (Or.inl ⟨by rfl, ?_⟩) hHeld ?_ ?_
          rotate_left
          ·rintro w' ⟨s0, s1, s2, s3, s4⟩
           go_simp
           with_reducible rfl
          rotate_left
          ·simp only [Act.put, lS, lZ, lU, i64_w, i32_w]
           rfl
          refine take_ (i := 2) (N := some 23) (v := ?_) (a' := ?_) (msk 3 33) rfl rfl (take_ofW HT_.out HW_.out (by kernel_rfl)) (fun _ _ _ h => h) (Or.inl ⟨by rfl, ?_⟩) hHeld ?_ ?_
          rotate_left
          ·rintro w' ⟨s0, s1, s2, s3, s4⟩
           go_simp
           with_reducible rfl
          rotate_left
          ·simp only [Act.put, lS, lZ, lU, i64_w, i32_w]
           rfl
          refine one_ (i := 3) (N := some 24) (msk 4 32) rfl rfl (one_of HT_.out (by kernel_rfl)) (by decide) (fun K hK => ?_)
          refine goes_ Try.func52 (by kernel_rfl) rfl #[.agg #[.int .i64 ((rd_T48 l0_1 x16_2).f0), .int .i64 ((rd_T48 l0_1 x16_2).f1), .int .i64 ((rd_T48 l0_1 x16_2).f2)], .int .i64 a0_0] (by rfl) rfl rfl (by (try simp only [lM, lC, lN]); first | done | rfl | (simp only [lD, lT]; rfl)) ?_
          with_reducible refine (model_lies.calls ((rd_T48 l0_1 x16_2).f0) ((rd_T48 l0_1 x16_2).f1) ((rd_T48 l0_1 x16_2).f2) a0_0 false _ A12.out).mono ?_
          rintro e w59 ⟨rfl, hb⟩
          refine ⟨_, rfl, ?_⟩
          have n0_ := aM (bB (g := gb479) (o := .cells #[.int .i64 a0_0, .slice (some ad480) l0_1.length c0_1] 41 (0, 0)) (by (with_reducible repeat (first | refine bN ?_ _ | refine bD ?_ | refine bA ?_ _)); exact BK479.out) hb)
          have n1_ := aM (bB (g := gb481) (o := .cells #[.int .i64 ((rd_T48 l0_1 x16_2).f0), .int .i64 ((rd_T48 l0_1 x16_2).f1), .int .i64 ((rd_T48 l0_1 x16_2).f2)] 48 (0, 0)) (by (with_reducible repeat (first | refine bN ?_ _ | refine bD ?_ | refine bA ?_ _)); exact BK481.out) hb)
          have n2_ := aM (wT (by repeat (first | (with_reducible first | exact HB.out | apply wA | apply wN_ | apply wD | refine wS ?_ GE479.out | refine wS ?_ GE481.out) | exact HB.out)) hb)
          clear BK479
          clear BK481
          clear HB
          have BK479 := n0_
          have BK481 := n1_
          have HB := n2_
          clear n0_ n1_ n2_
          (try clear hb)
          (try clear hb2)
          (try clear hk)
          (try clear hi)
          refine hK.out _ _ ⟨(bC BK481.out 0).trans rfl, (bC BK481.out 1).trans rfl, (bC BK481.out 2).trans rfl, (bC BK479.out 0).trans rfl, (bC BK479.out 1).trans rfl⟩ (fun hHeld => ?_)
          clear hK K
          refine norm_ (a' := ?_) ?_ ?_
          rotate_left
          ·show Act.put _ (some 24) _ = _
           simp only [Act.put, lS, lZ, lU, i64_w, i32_w]
           rfl
          refine pure_ (i := 4) (N := some 25) (v := ?_) (a' := ?_) (msk 5 31) rfl rfl (any_of HT_.out (by kernel_rfl)) (fun _ _ _ h => h) (Or.inl ⟨by rfl, ?_⟩) ?_ ?_
          rotate_left
          ·intro w'
           go_simp
           with_reducible rfl
          rotate_left
          ·simp only [Act.put, lS, lZ, lU, i64_w, i32_w]
           rfl
          refine pure_ (i := 5) (N := some 26) (v := ?_) (a' := ?_) (msk 6 30) rfl rfl (any_of HT_.out (by kernel_rfl)) (fun _ _ _ h => h) (Or.inl ⟨by rfl, ?_⟩) ?_ ?_
          rotate_left
          ·intro w'
           go_simp
           with_reducible rfl
          rotate_left
          ·simp only [Act.put, lS, lZ, lU, i64_w, i32_w]
           rfl
          refine pure_ (i := 6) (N := some 27) (v := undef) (a' := ?_) (msk 7 29) rfl rfl (any_of HT_.out (by kernel_rfl)) (fun _ _ _ h => h) (Or.inr ⟨by rfl, rfl⟩) ?_ ?_
          rotate_left
          ·simp only [Act.put, lS, lZ, lU, i64_w, i32_w]
           rfl
          refine pure_ (i := 7) (N := some 28) (v := undef) (a' := ?_) (msk 8 28) rfl rfl (any_of HT_.out (by kernel_rfl)) (fun _ _ _ h => h) (Or.inr ⟨by rfl, rfl⟩) ?_ ?_
          rotate_left
          ·simp only [Act.put, lS, lZ, lU, i64_w, i32_w]
           rfl
          refine pure_ (i := 8) (N := some 29) (v := undef) (a' := ?_) (msk 9 27) rfl rfl (any_of HT_.out (by kernel_rfl)) (fun _ _ _ h => h) (Or.inr ⟨by rfl, rfl⟩) ?_ ?_
          rotate_left
          ·simp only [Act.put, lS, lZ, lU, i64_w, i32_w]
           rfl
          refine pure_ (i := 9) (N := some 30) (v := ?_) (a' := ?_) (msk 10 26) rfl rfl (any_of HT_.out (by kernel_rfl)) (fun _ _ _ h => h) (Or.inl ⟨by rfl, ?_⟩) ?_ ?_
          rotate_left
          ·intro w'
           go_simp
           with_reducible rfl
          rotate_left
          ·simp only [Act.put, lS, lZ, lU, i64_w, i32_w]
           rfl
          refine pure_ (i := 10) (N := some 31) (v := ?_) (a' := ?_) (msk 11 25) rfl rfl (any_of HT_.out (by kernel_rfl)) (fun _ _ _ h => h) (Or.inl ⟨by rfl, ?_⟩) ?_ ?_
          rotate_left
          ·intro w'
           go_simp
           with_reducible rfl
          rotate_left
          ·simp only [Act.put, lS, lZ, lU, i64_w, i32_w]
           rfl
          refine pure_ (i := 11) (N := some 32) (v := undef) (a' := ?_) (msk 12 24) rfl rfl (any_of HT_.out (by kernel_rfl)) (fun _ _ _ h => h) (Or.inr ⟨by rfl, rfl⟩) ?_ ?_
          rotate_left
          ·simp only [Act.put, lS, lZ, lU, i64_w, i32_w]
           rfl
          refine pure_ (i := 12) (N := some 33) (v := undef) (a' := ?_) (msk 13 23) rfl rfl (any_of HT_.out (by kernel_rfl)) (fun _ _ _ h => h) (Or.inr ⟨by rfl, rfl⟩) ?_ ?_
          rotate_left
          ·simp only [Act.put, lS, lZ, lU, i64_w, i32_w]
           rfl
          refine pure_ (i := 13) (N := some 34) (v := undef) (a' := ?_) (msk 14 22) rfl rfl (any_of HT_.out (by kernel_rfl)) (fun _ _ _ h => h) (Or.inr ⟨by rfl, rfl⟩) ?_ ?_
          rotate_left
          ·simp only [Act.put, lS, lZ, lU, i64_w, i32_w]
           rfl
          refine pure_ (i := 14) (N := some 35) (v := undef) (a' := ?_) (msk 15 21) rfl rfl (any_of HT_.out (by kernel_rfl)) (fun _ _ _ h => h) (Or.inr ⟨by rfl, rfl⟩) ?_ ?_
          rotate_left
          ·simp only [Act.put, lS, lZ, lU, i64_w, i32_w]
           rfl
          refine pure_ (i := 15) (N := some 36) (v := undef) (a' := ?_) (msk 16 20) rfl rfl (any_of HT_.out (by kernel_rfl)) (fun _ _ _ h => h) (Or.inr ⟨by rfl, rfl⟩) ?_ ?_
          rotate_left
          ·simp only [Act.put, lS, lZ, lU, i64_w, i32_w]
           rfl
          refine pure_ (i := 16) (N := some 37) (v := undef) (a' := ?_) (msk 17 19) rfl rfl (any_of HT_.out (by kernel_rfl)) (fun _ _ _ h => h) (Or.inr ⟨by rfl, rfl⟩) ?_ ?_
          rotate_left
          ·simp only [Act.put, lS, lZ, lU, i64_w, i32_w]
           rfl
          refine pure_ (i := 17) (N := some 38) (v := undef) (a' := ?_) (msk 18 18) rfl rfl (any_of HT_.out (by kernel_rfl)) (fun _ _ _ h => h) (Or.inr ⟨by rfl, rfl⟩) ?_ ?_
          rotate_left
          ·simp only [Act.put, lS, lZ, lU, i64_w, i32_w]
           rfl
          refine pure_ (i := 18) (N := some 39) (v := undef) (a' := ?_) (msk 19 17) rfl rfl (any_of HT_.out (by kernel_rfl)) (fun _ _ _ h => h) (Or.inr ⟨by rfl, rfl⟩) ?_ ?_
          rotate_left
          ·simp only [Act.put, lS, lZ, lU, i64_w, i32_w]
           rfl
          refine pure_ (i := 19) (N := some 40) (v := undef) (a' := ?_) (msk 20 16) rfl rfl (any_of HT_.out (by kernel_rfl)) (fun _ _ _ h => h) (Or.inr ⟨by rfl, rfl⟩) ?_ ?_
          rotate_left
          ·simp only [Act.put, lS, lZ, lU, i64_w, i32_w]
           rfl
          refine pure_ (i := 20) (N := some 41) (v := undef) (a' := ?_) (msk 21 15) rfl rfl (any_of HT_.out (by kernel_rfl)) (fun _ _ _ h => h) (Or.inr ⟨by rfl, rfl⟩) ?_ ?_
          rotate_left
          ·simp only [Act.put, lS, lZ, lU, i64_w, i32_w]
           rfl
          refine pure_ (i := 21) (N := some 42) (v := undef) (a' := ?_) (msk 22 14) rfl rfl (any_of HT_.out (by kernel_rfl)) (fun _ _ _ h => h) (Or.inr ⟨by rfl, rfl⟩) ?_ ?_
          rotate_left
          ·simp only [Act.put, lS, lZ, lU, i64_w, i32_w]
           rfl
          refine pure_ (i := 22) (N := some 43) (v := undef) (a' := ?_) (msk 23 13) rfl rfl (any_of HT_.out (by kernel_rfl)) (fun _ _ _ h => h) (Or.inr ⟨by rfl, rfl⟩) ?_ ?_
          rotate_left
          ·simp only [Act.put, lS, lZ, lU, i64_w, i32_w]
           rfl
          refine pure_ (i := 23) (N := some 44) (v := undef) (a' := ?_) (msk 24 12) rfl rfl (any_of HT_.out (by kernel_rfl)) (fun _ _ _ h => h) (Or.inr ⟨by rfl, rfl⟩) ?_ ?_
          rotate_left
          ·simp only [Act.put, lS, lZ, lU, i64_w, i32_w]
           rfl
          refine pure_ (i := 24) (N := some 45) (v := undef) (a' := ?_) (msk 25 11) rfl rfl (any_of HT_.out (by kernel_rfl)) (fun _ _ _ h => h) (Or.inr ⟨by rfl, rfl⟩) ?_ ?_
          rotate_left
          ·simp only [Act.put, lS, lZ, lU, i64_w, i32_w]
           rfl
          refine pure_ (i := 25) (N := some 46) (v := undef) (a' := ?_) (msk 26 10) rfl rfl (any_of HT_.out (by kernel_rfl)) (fun _ _ _ h => h) (Or.inr ⟨by rfl, rfl⟩) ?_ ?_
          rotate_left
          ·simp only [Act.put, lS, lZ, lU, i64_w, i32_w]
           rfl
          refine pure_ (i := 26) (N := some 47) (v := undef) (a' := ?_) (msk 27 9) rfl rfl (any_of HT_.out (by kernel_rfl)) (fun _ _ _ h => h) (Or.inr ⟨by rfl, rfl⟩) ?_ ?_
          rotate_left
          ·simp only [Act.put, lS, lZ, lU, i64_w, i32_w]
           rfl
          refine pure_ (i := 27) (N := some 48) (v := undef) (a' := ?_) (msk 28 8) rfl rfl (any_of HT_.out (by kernel_rfl)) (fun _ _ _ h => h) (Or.inr ⟨by rfl, rfl⟩) ?_ ?_
          rotate_left
          ·simp only [Act.put, lS, lZ, lU, i64_w, i32_w]
           rfl
          refine pure_ (i := 28) (N := some 49) (v := undef) (a' := ?_) (msk 29 7) rfl rfl (any_of HT_.out (by kernel_rfl)) (fun _ _ _ h => h) (Or.inr ⟨by rfl, rfl⟩) ?_ ?_
          rotate_left
          ·simp only [Act.put, lS, lZ, lU, i64_w, i32_w]
           rfl
          refine pure_ (i := 29) (N := some 50) (v := undef) (a' := ?_) (msk 30 6) rfl rfl (any_of HT_.out (by kernel_rfl)) (fun _ _ _ h => h) (Or.inr ⟨by rfl, rfl⟩) ?_ ?_
          rotate_left
          ·simp only [Act.put, lS, lZ, lU, i64_w, i32_w]
           rfl
          refine pure_ (i := 30) (N := some 51) (v := undef) (a' := ?_) (msk 31 5) rfl rfl (any_of HT_.out (by kernel_rfl)) (fun _ _ _ h => h) (Or.inr ⟨by rfl, rfl⟩) ?_ ?_
          rotate_left
          ·simp only [Act.put, lS, lZ, lU, i64_w, i32_w]
           rfl
          refine pure_ (i := 31) (N := some 52) (v := undef) (a' := ?_) (msk 32 4) rfl rfl (any_of HT_.out (by kernel_rfl)) (fun _ _ _ h => h) (Or.inr ⟨by rfl, rfl⟩) ?_ ?_
          rotate_left
          ·simp only [Act.put, lS, lZ, lU, i64_w, i32_w]
           rfl
          refine pure_ (i := 32) (N := some 53) (v := undef) (a' := ?_) (msk 33 3) rfl rfl (any_of HT_.out (by kernel_rfl)) (fun _ _ _ h => h) (Or.inr ⟨by rfl, rfl⟩) ?_ ?_
          rotate_left
          ·simp only [Act.put, lS, lZ, lU, i64_w, i32_w]
           rfl
          refine pure_ (i := 33) (N := some 54) (v := undef) (a' := ?_) (msk 34 2) rfl rfl (any_of HT_.out (by kernel_rfl)) (fun _ _ _ h => h) (Or.inr ⟨by rfl, rfl⟩) ?_ ?_
          rotate_left
          ·simp only [Act.put, lS, lZ, lU, i64_w, i32_w]
           rfl
          refine pure_ (i := 34) (N := some 55) (v := undef) (a' := ?_) (msk 35 1) rfl rfl (any_of HT_.out (by kernel_rfl)) (fun _ _ _ h => h) (Or.inr ⟨by rfl, rfl⟩) ?_ ?_
          rotate_left
          ·simp only [Act.put, lS, lZ, lU, i64_w, i32_w]
           rfl
          refine pure_ (i := 35) (N := some 56) (v := ?_) (a' := ?_) (msk 36 0) rfl rfl (any_of HT_.out (by kernel_rfl)) (fun _ _ _ h => h) (Or.inl ⟨by rfl, ?_⟩) ?_ ?_
          rotate_left
          ·intro w'
           go_simp
           with_reducible rfl
          rotate_left
          ·simp only [Act.put, lS, lZ, lU, i64_w, i32_w]
           rfl
          refine done_ (done_of HT_.out (by kernel_rfl)) ?_
          try go_wp2
          go_ret
          exact ⟨by first | rfl | (simp [errW_none, errW_some] <;> rfl) | (simp [*, errW_none, errW_some] <;> rfl), by repeat (first | (with_reducible first | exact HB.out | apply wA | apply wN_ | apply wD | refine wS ?_ GE479.out | refine wS ?_ GE481.out) | exact HB.out)⟩
        ·rw [if_neg c11] at H
         exact absurd H (by simp)
       ·rw [if_neg c10] at H
        exact absurd H (by simp)
      ·rw [if_neg c9] at H
       have c9b0 : decide (x16_2 < (l0_1.length : Int)) = false := decide_eq_false c9
       clear c9
       obtain rfl := Option.some.inj H
       go_wp2
       go_ret
       exact ⟨by first | rfl | (simp [errW_none, errW_some] <;> rfl) | (simp [*, errW_none, errW_some] <;> rfl), by repeat (first | (with_reducible first | exact HB.out | apply wA | apply wN_ | apply wD | refine wS ?_ GE479.out) | exact HB.out)⟩

end Go.Proofs.Ytflhbakjlbmfbaa.Pr
