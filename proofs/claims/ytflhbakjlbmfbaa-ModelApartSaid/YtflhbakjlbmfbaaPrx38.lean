-- Printed by a program of this session (wip/tools/myprint.py) that runs the kit's print with contracts of this session's own.
import Derived.Test.YtflhbakjlbmfbaaPrx0
import Derived.Test.YtflhbakjlbmfbaaShort
import Derived.Test.YtflhbakjlbmfbaaWTab
import Derived.Test.YtflhbakjlbmfbaaScope
namespace Go.Proofs.Ytflhbakjlbmfbaa.Pr
open Go.RowKit Go.Proofs.YtflhbakjlbmfbaaW.PrintWords Go.Proofs.YtflhbakjlbmfbaaW.PrintLast Go.Proofs.YtflhbakjlbmfbaaW.PrintMore
attribute [local go_sem] max2_int min2_int max_two min_two max_three min_three max_four min_four   -- for this text's walks alone
set_option linter.unusedVariables false
set_option linter.unusedSimpArgs false

/-! ### rickyardref13_find: function 87 -/
def rickyardref13_find.l0 : Nat → List (S48) → Int → Int → Option (Int)
 | 0, _, _, _ => none
 | k + 1, x0, x1, x5 => if x5 < (x0.length : Int) then (if 0 ≤ x5 then (if ((rd_T48 x0 x5).f0) = x1 then (some x5) else (rickyardref13_find.l0 k x0 x1 (wrap64 (x5 + 1)))) else (none)) else (some (-1))
def rickyardref13_find.f (k : Nat) (l0 : List (S48)) (a1 : Int) : Option (Int) := rickyardref13_find.l0 k l0 a1 0
theorem rickyardref13_find.mono_l : ∀ k, (∀ y0 y1 y2, LeO (rickyardref13_find.l0 k y0 y1 y2) (rickyardref13_find.l0 (k + 1) y0 y1 y2))
 | 0 => fun _ _ _ r h => by simp [rickyardref13_find.l0] at h
 | k + 1 => by
  have ih0 := rickyardref13_find.mono_l k
  ·intro y0 y1 y2
   unfold rickyardref13_find.l0
   repeat' first
   | (with_reducible exact ih0 _ _ _)
   | (with_reducible exact LeO.refl _)
   | (with_reducible exact LeO.none _)
   | (with_reducible refine LeO.ite ?_ ?_)
   | (with_reducible refine LeO.bind ?_ (fun _ => ?_))
   | exact ih0 _ _ _
   | exact LeO.none _
   | refine LeO.ite ?_ ?_
   | refine LeO.bind ?_ (fun _ => ?_)
theorem rickyardref13_find.mono : ∀ a0 a1 k, LeO (rickyardref13_find.f k a0 a1) (rickyardref13_find.f (k + 1) a0 a1) := by
 intro a0 a1 k
 have ih0 := rickyardref13_find.mono_l k
 unfold rickyardref13_find.f
 repeat' first
   | (with_reducible exact ih0 _ _ _)
   | (with_reducible exact LeO.refl _)
   | (with_reducible exact LeO.none _)
   | (with_reducible refine LeO.ite ?_ ?_)
   | (with_reducible refine LeO.bind ?_ (fun _ => ?_))
   | exact ih0 _ _ _
   | exact LeO.none _
   | refine LeO.ite ?_ ?_
   | refine LeO.bind ?_ (fun _ => ?_)
set_option maxHeartbeats 8000000 in
set_option maxRecDepth 100000 in
theorem rickyardref13_find.calls (k : Nat) (A0 : Option Addr) (c0 : Nat) (l0 : List (S48)) (a1 : Int) (r : Int) (w : World) (hr0 : Kd.C k48 w A0 l0.length l0) (hc0 : l0.length ≤ c0) (h : rickyardref13_find.f k l0 a1 = some r) :
  Calls Try.prog 87 #[.slice A0 l0.length c0, .int .i64 a1] w fun e w' => e = .returned (.int .i64 r) ∧ Drawn0 w w' := by
 have HR0 := aM hr0
 have HC0 := aM hc0
 clear hr0 hc0
 have H : (rickyardref13_find.l0 k l0 a1 0) = some r := h
 clear h
 have H' := aM H
 clear H
 go_enter Try.func87, Try.ntmps87
 go_wp2
 go_loopg [5] k (fun kq v5 w' => ∃ (x5_1 : Int), v5 = .int .i64 x5_1 ∧ Aside0 (rickyardref13_find.l0 kq l0 a1 x5_1 = some r) ∧ Aside0 (kq ≤ k) ∧ Drawn0 w w')
 case atStart => exact ⟨(0),(by first|rfl|(simp;done)|(simp [*];done)),H',⟨Nat.le_refl _⟩,by repeat (first|exact Drawn0.refl _|apply Drawn0.step)⟩
 case round =>
  clear H'
  try clear p2
  obtain ⟨x5_1, rfl, HA, HK1, ⟨m1, rfl⟩⟩ := hrel
  cases gk with
  | zero => exact absurd HA.out (by simp [rickyardref13_find.l0])
  | succ k1 =>
   have H := HA.out
   clear HA
   simp only [rickyardref13_find.l0] at H
   by_cases c3 : x5_1 < (l0.length : Int)
   ·rw [if_pos c3] at H
    have c3b0 : decide (x5_1 < (l0.length : Int)) = true := decide_eq_true c3
    clear c3
    by_cases c4 : 0 ≤ x5_1
    ·rw [if_pos c4] at H
     have c4b0 : decide (0 ≤ x5_1) = true := decide_eq_true c4
     clear c4
     by_cases c5 : ((rd_T48 l0 x5_1).f0) = a1
     ·rw [if_pos c5] at H
      have c5b0 : (((rd_T48 l0 x5_1).f0) == a1) = true := beq_iff_eq.mpr c5
      have c5b1 : (((rd_T48 l0 x5_1).f0) != a1) = false := bne_eq_false_iff_eq.mpr c5
      clear c5
      obtain rfl := Option.some.inj H
      have p486 : 0 ≤ (x5_1 : Int) := oD (by first | (with_reducible assumption) | assumption)
      have q486 : x5_1 < (l0.length : Int) := oD (by first | (with_reducible assumption) | assumption)
      obtain ⟨ad486, e486, hx486_0, hx486_1, hx486_2⟩ := at_T48 HR0.out x5_1 p486 q486
      cases e486
      replace p486 := eq_true p486
      replace q486 := eq_true q486
      go_wp2
      go_ret
      exact ⟨by first | rfl | (simp; done) | (simp [*]; done), by repeat (first | exact Drawn0.refl _ | apply Drawn0.step)⟩
     ·rw [if_neg c5] at H
      have c5b0 : (((rd_T48 l0 x5_1).f0) == a1) = false := beq_eq_false_iff_ne.mpr c5
      have c5b1 : (((rd_T48 l0 x5_1).f0) != a1) = true := bne_iff_ne.mpr c5
      have H' := aM H
      clear H
      have p486 : 0 ≤ (x5_1 : Int) := oD (by first | (with_reducible assumption) | assumption)
      have q486 : x5_1 < (l0.length : Int) := oD (by first | (with_reducible assumption) | assumption)
      obtain ⟨ad486, e486, hx486_0, hx486_1, hx486_2⟩ := at_T48 HR0.out x5_1 p486 q486
      cases e486
      replace p486 := eq_true p486
      replace q486 := eq_true q486
      go_wp2
      go_roundg k1
      case measure => have:=HK1.out;omega
      case rel => exact ⟨(wrap64 (x5_1 + 1)),(by first|rfl|(simp;done)|(simp [*];done)),H',⟨by have:=HK1.out;omega⟩,by repeat (first|exact Drawn0.refl _|apply Drawn0.step)⟩
    ·rw [if_neg c4] at H
     exact absurd H (by simp)
   ·rw [if_neg c3] at H
    have c3b0 : decide (x5_1 < (l0.length : Int)) = false := decide_eq_false c3
    clear c3
    obtain rfl := Option.some.inj H
    go_wp2
    go_ret
    exact ⟨by first | rfl | (simp; done) | (simp [*]; done), by repeat (first | exact Drawn0.refl _ | apply Drawn0.step)⟩

/-! ### rickyardref13_Free: function 63 -/
def rickyardref13_Free.f (k : Nat) (a0_0 : Int) (l0_1 : List (S48)) (a1 : Int) : Option (Int × (List (S48)) × Int) := (rickyardref13_find.f k l0_1 a1).bind fun t489 => (if t489 < 0 then (some (0, ([] : List (S48)), 2)) else ((some (([] : List (S48)) : List (S48))).bind fun y490 => (if 0 ≤ t489 then (if t489 ≤ (l0_1.length : Int) then ((some (l0_1.take (t489 : Int).toNat : List (S48))).bind fun y493 => (if y490.length + y493.length < 5864062014805 then ((some (y490 ++ y493 : List (S48))).bind fun y497 => (if 0 ≤ (wrap64 (t489 + 1)) then (if (wrap64 (t489 + 1)) ≤ (l0_1.length : Int) then ((some (l0_1.drop ((wrap64 (t489 + 1)) : Int).toNat : List (S48))).bind fun y500 => (if y497.length + y500.length < 5864062014805 then (some (a0_0, (y497 ++ y500), 0)) else (none))) else (none)) else (none))) else (none))) else (none)) else (none))))
theorem rickyardref13_Free.mono : ∀ a0 a1 a2 k, LeO (rickyardref13_Free.f k a0 a1 a2) (rickyardref13_Free.f (k + 1) a0 a1 a2) := by
 intro a0 a1 a2 k
 unfold rickyardref13_Free.f
 repeat' first
   | (with_reducible exact rickyardref13_find.mono _ _ _)
   | (with_reducible exact LeO.refl _)
   | (with_reducible exact LeO.none _)
   | (with_reducible refine LeO.ite ?_ ?_)
   | (with_reducible refine LeO.bind ?_ (fun _ => ?_))
   | exact rickyardref13_find.mono _ _ _
   | exact LeO.none _
   | refine LeO.ite ?_ ?_
   | refine LeO.bind ?_ (fun _ => ?_)
def rickyardref13_Free.T4 : Bool × List (List Nat × List Nat) := (true, [([], []), ([0], [0]), ([], []), ([], []), ([3], [3]), ([], []), ([4, 5], [4, 5]), ([2, 6], [2, 6]), ([], []), ([8], [8]), ([], []), ([10], [10]), ([9, 11], [9, 11]), ([7, 12, 7], [7, 12]), ([1, 13], [1, 13]), ([14, 13, 0, 1, 2, 3, 4, 5, 6, 7, 8, 9, 10, 11, 12, 13, 14], [14]), ([15, 0, 1, 2, 3, 4, 5, 6, 7, 8, 9, 10, 11, 12, 13, 14, 15], [])])
def rickyardref13_Free.B4 : List Nat := [0, 1, 0, 0, 8, 0, 56, 124, 0, 256, 0, 1024, 3840, 8188, 16383, 32767, 65535]
theorem rickyardref13_Free.tab4 : rtab .any (opsOf Try.f63 4) = rickyardref13_Free.T4 := by kernel_rfl
theorem rickyardref13_Free.bits4 : waitsOk rickyardref13_Free.T4.2 rickyardref13_Free.B4 = true := by kernel_rfl
set_option maxHeartbeats 8000000 in
set_option maxRecDepth 100000 in
theorem rickyardref13_Free.calls (k : Nat) (a0_0 : Int) (A0_1 : Option Addr) (c0_1 : Nat) (l0_1 : List (S48)) (a1 : Int) (r1 : Int) (r2 : List (S48)) (r3 : Int) (w : World) (hr0_1 : Kd.C k48 w A0_1 l0_1.length l0_1) (hc0_1 : l0_1.length ≤ c0_1) (h : rickyardref13_Free.f k a0_0 l0_1 a1 = some (r1, r2, r3)) :
  Calls Try.prog 63 #[.agg #[.int .i64 a0_0, .slice A0_1 l0_1.length c0_1], .int .i64 a1] w fun e w' => ∃ v1_ : Value, e = .returned (.tuple #[.agg #[.int .i64 r1, v1_], .int .i64 r3]) ∧ Kd.R k48 48 w' w.heap.size (fun _ => True) v1_ r2 ∧ Below w.heap.size w w' := by
 have hu41 := Try.underlying41
 have HR0_1 := aM hr0_1
 have HC0_1 := aM hc0_1
 clear hr0_1 hc0_1
 have HB := aM (Below.refl w.heap.size w)
 have H : ((rickyardref13_find.f k l0_1 a1).bind fun t489 => (if t489 < 0 then (some (0, ([] : List (S48)), 2)) else ((some (([] : List (S48)) : List (S48))).bind fun y490 => (if 0 ≤ t489 then (if t489 ≤ (l0_1.length : Int) then ((some (l0_1.take (t489 : Int).toNat : List (S48))).bind fun y493 => (if y490.length + y493.length < 5864062014805 then ((some (y490 ++ y493 : List (S48))).bind fun y497 => (if 0 ≤ (wrap64 (t489 + 1)) then (if (wrap64 (t489 + 1)) ≤ (l0_1.length : Int) then ((some (l0_1.drop ((wrap64 (t489 + 1)) : Int).toNat : List (S48))).bind fun y500 => (if y497.length + y500.length < 5864062014805 then (some (a0_0, (y497 ++ y500), 0)) else (none))) else (none)) else (none))) else (none))) else (none)) else (none))))) = some (r1, r2, r3) := h
 clear h
 replace H := Option.bind_eq_some_iff.mp H
 obtain ⟨t489, A30, H⟩ := H
 replace H : (if t489 < 0 then (some (0, ([] : List (S48)), 2)) else ((some (([] : List (S48)) : List (S48))).bind fun y490 => (if 0 ≤ t489 then (if t489 ≤ (l0_1.length : Int) then ((some (l0_1.take (t489 : Int).toNat : List (S48))).bind fun y493 => (if y490.length + y493.length < 5864062014805 then ((some (y490 ++ y493 : List (S48))).bind fun y497 => (if 0 ≤ (wrap64 (t489 + 1)) then (if (wrap64 (t489 + 1)) ≤ (l0_1.length : Int) then ((some (l0_1.drop ((wrap64 (t489 + 1)) : Int).toNat : List (S48))).bind fun y500 => (if y497.length + y500.length < 5864062014805 then (some (a0_0, (y497 ++ y500), 0)) else (none))) else (none)) else (none))) else (none))) else (none)) else (none)))) = some (r1, r2, r3) := H
 have A3 := aM A30
 clear A30
 by_cases c4 : t489 < 0
 ·rw [if_pos c4] at H
  have c4b0 : decide (t489 < 0) = true := decide_eq_true c4
  clear c4
  simp only [Option.some.injEq, Prod.mk.injEq] at H
  obtain ⟨rfl, rfl, rfl⟩ := H
  go_enter Try.func63, Try.ntmps63
  go_wp2_with (first|((with_reducible refine gate_dst (N:=2) rfl ?_);refine box_event ?hg (N:=2) ?hd (cs:=#[.int .i64 a0_0,.slice A0_1 l0_1.length c0_1]) (t:=41) ?hr ?_;(case hd => rfl);(case hg => rfl);(case hr => first|(go_simp;done)|(go_simp;rfl));intro gb487 hg w5 hbox hb;have n0_:=aM (wT (by repeat (first|(with_reducible first|exact HB.out|apply wA|apply wN_|apply wD)|exact HB.out)) hb);have n1_:=aM (hbox);have n2_:=aM ((by rw [hg];exact (wZ (by repeat (first|(with_reducible first|exact HB.out|apply wA|apply wN_|apply wD)|exact HB.out))) : w.heap.size ≤ gb487));have n3_:=aM ((by rw [hg];exact (wZ (by repeat (first|(with_reducible first|exact HB.out|apply wA|apply wN_|apply wD)|exact HB.out))) : w.heap.size ≤ gb487));clear HB;have HB:=n0_;have BK487:=n1_;have GW487:=n2_;have GE487:=n3_;clear n0_ n1_ n2_ n3_;clear hb hbox hg)|((with_reducible refine gate_dst (N:=4) rfl ?_);refine box_event ?hg (N:=4) ?hd (cs:=#[.int .i64 0,.slice none 0 0]) (t:=41) ?hr ?_;(case hd => rfl);(case hg => rfl);(case hr => first|(go_simp;done)|(go_simp;rfl));intro gb488 hg w6 hbox hb;have n0_:=aM (bB (g:=gb487) (o:=.cells #[.int .i64 a0_0,.slice A0_1 l0_1.length c0_1] 41 (0,0)) (by (with_reducible repeat (first|refine bN ?_ _|refine bD ?_|refine bA ?_ _));exact BK487.out) hb);have n1_:=aM (wT (by repeat (first|(with_reducible first|exact HB.out|apply wA|apply wN_|apply wD|refine wS ?_ GE487.out)|exact HB.out)) hb);have n2_:=aM (hbox);have n3_:=aM ((by rw [hg];exact (wZ (by repeat (first|(with_reducible first|exact HB.out|apply wA|apply wN_|apply wD|refine wS ?_ GE487.out)|exact HB.out))) : w.heap.size ≤ gb488));have n4_:=aM ((by rw [hg];exact (wZ (by repeat (first|(with_reducible first|exact HB.out|apply wA|apply wN_|apply wD|refine wS ?_ GE487.out)|exact HB.out))) : w.heap.size ≤ gb488));have n5_:=aM ((by rw [hg];exact Nat.ne_of_lt (bL (g:=gb487) (o:=.cells #[.int .i64 a0_0,.slice A0_1 l0_1.length c0_1] 41 (0,0)) (by (with_reducible repeat (first|refine bN ?_ _|refine bD ?_|refine bA ?_ _));exact BK487.out)) : gb487 ≠ gb488));have n6_:=aM ((by rw [hg];exact Nat.ne_of_gt (bL (g:=gb487) (o:=.cells #[.int .i64 a0_0,.slice A0_1 l0_1.length c0_1] 41 (0,0)) (by (with_reducible repeat (first|refine bN ?_ _|refine bD ?_|refine bA ?_ _));exact BK487.out)) : gb488 ≠ gb487));clear BK487;clear HB;have BK487:=n0_;have HB:=n1_;have BK488:=n2_;have GW488:=n3_;have GE488:=n4_;have NB487_488:=n5_;have NB488_487:=n6_;clear n0_ n1_ n2_ n3_ n4_ n5_ n6_;clear hb hbox hg;have hnb7:=NB487_488.out;have hnc7:=NB488_487.out;have hcz8_0 : w6.cell? ⟨gb487,0,none⟩ = some (.int .i64 a0_0):=(bC BK487.out 0).trans rfl;have hcz8_1 : w6.cell? ⟨gb487,1,none⟩ = some (.slice A0_1 l0_1.length c0_1):=(bC BK487.out 1).trans rfl;have hfz8_0:=bF BK487.out 0;have hfz8_1:=bF BK487.out 1)|((with_reducible refine gate_callee (f:=87) rfl ?_);refine goesL_ (some 10) rfl rfl Try.func87 (by kernel_rfl) rfl #[.slice A0_1 l0_1.length c0_1,.int .i64 a1] rfl (by (try simp only [lM,lC,lN]);first|done|rfl|(simp only [lD,lT];rfl)) ?_;(with_reducible refine (rickyardref13_find.calls k _ _ l0_1 a1 t489 _ ?side1 ?side2 A3.out).mono ?_);(case side1 => repeat (first|exact (cB HR0_1.out HB.out)|(with_reducible refine cA ?_ _)|(with_reducible refine cN ?_ _)|(with_reducible refine cD ?_)));(case side2 => exact HC0_1.out);rintro e w' ⟨rfl,⟨nd,rfl⟩⟩;refine ⟨_,rfl,?_⟩;(try (rw [drewN_self w6];generalize hq_ : World.drewN w6 _ = w6;have n0_ : Aside0 (w6.heap[gb487]? = some (.cells #[.int .i64 a0_0,.slice A0_1 l0_1.length c0_1] 41 (0,0))):=⟨by rw [← hq_];exact (by (with_reducible repeat (first|refine bN ?_ _|refine bD ?_|refine bA ?_ _));exact BK487.out)⟩;have n1_ : Aside0 (w6.heap[gb488]? = some (.cells #[.int .i64 0,.slice none 0 0] 41 (0,0))):=⟨by rw [← hq_];exact (by (with_reducible repeat (first|refine bN ?_ _|refine bD ?_|refine bA ?_ _));exact BK488.out)⟩;have n2_ : Aside0 (Below w.heap.size w w6):=⟨by rw [← hq_];exact (by repeat (first|(with_reducible first|exact HB.out|apply wA|apply wN_|apply wD|refine wS ?_ GE487.out|refine wS ?_ GE488.out)|exact HB.out))⟩;clear BK487 BK488 HB hq_;have BK487:=n0_;have BK488:=n1_;have HB:=n2_;clear n0_ n1_ n2_));have hcz9_0 : w6.cell? ⟨gb488,0,none⟩ = some (.int .i64 0):=(bC BK488.out 0).trans rfl;have hcz9_1 : w6.cell? ⟨gb488,1,none⟩ = some (.slice none 0 0):=(bC BK488.out 1).trans rfl;have hfz9_0:=bF BK488.out 0;have hfz9_1:=bF BK488.out 1))
  refine bodyPost_ret (results_ct rfl _ _ gb488 41 #[.int .i64 0, .slice none 0 0] (0, 0) _ rfl (by (with_reducible repeat (first | refine bN ?_ _ | refine bD ?_ | refine bA ?_ _)); refine bP (cs := #[.int .i64 0, .slice none 0 0]) ?_ 1 _ rfl; (with_reducible repeat (first | refine bN ?_ _ | refine bD ?_ | refine bA ?_ _)); refine bP (cs := #[.int .i64 0, .slice none 0 0]) ?_ 0 _ rfl; (with_reducible repeat (first | refine bN ?_ _ | refine bD ?_ | refine bA ?_ _)); exact BK488.out) Try.underlying41 rfl (by kernel_rfl)) rfl ?_
  exact ⟨_, by first | rfl | (simp [errW_none, errW_some] <;> rfl) | (simp [*, errW_none, errW_some] <;> rfl), by first | exact Kd.R_nil _ _ _ _ _ | exact Kd.N_nil _ _ _ _ _ | exact Kd.V_nil _ _ _ _ _ | exact Kd.Q_nil _ _ _ _ _ | exact Kd.S_nil _ _ _ _ _, by repeat (first | (with_reducible first | exact HB.out | apply wA | apply wN_ | apply wD | refine wS ?_ GE487.out | refine wS ?_ GE488.out) | exact HB.out)⟩
 ·rw [if_neg c4] at H
  have c4b0 : decide (t489 < 0) = false := decide_eq_false c4
  clear c4
  obtain ⟨y490, hy490⟩ : ∃ y_ : List (S48), y_ = (([] : List (S48))) := ⟨_, rfl⟩
  replace H : (if 0 ≤ t489 then (if t489 ≤ (l0_1.length : Int) then ((some (l0_1.take (t489 : Int).toNat : List (S48))).bind fun y493 => (if y490.length + y493.length < 5864062014805 then ((some (y490 ++ y493 : List (S48))).bind fun y497 => (if 0 ≤ (wrap64 (t489 + 1)) then (if (wrap64 (t489 + 1)) ≤ (l0_1.length : Int) then ((some (l0_1.drop ((wrap64 (t489 + 1)) : Int).toNat : List (S48))).bind fun y500 => (if y497.length + y500.length < 5864062014805 then (some (a0_0, (y497 ++ y500), 0)) else (none))) else (none)) else (none))) else (none))) else (none)) else (none)) = some (r1, r2, r3) := by first | (rw [hy490]; with_reducible exact H) | (have H2_ := (Option.bind_some _ _).symm.trans H; rw [hy490]; with_reducible exact H2_) | (have H2_ := (Option.bind_some _ _).symm.trans H; with_reducible exact H2_) | with_reducible exact H | (rw [hy490]; exact H) | exact H
  have Ny490 := aM hy490
  clear hy490
  by_cases c10 : 0 ≤ t489
  ·rw [if_pos c10] at H
   have c10b0 := eq_true c10
   have c10b1 : decide (0 ≤ t489) = true := decide_eq_true c10
   clear c10
   by_cases c11 : t489 ≤ (l0_1.length : Int)
   ·rw [if_pos c11] at H
    have c11b0 := eq_true c11
    have c11b1 : decide (t489 ≤ (l0_1.length : Int)) = true := decide_eq_true c11
    clear c11
    obtain ⟨y493, hy493⟩ : ∃ y_ : List (S48), y_ = (l0_1.take (t489 : Int).toNat) := ⟨_, rfl⟩
    replace H : (if y490.length + y493.length < 5864062014805 then ((some (y490 ++ y493 : List (S48))).bind fun y497 => (if 0 ≤ (wrap64 (t489 + 1)) then (if (wrap64 (t489 + 1)) ≤ (l0_1.length : Int) then ((some (l0_1.drop ((wrap64 (t489 + 1)) : Int).toNat : List (S48))).bind fun y500 => (if y497.length + y500.length < 5864062014805 then (some (a0_0, (y497 ++ y500), 0)) else (none))) else (none)) else (none))) else (none)) = some (r1, r2, r3) := by first | (rw [hy493]; with_reducible exact H) | (have H2_ := (Option.bind_some _ _).symm.trans H; rw [hy493]; with_reducible exact H2_) | (have H2_ := (Option.bind_some _ _).symm.trans H; with_reducible exact H2_) | with_reducible exact H | (rw [hy493]; exact H) | exact H
    have Ny493 := aM hy493
    clear hy493
    by_cases c12 : y490.length + y493.length < 5864062014805
    ·rw [if_pos c12] at H
     have LMc12 := aM c12
     clear c12
     obtain ⟨y497, hy497⟩ : ∃ y_ : List (S48), y_ = (y490 ++ y493) := ⟨_, rfl⟩
     replace H : (if 0 ≤ (wrap64 (t489 + 1)) then (if (wrap64 (t489 + 1)) ≤ (l0_1.length : Int) then ((some (l0_1.drop ((wrap64 (t489 + 1)) : Int).toNat : List (S48))).bind fun y500 => (if y497.length + y500.length < 5864062014805 then (some (a0_0, (y497 ++ y500), 0)) else (none))) else (none)) else (none)) = some (r1, r2, r3) := by first | (rw [hy497]; with_reducible exact H) | (have H2_ := (Option.bind_some _ _).symm.trans H; rw [hy497]; with_reducible exact H2_) | (have H2_ := (Option.bind_some _ _).symm.trans H; with_reducible exact H2_) | with_reducible exact H | (rw [hy497]; exact H) | exact H
     have Ny497 := aM hy497
     clear hy497
     obtain ⟨ji13, hji13⟩ : ∃ j_ : Int, (wrap64 (t489 + 1)) = j_ := ⟨_, rfl⟩
     replace H : (if 0 ≤ (ji13) then (if (ji13) ≤ (l0_1.length : Int) then ((some (l0_1.drop ((ji13) : Int).toNat : List (S48))).bind fun y500 => (if y497.length + y500.length < 5864062014805 then (some (a0_0, (y497 ++ y500), 0)) else (none))) else (none)) else (none)) = some (r1, r2, r3) := by first | (rw [hji13] at H; exact H) | (simp only [hji13] at H ⊢; exact H)
     (try rw [hji13] at A3)
     have hji13w : (IntKind.i64.wrap (t489 + 1)) = ji13 := (i64_w _).trans hji13
     by_cases c14 : 0 ≤ (ji13)
     ·rw [if_pos c14] at H
      have c14b0 := eq_true c14
      have c14b1 : decide (0 ≤ (ji13)) = true := decide_eq_true c14
      clear c14
      by_cases c15 : (ji13) ≤ (l0_1.length : Int)
      ·rw [if_pos c15] at H
       have c15b0 := eq_true c15
       have c15b1 : decide ((ji13) ≤ (l0_1.length : Int)) = true := decide_eq_true c15
       clear c15
       obtain ⟨y500, hy500⟩ : ∃ y_ : List (S48), y_ = (l0_1.drop ((ji13) : Int).toNat) := ⟨_, rfl⟩
       replace H : (if y497.length + y500.length < 5864062014805 then (some (a0_0, (y497 ++ y500), 0)) else (none)) = some (r1, r2, r3) := by first | (rw [hy500]; with_reducible exact H) | (have H2_ := (Option.bind_some _ _).symm.trans H; rw [hy500]; with_reducible exact H2_) | (have H2_ := (Option.bind_some _ _).symm.trans H; with_reducible exact H2_) | with_reducible exact H | (rw [hy500]; exact H) | exact H
       have Ny500 := aM hy500
       clear hy500
       by_cases c16 : y497.length + y500.length < 5864062014805
       ·rw [if_pos c16] at H
        have LMc16 := aM c16
        clear c16
        obtain ⟨y504, hy504⟩ : ∃ y_ : List (S48), y_ = (y497 ++ y500) := ⟨_, rfl⟩
        replace H : (some (a0_0, y504, 0)) = some (r1, r2, r3) := by first | (rw [hy504]; with_reducible exact H) | (have H2_ := (Option.bind_some _ _).symm.trans H; rw [hy504]; with_reducible exact H2_) | (have H2_ := (Option.bind_some _ _).symm.trans H; with_reducible exact H2_) | with_reducible exact H | (rw [hy504]; exact H) | exact H
        have Ny504 := aM hy504
        clear hy504
        simp only [Option.some.injEq, Prod.mk.injEq] at H
        obtain ⟨rfl, rfl, rfl⟩ := H
        go_enter Try.func63, Try.ntmps63
        try go_wp2_with (first|((with_reducible refine gate_dst (N:=2) rfl ?_);refine box_event ?hg (N:=2) ?hd (cs:=#[.int .i64 a0_0,.slice A0_1 l0_1.length c0_1]) (t:=41) ?hr ?_;(case hd => rfl);(case hg => rfl);(case hr => first|(go_simp;done)|(go_simp;rfl));intro gb487 hg w17 hbox hb;have n0_:=aM (wT (by repeat (first|(with_reducible first|exact HB.out|apply wA|apply wN_|apply wD)|exact HB.out)) hb);have n1_:=aM (hbox);have n2_:=aM ((by rw [hg];exact (wZ (by repeat (first|(with_reducible first|exact HB.out|apply wA|apply wN_|apply wD)|exact HB.out))) : w.heap.size ≤ gb487));have n3_:=aM ((by rw [hg];exact (wZ (by repeat (first|(with_reducible first|exact HB.out|apply wA|apply wN_|apply wD)|exact HB.out))) : w.heap.size ≤ gb487));clear HB;have HB:=n0_;have BK487:=n1_;have GW487:=n2_;have GE487:=n3_;clear n0_ n1_ n2_ n3_;clear hb hbox hg)|((with_reducible refine gate_dst (N:=4) rfl ?_);refine box_event ?hg (N:=4) ?hd (cs:=#[.int .i64 0,.slice none 0 0]) (t:=41) ?hr ?_;(case hd => rfl);(case hg => rfl);(case hr => first|(go_simp;done)|(go_simp;rfl));intro gb488 hg w18 hbox hb;have n0_:=aM (bB (g:=gb487) (o:=.cells #[.int .i64 a0_0,.slice A0_1 l0_1.length c0_1] 41 (0,0)) (by (with_reducible repeat (first|refine bN ?_ _|refine bD ?_|refine bA ?_ _));exact BK487.out) hb);have n1_:=aM (wT (by repeat (first|(with_reducible first|exact HB.out|apply wA|apply wN_|apply wD|refine wS ?_ GE487.out)|exact HB.out)) hb);have n2_:=aM (hbox);have n3_:=aM ((by rw [hg];exact (wZ (by repeat (first|(with_reducible first|exact HB.out|apply wA|apply wN_|apply wD|refine wS ?_ GE487.out)|exact HB.out))) : w.heap.size ≤ gb488));have n4_:=aM ((by rw [hg];exact (wZ (by repeat (first|(with_reducible first|exact HB.out|apply wA|apply wN_|apply wD|refine wS ?_ GE487.out)|exact HB.out))) : w.heap.size ≤ gb488));have n5_:=aM ((by rw [hg];exact Nat.ne_of_lt (bL (g:=gb487) (o:=.cells #[.int .i64 a0_0,.slice A0_1 l0_1.length c0_1] 41 (0,0)) (by (with_reducible repeat (first|refine bN ?_ _|refine bD ?_|refine bA ?_ _));exact BK487.out)) : gb487 ≠ gb488));have n6_:=aM ((by rw [hg];exact Nat.ne_of_gt (bL (g:=gb487) (o:=.cells #[.int .i64 a0_0,.slice A0_1 l0_1.length c0_1] 41 (0,0)) (by (with_reducible repeat (first|refine bN ?_ _|refine bD ?_|refine bA ?_ _));exact BK487.out)) : gb488 ≠ gb487));clear BK487;clear HB;have BK487:=n0_;have HB:=n1_;have BK488:=n2_;have GW488:=n3_;have GE488:=n4_;have NB487_488:=n5_;have NB488_487:=n6_;clear n0_ n1_ n2_ n3_ n4_ n5_ n6_;clear hb hbox hg;have hnb19:=NB487_488.out;have hnc19:=NB488_487.out;have hcz20_0 : w18.cell? ⟨gb487,0,none⟩ = some (.int .i64 a0_0):=(bC BK487.out 0).trans rfl;have hcz20_1 : w18.cell? ⟨gb487,1,none⟩ = some (.slice A0_1 l0_1.length c0_1):=(bC BK487.out 1).trans rfl;have hfz20_0:=bF BK487.out 0;have hfz20_1:=bF BK487.out 1)|((with_reducible refine gate_callee (f:=87) rfl ?_);refine goesL_ (some 10) rfl rfl Try.func87 (by kernel_rfl) rfl #[.slice A0_1 l0_1.length c0_1,.int .i64 a1] rfl (by (try simp only [lM,lC,lN]);first|done|rfl|(simp only [lD,lT];rfl)) ?_;(with_reducible refine (rickyardref13_find.calls k _ _ l0_1 a1 t489 _ ?side1 ?side2 A3.out).mono ?_);(case side1 => repeat (first|exact (cB HR0_1.out HB.out)|(with_reducible refine cA ?_ _)|(with_reducible refine cN ?_ _)|(with_reducible refine cD ?_)));(case side2 => exact HC0_1.out);rintro e w' ⟨rfl,⟨nd,rfl⟩⟩;refine ⟨_,rfl,?_⟩;(try (rw [drewN_self w18];generalize hq_ : World.drewN w18 _ = w18;have n0_ : Aside0 (w18.heap[gb487]? = some (.cells #[.int .i64 a0_0,.slice A0_1 l0_1.length c0_1] 41 (0,0))):=⟨by rw [← hq_];exact (by (with_reducible repeat (first|refine bN ?_ _|refine bD ?_|refine bA ?_ _));exact BK487.out)⟩;have n1_ : Aside0 (w18.heap[gb488]? = some (.cells #[.int .i64 0,.slice none 0 0] 41 (0,0))):=⟨by rw [← hq_];exact (by (with_reducible repeat (first|refine bN ?_ _|refine bD ?_|refine bA ?_ _));exact BK488.out)⟩;have n2_ : Aside0 (Below w.heap.size w w18):=⟨by rw [← hq_];exact (by repeat (first|(with_reducible first|exact HB.out|apply wA|apply wN_|apply wD|refine wS ?_ GE487.out|refine wS ?_ GE488.out)|exact HB.out))⟩;clear BK487 BK488 HB hq_;have BK487:=n0_;have BK488:=n1_;have HB:=n2_;clear n0_ n1_ n2_))))
        have n0_ := aM (bD BK487.out)
        have n1_ := aM (bD BK488.out)
        have n2_ := aM (wD HB.out)
        clear BK487
        clear BK488
        clear HB
        have BK487 := n0_
        have BK488 := n1_
        have HB := n2_
        clear n0_ n1_ n2_
        have q22 : (t489 : Int) ≤ ((l0_1.length : Int) : Int) := oD (by first | (with_reducible assumption) | assumption)
        obtain ⟨i022, hi022, _, hsz22, _⟩ := info_parts info48
        have hroom22 : l0_1.length ≤ c0_1 := HC0_1.out
        have hC22 : Kd.C k48 _ A0_1 l0_1.length l0_1 := HR0_1.out
        have hcut22 := cut_to (P := Try.prog) 39 48 .i64 Try.underlying39 hi022 A0_1 l0_1.length c0_1 t489 (oD (by first | (with_reducible assumption) | assumption)) q22 hroom22
        have hr22 := Kd.C_take (m := (t489 : Int).toNat) hC22 (by omega)
        have hy22 : y493.length = (t489 : Int).toNat := (by rw [Ny493.out, lT]; omega)
        rw [← Ny493.out] at hr22
        rw [← hy22] at hcut22
        have HR496 := aM hr22
        have HC496 := aM (show y493.length ≤ c0_1 from by omega)
        clear hr22 hC22 hroom22 hi022 hsz22
        have KY22 := aM hy22
        clear hy22
        replace q22 := eq_true q22
        have q23 : ((ji13) : Int) ≤ ((l0_1.length : Int) : Int) := oD (by first | (with_reducible assumption) | assumption)
        obtain ⟨i023, hi023, _, hsz23, _⟩ := info_parts info48
        have hroom23 : l0_1.length ≤ c0_1 := HC0_1.out
        have hC23 : Kd.C k48 _ A0_1 l0_1.length l0_1 := HR0_1.out
        have q023 : (0 : Int) ≤ ((ji13) : Int) := oD (by first | (with_reducible assumption) | assumption)
        have hcut23 := cut_from (P := Try.prog) 39 48 .i64 Try.underlying39 hi023 3 hsz23 A0_1 l0_1.length c0_1 (ji13) q023 q23
        have hr23 := Kd.C_drop (m := ((ji13) : Int).toNat) (c := c0_1) hC23 (by omega) hroom23
        obtain ⟨A23, hA23⟩ : ∃ A1, A1 = (if c0_1 = ((ji13) : Int).toNat then A0_1 else (A0_1 : Option Addr).map (·.add (((ji13) : Int).toNat * 3))) := ⟨_, rfl⟩
        obtain ⟨c23, hc23⟩ : ∃ c1, c1 = c0_1 - ((ji13) : Int).toNat := ⟨_, rfl⟩
        have hy23 : y500.length = l0_1.length - ((ji13) : Int).toNat := (by rw [Ny500.out, lD] <;> omega)
        rw [show (l0_1).drop ((ji13) : Int).toNat = y500 from Ny500.out.symm] at hr23
        replace hr23 : Kd.C k48 _ A23 y500.length y500 := (by rw [hA23]; exact hr23)
        rw [← hy23, ← hA23, ← hc23] at hcut23
        have HR503 := aM hr23
        have HC503 := aM (show y500.length ≤ c23 from by rw [hy23, hc23]; exact Nat.sub_le_sub_right hroom23 _)
        clear hr23 hC23 hroom23 hi023 hsz23 hc23
        have KY23 := aM hy23
        have KA23 := aM hA23
        clear hy23 hA23
        replace q23 := eq_true q23
        refine start_ (n := 17) (S := fun w' => w'.cell? ⟨gb487, 0, none⟩ = some (.int .i64 a0_0) ∧ w'.cell? ⟨gb487, 1, none⟩ = some (.slice A0_1 l0_1.length c0_1)) (ds := []) (msk 0 17) (by kernel_rfl) rfl rfl ⟨(bC BK487.out 0).trans rfl, (bC BK487.out 1).trans rfl⟩ (fun hHeld => ?_); refine with_tabW rickyardref13_Free.tab4 rickyardref13_Free.bits4 (fun HT_ HW_ => ?_)
        generalize w18.drew = w21 at BK487 BK488 HB HR496 HR503 hHeld ⊢
        refine pure_ (i := 0) (N := some 14) (v := ?_) (a' := ?_) (msk 1 16) rfl rfl (any_of HT_.out (by kernel_rfl)) (fun _ _ _ h => h) (Or.inl ⟨by rfl, ?_⟩) ?_ ?_
        rotate_left
        ·intro w'
         go_simp
         with_reducible rfl
        rotate_left
        ·simp only [Act.put, lS, lZ, lU, i64_w, i32_w]
         rfl
        refine pure_ (i := 3) (N := some 17) (v := ?_) (a' := ?_) #[tt,ff,ff,tt,ff,ff,ff,ff,ff,ff,ff,ff,ff,ff,ff,ff,ff] rfl rfl (any_of HT_.out (by kernel_rfl)) (fun _ _ _ h => h) (Or.inl ⟨by rfl, ?_⟩) ?_ ?_
        rotate_left
        ·intro w'
         go_simp
         with_reducible rfl
        rotate_left
        ·simp only [Act.put, lS, lZ, lU, i64_w, i32_w]
         rfl
        refine pure_ (i := 5) (N := some 19) (v := ?_) (a' := ?_) #[tt,ff,ff,tt,ff,tt,ff,ff,ff,ff,ff,ff,ff,ff,ff,ff,ff] rfl rfl (any_of HT_.out (by kernel_rfl)) (fun _ _ _ h => h) (Or.inl ⟨by rfl, ?_⟩) ?_ ?_
        rotate_left
        ·intro w'
         go_simp
         with_reducible rfl
        rotate_left
        ·simp only [Act.put, lS, lZ, lU, i64_w, i32_w]
         rfl
        refine pure_ (i := 8) (N := some 22) (v := ?_) (a' := ?_) #[tt,ff,ff,tt,ff,tt,ff,ff,tt,ff,ff,ff,ff,ff,ff,ff,ff] rfl rfl (any_of HT_.out (by kernel_rfl)) (fun _ _ _ h => h) (Or.inl ⟨by rfl, ?_⟩) ?_ ?_
        rotate_left
        ·intro w'
         go_simp
         with_reducible rfl
        rotate_left
        ·simp only [Act.put, lS, lZ, lU, i64_w, i32_w]
         rfl
        refine pure_ (i := 10) (N := some 24) (v := ?_) (a' := ?_) #[tt,ff,ff,tt,ff,tt,ff,ff,tt,ff,tt,ff,ff,ff,ff,ff,ff] rfl rfl (any_of HT_.out (by kernel_rfl)) (fun _ _ _ h => h) (Or.inl ⟨by rfl, ?_⟩) ?_ ?_
        rotate_left
        ·intro w'
         go_simp
         with_reducible rfl
        rotate_left
        ·simp only [Act.put, lS, lZ, lU, i64_w, i32_w]
         rfl
        refine pure_ (i := 11) (N := some 25) (v := ?_) (a' := ?_) #[tt,ff,ff,tt,ff,tt,ff,ff,tt,ff,tt,tt,ff,ff,ff,ff,ff] rfl rfl (any_of HT_.out (by kernel_rfl)) (fun _ _ _ h => h) (Or.inl ⟨by rfl, ?_⟩) ?_ ?_
        rotate_left
        ·intro w'
         go_simp
         with_reducible rfl
        rotate_left
        ·simp only [Act.put, lS, lZ, lU, i64_w, i32_w]
         rfl
        refine take_ (i := 1) (N := some 15) (v := ?_) (a' := ?_) #[tt,tt,ff,tt,ff,tt,ff,ff,tt,ff,tt,tt,ff,ff,ff,ff,ff] rfl rfl (take_ofW HT_.out HW_.out (by kernel_rfl)) (fun _ _ _ h => h) (Or.inl ⟨by rfl, ?_⟩) hHeld ?_ ?_
        rotate_left
        ·rintro w' ⟨s0, s1⟩
         go_simp
         with_reducible rfl
        rotate_left
        ·simp only [Act.put, lS, lZ, lU, i64_w, i32_w]
         rfl
        refine take_ (i := 4) (N := some 18) (v := ?_) (a' := ?_) #[tt,tt,ff,tt,tt,tt,ff,ff,tt,ff,tt,tt,ff,ff,ff,ff,ff] rfl rfl (take_ofW HT_.out HW_.out (by kernel_rfl)) (fun _ _ _ h => h) (Or.inl ⟨by rfl, ?_⟩) hHeld ?_ ?_
        rotate_left
        ·rintro w' ⟨s0, s1⟩
         go_simp
         with_reducible rfl
        rotate_left
        ·simp only [Act.put, lS, lZ, lU, i64_w, i32_w]
         rfl
        refine pure_ (i := 6) (N := some 20) (v := ?_) (a' := ?_) #[tt,tt,ff,tt,tt,tt,tt,ff,tt,ff,tt,tt,ff,ff,ff,ff,ff] rfl rfl (any_of HT_.out (by kernel_rfl)) (fun _ _ _ h => h) (Or.inl ⟨by rfl, ?_⟩) ?_ ?_
        rotate_left
        ·intro w'
         go_simp
         with_reducible rfl
        rotate_left
        ·simp only [Act.put, lS, lZ, lU, i64_w, i32_w]
         rfl
        refine take_ (i := 9) (N := some 23) (v := ?_) (a' := ?_) #[tt,tt,ff,tt,tt,tt,tt,ff,tt,tt,tt,tt,ff,ff,ff,ff,ff] rfl rfl (take_ofW HT_.out HW_.out (by kernel_rfl)) (fun _ _ _ h => h) (Or.inl ⟨by rfl, ?_⟩) hHeld ?_ ?_
        rotate_left
        ·rintro w' ⟨s0, s1⟩
         go_simp
         with_reducible rfl
        rotate_left
        ·simp only [Act.put, lS, lZ, lU, i64_w, i32_w]
         rfl
        refine pure_ (i := 12) (N := some 26) (v := ?_) (a' := ?_) #[tt,tt,ff,tt,tt,tt,tt,ff,tt,tt,tt,tt,tt,ff,ff,ff,ff] rfl rfl (any_of HT_.out (by kernel_rfl)) (fun _ _ _ h => h) (Or.inl ⟨by rfl, ?_⟩) ?_ ?_
        rotate_left
        ·intro w'
         go_simp
         with_reducible rfl
        rotate_left
        ·simp only [Act.put, lS, lZ, lU, i64_w, i32_w]
         rfl
        refine one_ (i := 2) (N := some 16) #[tt,tt,tt,tt,tt,tt,tt,ff,tt,tt,tt,tt,tt,ff,ff,ff,ff] rfl rfl (one_of HT_.out (by kernel_rfl)) (by decide) (fun K hK => ?_)
        refine Kd.R_lit_step k48 _ 48 ?hg (N:=16) ?hd (xs:=([] : List (S48))) (inner:=[]) (ok:=fun _ => True) (okp:=fun _ => True) ?hr ?hp (fun _ hk => hk) trivial (Below.refl _ _) (Nat.le_refl _) (by simp) ?_;(case hd => rfl);(case hg => rfl);(case hr => first|(go_simp;done)|(go_simp;rfl));(case hp => exact (Reps.none _ _))
        intro v491 w24 ho25 hb hg_ hnew_
        clear hg_ hnew_
        (first | rw [← Ny490.out] at ho25 | (simp only [Int.reduceToNat] at ho25; rw [← Ny490.out] at ho25))
        have n0_ := aM (Kd.R_lower ho25 (wZ (by repeat (first | (with_reducible first | exact HB.out | apply wA | apply wN_ | apply wD | refine wS ?_ GE487.out | refine wS ?_ GE488.out) | exact HB.out))))
        have n1_ := aM (bB (g := gb487) (o := .cells #[.int .i64 a0_0, .slice A0_1 l0_1.length c0_1] 41 (0, 0)) (by (with_reducible repeat (first | refine bN ?_ _ | refine bD ?_ | refine bA ?_ _)); exact BK487.out) hb)
        have n2_ := aM (bB (g := gb488) (o := .cells #[.int .i64 0, .slice none 0 0] 41 (0, 0)) (by (with_reducible repeat (first | refine bN ?_ _ | refine bD ?_ | refine bA ?_ _)); exact BK488.out) hb)
        have n3_ := aM (wT (by repeat (first | (with_reducible first | exact HB.out | apply wA | apply wN_ | apply wD | refine wS ?_ GE487.out | refine wS ?_ GE488.out) | exact HB.out)) hb)
        clear BK487
        clear BK488
        clear HB
        have HO492 := n0_
        have BK487 := n1_
        have BK488 := n2_
        have HB := n3_
        clear n0_ n1_ n2_ n3_
        clear hb ho25
        refine hK.out _ _ ⟨(bC BK487.out 0).trans rfl, (bC BK487.out 1).trans rfl⟩ (fun hHeld => ?_)
        clear hK K
        refine norm_ (a' := ?_) ?_ ?_
        rotate_left
        ·show Act.put _ (some 16) _ = _
         simp only [Act.put, lS, lZ, lU, i64_w, i32_w]
         rfl
        refine one_ (i := 7) (N := some 21) (msk 13 4) rfl rfl (one_of HT_.out (by kernel_rfl)) (by decide) (fun K hK => ?_)
        refine Kd.R_append_rows_step k48 (w0 := w) w.heap.size (by rfl) (.tmp 16) (.tmp 20) 39 48 (.agg #[(.int .i64 0), (.int .i64 0), (.int .i64 0)]) 24 rfl Try.underlying39 info48 rfl (by decide) (by omega) v491 y490 y493 _ _ _ (fun _ => True) (fun _ => False) rfl rfl ?aO ?aR (fun _ _ h => h) (fun _ h => h.elim) ?aF ?aB ?aS ?aL ?_
        (case aR => repeat (first|exact (cB HR496.out HB.out)|(with_reducible refine cA ?_ _)|(with_reducible refine cN ?_ _)|(with_reducible refine cD ?_)))
        (case aB => exact (by repeat (first|(with_reducible first|exact HB.out|apply wA|apply wN_|apply wD|refine wS ?_ GE487.out|refine wS ?_ GE488.out)|exact HB.out)))
        (case aF => exact (fun _ _ => trivial))
        (case aO => exact (by (with_reducible repeat (first|apply rA|apply rN|apply rD));exact HO492.out))
        (case aS => exact (wZ (by repeat (first|(with_reducible first|exact HB.out|apply wA|apply wN_|apply wD|refine wS ?_ GE487.out|refine wS ?_ GE488.out)|exact HB.out))))
        (case aL => have:=LMc12.out;omega)
        intro v498 w26 ho hb hg hat
        rw [← Ny497.out] at ho
        have n0_ := aM (blk_grown (g := gb487) (o := .cells #[.int .i64 a0_0, .slice A0_1 l0_1.length c0_1] 41 (0, 0)) (by (with_reducible repeat (first | refine bN ?_ _ | refine bD ?_ | refine bA ?_ _)); exact BK487.out) hg (Kd.R_ne HO492.out BK487.out (by decide)))
        have n1_ := aM (blk_grown (g := gb488) (o := .cells #[.int .i64 0, .slice none 0 0] 41 (0, 0)) (by (with_reducible repeat (first | refine bN ?_ _ | refine bD ?_ | refine bA ?_ _)); exact BK488.out) hg (Kd.R_ne HO492.out BK488.out (by decide)))
        have n2_ := aM (hb)
        have n3_ := aM (ho)
        clear BK487
        clear BK488
        clear HB
        clear HO492
        have BK487 := n0_
        have BK488 := n1_
        have HB := n2_
        have HO499 := n3_
        clear n0_ n1_ n2_ n3_
        clear ho hb hg hat
        refine hK.out _ _ ⟨(bC BK487.out 0).trans rfl, (bC BK487.out 1).trans rfl⟩ (fun hHeld => ?_)
        clear hK K
        refine norm_ (a' := ?_) ?_ ?_
        rotate_left
        ·show Act.put _ (some 21) _ = _
         simp only [Act.put, lS, lZ, lU, i64_w, i32_w]
         rfl
        refine one_ (i := 13) (N := some 27) (msk 14 3) rfl rfl (one_of HT_.out (by kernel_rfl)) (by decide) (fun K hK => ?_)
        refine Kd.R_append_rows_step k48 (w0 := w) w.heap.size (by rfl) (.tmp 21) (.tmp 26) 39 48 (.agg #[(.int .i64 0), (.int .i64 0), (.int .i64 0)]) 24 rfl Try.underlying39 info48 rfl (by decide) (by omega) v498 y497 y500 _ _ _ (fun _ => True) (fun _ => False) rfl rfl ?aO ?aR (fun _ _ h => h) (fun _ h => h.elim) ?aF ?aB ?aS ?aL ?_
        (case aR => repeat (first|exact (cB HR503.out HB.out)|(with_reducible refine cA ?_ _)|(with_reducible refine cN ?_ _)|(with_reducible refine cD ?_)))
        (case aB => exact (by repeat (first|(with_reducible first|exact HB.out|apply wA|apply wN_|apply wD|refine wS ?_ GE487.out|refine wS ?_ GE488.out)|exact HB.out)))
        (case aF => exact (fun _ _ => trivial))
        (case aO => exact (by (with_reducible repeat (first|apply rA|apply rN|apply rD));exact HO499.out))
        (case aS => exact (wZ (by repeat (first|(with_reducible first|exact HB.out|apply wA|apply wN_|apply wD|refine wS ?_ GE487.out|refine wS ?_ GE488.out)|exact HB.out))))
        (case aL => have:=LMc16.out;omega)
        intro v505 w27 ho hb hg hat
        rw [← Ny504.out] at ho
        have n0_ := aM (blk_grown (g := gb487) (o := .cells #[.int .i64 a0_0, .slice A0_1 l0_1.length c0_1] 41 (0, 0)) (by (with_reducible repeat (first | refine bN ?_ _ | refine bD ?_ | refine bA ?_ _)); exact BK487.out) hg (Kd.R_ne HO499.out BK487.out (by decide)))
        have n1_ := aM (blk_grown (g := gb488) (o := .cells #[.int .i64 0, .slice none 0 0] 41 (0, 0)) (by (with_reducible repeat (first | refine bN ?_ _ | refine bD ?_ | refine bA ?_ _)); exact BK488.out) hg (Kd.R_ne HO499.out BK488.out (by decide)))
        have n2_ := aM (hb)
        have n3_ := aM (ho)
        clear BK487
        clear BK488
        clear HB
        clear HO499
        have BK487 := n0_
        have BK488 := n1_
        have HB := n2_
        have HO506 := n3_
        clear n0_ n1_ n2_ n3_
        clear ho hb hg hat
        obtain ⟨Ao28, co28, eo28⟩ := Kd.R_slice HO506.out
        (first | subst eo28 | (injection eo28 with f1_ f2_ f3_; have f4_ := f1_.symm; have f5_ := f3_.symm; clear f1_ f2_ f3_; subst f4_; subst f5_))
        refine hK.out _ _ ⟨(bC BK487.out 0).trans rfl, (bC BK487.out 1).trans rfl⟩ (fun hHeld => ?_)
        clear hK K
        refine norm_ (a' := ?_) ?_ ?_
        rotate_left
        ·show Act.put _ (some 27) _ = _
         simp only [Act.put, lS, lZ, lU, i64_w, i32_w]
         rfl
        refine pure_ (i := 14) (N := some 28) (v := ?_) (a' := ?_) (msk 15 2) rfl rfl (any_of HT_.out (by kernel_rfl)) (fun _ _ _ h => h) (Or.inl ⟨by rfl, ?_⟩) ?_ ?_
        rotate_left
        ·intro w'
         go_simp
         with_reducible rfl
        rotate_left
        ·simp only [Act.put, lS, lZ, lU, i64_w, i32_w]
         rfl
        refine one_ (i := 15) (N := none) (msk 16 1) rfl rfl (one_of HT_.out (by kernel_rfl)) (by decide) (fun K hK => ?_)
        have hs29 : w27.cell? ⟨gb488, 0, none⟩ = some (.int .i64 0) := (bC BK488.out 0).trans rfl
        have hfs29 := bF BK488.out 0
        have hns29_0 := NB487_488.out
        have hms29_0 := NB488_487.out
        have hs30 : w27.cell? ⟨gb488, 1, none⟩ = some (.slice none 0 0) := (bC BK488.out 1).trans rfl
        have hfs30 := bF BK488.out 1
        have hns30_0 := NB487_488.out
        have hms30_0 := NB488_487.out
        refine skip_ (w1 := ?_) (by rfl) rfl ?_ ?_
        rotate_left
        ·go_simp
         rfl
        refine hK.out _ _ ⟨((cell_far (p := ⟨gb488, _, none⟩) NB487_488.out _).trans (((cell_far (p := ⟨gb488, _, none⟩) NB487_488.out _).trans (hHeld.1)))), ((cell_far (p := ⟨gb488, _, none⟩) NB487_488.out _).trans (((cell_far (p := ⟨gb488, _, none⟩) NB487_488.out _).trans (hHeld.2))))⟩ (fun hHeld => ?_)
        clear hK K
        refine pure_ (i := 16) (N := some 5) (v := ?_) (a' := ?_) (msk 17 0) rfl rfl (any_of HT_.out (by kernel_rfl)) (fun _ _ _ h => h) (Or.inl ⟨by rfl, ?_⟩) ?_ ?_
        rotate_left
        ·intro w'
         go_simp
         with_reducible rfl
        rotate_left
        ·simp only [Act.put, lS, lZ, lU, i64_w, i32_w]
         rfl
        refine done_ (done_of HT_.out (by kernel_rfl)) ?_
        try go_wp2
        refine bodyPost_ret (results_ct rfl _ _ gb488 41 #[.int .i64 a0_0, .slice Ao28 y504.length co28] (0, 0) _ rfl (by (with_reducible repeat (first | refine bN ?_ _ | refine bD ?_ | refine bA ?_ _)); refine bP (cs := #[.int .i64 a0_0, .slice none 0 0]) ?_ 1 _ rfl; (with_reducible repeat (first | refine bN ?_ _ | refine bD ?_ | refine bA ?_ _)); refine bP (cs := #[.int .i64 0, .slice none 0 0]) ?_ 0 _ rfl; (with_reducible repeat (first | refine bN ?_ _ | refine bD ?_ | refine bA ?_ _)); exact BK488.out) Try.underlying41 rfl (by kernel_rfl)) rfl ?_
        exact ⟨_, by first | rfl | (simp [errW_none, errW_some] <;> rfl) | (simp only [← hji13]; first | rfl | (simp [errW_none, errW_some] <;> rfl)) | (simp [*, errW_none, errW_some] <;> rfl), by (with_reducible repeat (first | apply rA | apply rN | apply rD)); exact rM (rF_ (p := ⟨gb488, 1, none⟩) (rF_ (p := ⟨gb488, 0, none⟩) (Kd.R_types HO506.out BK488.out (by decide)) (fun _ hk => hk.2) (.int .i64 a0_0)) (fun _ hk => hk.2) (.slice Ao28 y504.length co28)) (fun _ hk => trivial), by repeat (first | (with_reducible first | exact HB.out | apply wA | apply wN_ | apply wD | refine wS ?_ GE487.out | refine wS ?_ GE488.out) | exact HB.out)⟩
       ·rw [if_neg c16] at H
        exact absurd H (by simp)
      ·rw [if_neg c15] at H
       exact absurd H (by simp)
     ·rw [if_neg c14] at H
      exact absurd H (by simp)
    ·rw [if_neg c12] at H
     exact absurd H (by simp)
   ·rw [if_neg c11] at H
    exact absurd H (by simp)
  ·rw [if_neg c10] at H
   exact absurd H (by simp)

end Go.Proofs.Ytflhbakjlbmfbaa.Pr
