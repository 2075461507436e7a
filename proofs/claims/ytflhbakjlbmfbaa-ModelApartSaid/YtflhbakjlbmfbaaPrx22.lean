-- Printed by a program of this session (wip/tools/myprint.py) that runs the kit's print with contracts of this session's own.
import Derived.Test.YtflhbakjlbmfbaaPrx0
import Derived.Test.YtflhbakjlbmfbaaShort
import Derived.Test.YtflhbakjlbmfbaaWTab
import Derived.Test.YtflhbakjlbmfbaaPrx7
import Derived.Test.YtflhbakjlbmfbaaPrx9
namespace Go.Proofs.Ytflhbakjlbmfbaa.Pr
open Go.RowKit Go.Proofs.YtflhbakjlbmfbaaW.PrintWords Go.Proofs.YtflhbakjlbmfbaaW.PrintLast Go.Proofs.YtflhbakjlbmfbaaW.PrintMore
attribute [local go_sem] max2_int min2_int max_two min_two max_three min_three max_four min_four   -- for this text's walks alone
set_option linter.unusedVariables false
set_option linter.unusedSimpArgs false

/-! ### size_Class: function 51 -/
mutual
def size_Class.j0 : Nat → Int → Bool → Option (Int × Bool)
 | 0, _, _ => none
 | k + 1, x0, x10 => if x10 = true then (some (0, false)) else (size_Class.l0 k x0 0)
def size_Class.l0 : Nat → Int → Int → Option (Int × Bool)
 | 0, _, _ => none
 | k + 1, x0, x4 => (size_of.f x4).bind fun bt301 => (if bt301.1 < x0 then (size_Class.l0 k x0 (wrap64 (x4 + 1))) else (some (x4, true)))
end
def size_Class.f (k : Nat) (a0 : Int) : Option (Int × Bool) := if a0 < 1 then (size_Class.j0 k a0 true) else (size_Class.j0 k a0 (decide (a0 > 4096)))
theorem size_Class.mono_l : ∀ k, (∀ y0 y1, LeO (size_Class.j0 k y0 y1) (size_Class.j0 (k + 1) y0 y1)) ∧ (∀ y0 y1, LeO (size_Class.l0 k y0 y1) (size_Class.l0 (k + 1) y0 y1))
 | 0 => ⟨fun _ _ r h => by simp [size_Class.j0] at h, fun _ _ r h => by simp [size_Class.l0] at h⟩
 | k + 1 => by
  obtain ⟨ih0, ih1⟩ := size_Class.mono_l k
  refine ⟨?_, ?_⟩
  ·intro y0 y1
   unfold size_Class.j0
   repeat' first
   | (with_reducible exact ih0 _ _)
   | (with_reducible exact ih1 _ _)
   | (with_reducible exact LeO.refl _)
   | (with_reducible exact LeO.none _)
   | (with_reducible refine LeO.ite ?_ ?_)
   | (with_reducible refine LeO.bind ?_ (fun _ => ?_))
   | exact ih0 _ _
   | exact ih1 _ _
   | exact LeO.none _
   | refine LeO.ite ?_ ?_
   | refine LeO.bind ?_ (fun _ => ?_)
  ·intro y0 y1
   unfold size_Class.l0
   repeat' first
   | (with_reducible exact ih0 _ _)
   | (with_reducible exact ih1 _ _)
   | (with_reducible exact LeO.refl _)
   | (with_reducible exact LeO.none _)
   | (with_reducible refine LeO.ite ?_ ?_)
   | (with_reducible refine LeO.bind ?_ (fun _ => ?_))
   | exact ih0 _ _
   | exact ih1 _ _
   | exact LeO.none _
   | refine LeO.ite ?_ ?_
   | refine LeO.bind ?_ (fun _ => ?_)
theorem size_Class.mono : ∀ a0 k, LeO (size_Class.f k a0) (size_Class.f (k + 1) a0) := by
 intro a0 k
 obtain ⟨ih0, ih1⟩ := size_Class.mono_l k
 unfold size_Class.f
 repeat' first
   | (with_reducible exact ih0 _ _)
   | (with_reducible exact ih1 _ _)
   | (with_reducible exact LeO.refl _)
   | (with_reducible exact LeO.none _)
   | (with_reducible refine LeO.ite ?_ ?_)
   | (with_reducible refine LeO.bind ?_ (fun _ => ?_))
   | exact ih0 _ _
   | exact ih1 _ _
   | exact LeO.none _
   | refine LeO.ite ?_ ?_
   | refine LeO.bind ?_ (fun _ => ?_)
set_option maxHeartbeats 8000000 in
set_option maxRecDepth 100000 in
theorem size_Class.calls (k : Nat) (a0 : Int) (r1 : Int) (r2 : Bool) (w : World) (h : size_Class.f k a0 = some (r1, r2)) :
  Calls Try.prog 51 #[.int .i64 a0] w fun e w' => e = .returned (.tuple #[.int .i64 r1, .bool r2]) ∧ Below w.heap.size w w' := by
 have hu101 := Try.underlying101
 have HB := aM (Below.refl w.heap.size w)
 have H : (if a0 < 1 then (size_Class.j0 k a0 true) else (size_Class.j0 k a0 (decide (a0 > 4096)))) = some (r1, r2) := h
 clear h
 have HC2 := aM H
 clear H
 go_enter Try.func51, Try.ntmps51
 go_upto_region 1 with (fail)
 go_cut [10] (fun v10 wc => ∃ (kq : Nat) (x10_1 : Bool), v10 = .bool x10_1 ∧ Aside0 (size_Class.j0 kq a0 x10_1 = some (r1, r2)) ∧ Aside0 (kq ≤ k) ∧ Aside0 (Below w.heap.size w wc))
 case first =>
  have H := HC2.out
  clear HC2
  by_cases c3 : a0 < 1
  ·rw [if_pos c3] at H
   have c3b0 : decide (a0 < 1) = true := decide_eq_true c3
   clear c3
   (first | rw [c3b0] | (simp only [i64_w, i32_w]; rw [c3b0]) | skip)
   have H' := aM H
   clear H
   go_wp2
   go_meet
   case rel => exact ⟨_,(true),(by first|rfl|(simp;done)|(simp [*];done)),H',⟨by first|omega|exact Nat.le_refl _⟩,⟨by repeat (first|(with_reducible first|exact HB.out|apply wA|apply wN_|apply wD)|exact HB.out)⟩⟩
  ·rw [if_neg c3] at H
   have c3b0 : decide (a0 < 1) = false := decide_eq_false c3
   clear c3
   (first | rw [c3b0] | (simp only [i64_w, i32_w]; rw [c3b0]) | skip)
   have H' := aM H
   clear H
   go_wp2
   go_meet
   case rel => exact ⟨_,(decide (a0 > 4096)),(by first|rfl|(simp;done)|(simp [*];done)),H',⟨by first|omega|exact Nat.le_refl _⟩,⟨by repeat (first|(with_reducible first|exact HB.out|apply wA|apply wN_|apply wD)|exact HB.out)⟩⟩
 case rest =>
  clear HC2
  try clear p2
  try clear c3
  try clear c3b0
  obtain ⟨kq, x10_1, rfl, HA, HJ1, HB⟩ := hcut
  cases kq with
  | zero => exact absurd HA.out (by simp [size_Class.j0])
  | succ kj1 =>
   have H := HA.out
   clear HA
   simp only [size_Class.j0] at H
   by_cases c4 : x10_1 = true
   ·subst c4
    have H1 : (some (0, false)) = some (r1, r2) := by rw [if_pos rfl] at H; exact H
    clear H
    have H := H1
    clear H1
    simp only [Option.some.injEq, Prod.mk.injEq] at H
    obtain ⟨rfl, rfl⟩ := H
    go_wp2
    go_ret2
    exact ⟨by first | rfl | (simp [errW_none, errW_some] <;> rfl) | (simp [*, errW_none, errW_some] <;> rfl), by repeat (first | (with_reducible first | exact HB.out | apply wA | apply wN_ | apply wD) | exact HB.out)⟩
   ·replace c4 := Bool.eq_false_iff.mpr c4
    subst c4
    have H1 : (size_Class.l0 kj1 a0 0) = some (r1, r2) := by rw [if_neg (show ¬ (false = true) by decide)] at H; exact H
    clear H
    have H := H1
    clear H1
    have H' := aM H
    clear H
    go_wp2
    go_loopg [4] kj1 (fun kq v4 w' => ∃ (x4_2 : Int), v4 = .int .i64 x4_2 ∧ Aside0 (size_Class.l0 kq a0 x4_2 = some (r1, r2)) ∧ Aside0 (kq ≤ kj1) ∧ Aside0 (Below w.heap.size w w'))
    case atStart => exact ⟨(0),(by first|rfl|(simp;done)|(simp [*];done)),H',⟨Nat.le_refl _⟩,⟨by repeat (first|(with_reducible first|exact HB.out|apply wA|apply wN_|apply wD)|exact HB.out)⟩⟩
    case round =>
     clear H'
     try clear p2
     try clear c3
     try clear c3b0
     try clear c4
     try clear p2
     obtain ⟨x4_2, rfl, HA, HK2, HB⟩ := hrel
     cases gk with
     | zero => exact absurd HA.out (by simp [size_Class.l0])
     | succ k2 =>
      have H := HA.out
      clear HA
      simp only [size_Class.l0] at H
      replace H := Option.bind_eq_some_iff.mp H
      obtain ⟨⟨t301, t302, t303, t304⟩, A50, H⟩ := H
      replace H : (if t301 < a0 then (size_Class.l0 k2 a0 (wrap64 (x4_2 + 1))) else (some (x4_2, true))) = some (r1, r2) := H
      have A5 := aM A50
      clear A50
      by_cases c6 : t301 < a0
      ·rw [if_pos c6] at H
       have c6b0 : decide (t301 < a0) = true := decide_eq_true c6
       clear c6
       have H' := aM H
       clear H
       go_wp2_with (first|((with_reducible refine gate_callee (f:=81) rfl ?_);refine goesL_ (some 12) rfl rfl Try.func81 (by kernel_rfl) rfl #[.int .i64 x4_2] rfl (by (try simp only [lM,lC,lN]);first|done|rfl|(simp only [lD,lT];rfl)) ?_;(with_reducible refine (size_of.calls x4_2 t301 t302 t303 t304 _ A5.out).mono ?_);rintro e w7 ⟨rfl,hb⟩;refine ⟨_,rfl,?_⟩;have n0_:=aM (wT (by repeat (first|(with_reducible first|exact HB.out|apply wA|apply wN_|apply wD)|exact HB.out)) hb);clear HB;have HB:=n0_;clear n0_;(try clear hb);(try clear hb2);(try clear hk);(try clear hi)))
       go_roundg k2
       case measure => have:=HJ1.out;have:=HK2.out;omega
       case rel => exact ⟨(wrap64 (x4_2 + 1)),(by first|rfl|(simp;done)|(simp [*];done)),H',⟨by have:=HJ1.out;have:=HK2.out;omega⟩,⟨by repeat (first|(with_reducible first|exact HB.out|apply wA|apply wN_|apply wD)|exact HB.out)⟩⟩
      ·rw [if_neg c6] at H
       have c6b0 : decide (t301 < a0) = false := decide_eq_false c6
       clear c6
       simp only [Option.some.injEq, Prod.mk.injEq] at H
       obtain ⟨rfl, rfl⟩ := H
       go_wp2_with (first|((with_reducible refine gate_callee (f:=81) rfl ?_);refine goesL_ (some 12) rfl rfl Try.func81 (by kernel_rfl) rfl #[.int .i64 x4_2] rfl (by (try simp only [lM,lC,lN]);first|done|rfl|(simp only [lD,lT];rfl)) ?_;(with_reducible refine (size_of.calls x4_2 t301 t302 t303 t304 _ A5.out).mono ?_);rintro e w8 ⟨rfl,hb⟩;refine ⟨_,rfl,?_⟩;have n0_:=aM (wT (by repeat (first|(with_reducible first|exact HB.out|apply wA|apply wN_|apply wD)|exact HB.out)) hb);clear HB;have HB:=n0_;clear n0_;(try clear hb);(try clear hb2);(try clear hk);(try clear hi)))
       go_ret2
       exact ⟨by first | rfl | (simp [errW_none, errW_some] <;> rfl) | (simp [*, errW_none, errW_some] <;> rfl), by repeat (first | (with_reducible first | exact HB.out | apply wA | apply wN_ | apply wD) | exact HB.out)⟩

/-! ### model_lies: function 52 -/
def model_lies.f (a0_0 : Int) (a0_1 : Int) (a0_2 : Int) (a1 : Int) : Option (Bool) := (size_Words.f a0_1).bind fun t306 => (if t306 > 0 then (if a0_0 ≥ 0 then (if (Int.tmod a0_0 32) = 0 then (if t306 ≤ a1 then (some (decide (a0_0 ≤ (wrap64 (a1 - t306))))) else (some false)) else (some false)) else (some false)) else (some false))
set_option maxHeartbeats 8000000 in
set_option maxRecDepth 100000 in
theorem model_lies.calls (a0_0 : Int) (a0_1 : Int) (a0_2 : Int) (a1 : Int) (r : Bool) (w : World) (h : model_lies.f a0_0 a0_1 a0_2 a1 = some r) :
  Calls Try.prog 52 #[.agg #[.int .i64 a0_0, .int .i64 a0_1, .int .i64 a0_2], .int .i64 a1] w fun e w' => e = .returned (.bool r) ∧ Below w.heap.size w w' := by
 have hu48 := Try.underlying48
 have HB := aM (Below.refl w.heap.size w)
 have H : ((size_Words.f a0_1).bind fun t306 => (if t306 > 0 then (if a0_0 ≥ 0 then (if (Int.tmod a0_0 32) = 0 then (if t306 ≤ a1 then (some (decide (a0_0 ≤ (wrap64 (a1 - t306))))) else (some false)) else (some false)) else (some false)) else (some false))) = some r := h
 clear h
 replace H := Option.bind_eq_some_iff.mp H
 obtain ⟨t306, A30, H⟩ := H
 replace H : (if t306 > 0 then (if a0_0 ≥ 0 then (if (Int.tmod a0_0 32) = 0 then (if t306 ≤ a1 then (some (decide (a0_0 ≤ (wrap64 (a1 - t306))))) else (some false)) else (some false)) else (some false)) else (some false)) = some r := H
 have A3 := aM A30
 clear A30
 by_cases c4 : t306 > 0
 ·rw [if_pos c4] at H
  have c4b0 : decide (0 < t306) = true := decide_eq_true c4
  clear c4
  by_cases c5 : a0_0 ≥ 0
  ·rw [if_pos c5] at H
   have c5b0 : decide (0 ≤ a0_0) = true := decide_eq_true c5
   clear c5
   by_cases c6 : (Int.tmod a0_0 32) = 0
   ·rw [if_pos c6] at H
    have c6b0 : ((Int.tmod a0_0 32) == 0) = true := beq_iff_eq.mpr c6
    have c6b1 : ((Int.tmod a0_0 32) != 0) = false := bne_eq_false_iff_eq.mpr c6
    clear c6
    by_cases c7 : t306 ≤ a1
    ·rw [if_pos c7] at H
     have c7b0 : decide (t306 ≤ a1) = true := decide_eq_true c7
     clear c7
     obtain rfl := Option.some.inj H
     go_enter Try.func52, Try.ntmps52
     go_wp2_with (first|((with_reducible refine gate_dst (N:=2) rfl ?_);refine box_event ?hg (N:=2) ?hd (cs:=#[.int .i64 a0_0,.int .i64 a0_1,.int .i64 a0_2]) (t:=48) ?hr ?_;(case hd => rfl);(case hg => rfl);(case hr => first|(go_simp;done)|(go_simp;rfl));intro gb305 hg w8 hbox hb;have n0_:=aM (wT (by repeat (first|(with_reducible first|exact HB.out|apply wA|apply wN_|apply wD)|exact HB.out)) hb);have n1_:=aM (hbox);have n2_:=aM ((by rw [hg];exact (wZ (by repeat (first|(with_reducible first|exact HB.out|apply wA|apply wN_|apply wD)|exact HB.out))) : w.heap.size ≤ gb305));have n3_:=aM ((by rw [hg];exact (wZ (by repeat (first|(with_reducible first|exact HB.out|apply wA|apply wN_|apply wD)|exact HB.out))) : w.heap.size ≤ gb305));clear HB;have HB:=n0_;have BK305:=n1_;have GW305:=n2_;have GE305:=n3_;clear n0_ n1_ n2_ n3_;clear hb hbox hg;have hcz9_0 : w8.cell? ⟨gb305,0,none⟩ = some (.int .i64 a0_0):=(bC BK305.out 0).trans rfl;have hcz9_1 : w8.cell? ⟨gb305,1,none⟩ = some (.int .i64 a0_1):=(bC BK305.out 1).trans rfl;have hcz9_2 : w8.cell? ⟨gb305,2,none⟩ = some (.int .i64 a0_2):=(bC BK305.out 2).trans rfl;have hfz9_0:=bF BK305.out 0;have hfz9_1:=bF BK305.out 1;have hfz9_2:=bF BK305.out 2)|((with_reducible refine gate_callee (f:=62) rfl ?_);refine goesL_ (some 8) rfl rfl Try.func62 (by kernel_rfl) rfl #[.int .i64 a0_1] rfl (by (try simp only [lM,lC,lN]);first|done|rfl|(simp only [lD,lT];rfl)) ?_;(with_reducible refine (size_Words.calls a0_1 t306 _ A3.out).mono ?_);rintro e w10 ⟨rfl,hb⟩;refine ⟨_,rfl,?_⟩;have n0_:=aM (bB (g:=gb305) (o:=.cells #[.int .i64 a0_0,.int .i64 a0_1,.int .i64 a0_2] 48 (0,0)) (by (with_reducible repeat (first|refine bN ?_ _|refine bD ?_|refine bA ?_ _));exact BK305.out) hb);have n1_:=aM (wT (by repeat (first|(with_reducible first|exact HB.out|apply wA|apply wN_|apply wD|refine wS ?_ GE305.out)|exact HB.out)) hb);clear BK305;clear HB;have BK305:=n0_;have HB:=n1_;clear n0_ n1_;(try clear hb);(try clear hb2);(try clear hk);(try clear hi);have hcz11_0 : w10.cell? ⟨gb305,0,none⟩ = some (.int .i64 a0_0):=(bC BK305.out 0).trans rfl;have hcz11_1 : w10.cell? ⟨gb305,1,none⟩ = some (.int .i64 a0_1):=(bC BK305.out 1).trans rfl;have hcz11_2 : w10.cell? ⟨gb305,2,none⟩ = some (.int .i64 a0_2):=(bC BK305.out 2).trans rfl;have hfz11_0:=bF BK305.out 0;have hfz11_1:=bF BK305.out 1;have hfz11_2:=bF BK305.out 2))
     go_ret
     exact ⟨by first | rfl | (simp [errW_none, errW_some] <;> rfl) | (simp [*, errW_none, errW_some] <;> rfl), by repeat (first | (with_reducible first | exact HB.out | apply wA | apply wN_ | apply wD | refine wS ?_ GE305.out) | exact HB.out)⟩
    ·rw [if_neg c7] at H
     have c7b0 : decide (t306 ≤ a1) = false := decide_eq_false c7
     clear c7
     obtain rfl := Option.some.inj H
     go_enter Try.func52, Try.ntmps52
     go_wp2_with (first|((with_reducible refine gate_dst (N:=2) rfl ?_);refine box_event ?hg (N:=2) ?hd (cs:=#[.int .i64 a0_0,.int .i64 a0_1,.int .i64 a0_2]) (t:=48) ?hr ?_;(case hd => rfl);(case hg => rfl);(case hr => first|(go_simp;done)|(go_simp;rfl));intro gb305 hg w12 hbox hb;have n0_:=aM (wT (by repeat (first|(with_reducible first|exact HB.out|apply wA|apply wN_|apply wD)|exact HB.out)) hb);have n1_:=aM (hbox);have n2_:=aM ((by rw [hg];exact (wZ (by repeat (first|(with_reducible first|exact HB.out|apply wA|apply wN_|apply wD)|exact HB.out))) : w.heap.size ≤ gb305));have n3_:=aM ((by rw [hg];exact (wZ (by repeat (first|(with_reducible first|exact HB.out|apply wA|apply wN_|apply wD)|exact HB.out))) : w.heap.size ≤ gb305));clear HB;have HB:=n0_;have BK305:=n1_;have GW305:=n2_;have GE305:=n3_;clear n0_ n1_ n2_ n3_;clear hb hbox hg;have hcz13_0 : w12.cell? ⟨gb305,0,none⟩ = some (.int .i64 a0_0):=(bC BK305.out 0).trans rfl;have hcz13_1 : w12.cell? ⟨gb305,1,none⟩ = some (.int .i64 a0_1):=(bC BK305.out 1).trans rfl;have hcz13_2 : w12.cell? ⟨gb305,2,none⟩ = some (.int .i64 a0_2):=(bC BK305.out 2).trans rfl;have hfz13_0:=bF BK305.out 0;have hfz13_1:=bF BK305.out 1;have hfz13_2:=bF BK305.out 2)|((with_reducible refine gate_callee (f:=62) rfl ?_);refine goesL_ (some 8) rfl rfl Try.func62 (by kernel_rfl) rfl #[.int .i64 a0_1] rfl (by (try simp only [lM,lC,lN]);first|done|rfl|(simp only [lD,lT];rfl)) ?_;(with_reducible refine (size_Words.calls a0_1 t306 _ A3.out).mono ?_);rintro e w14 ⟨rfl,hb⟩;refine ⟨_,rfl,?_⟩;have n0_:=aM (bB (g:=gb305) (o:=.cells #[.int .i64 a0_0,.int .i64 a0_1,.int .i64 a0_2] 48 (0,0)) (by (with_reducible repeat (first|refine bN ?_ _|refine bD ?_|refine bA ?_ _));exact BK305.out) hb);have n1_:=aM (wT (by repeat (first|(with_reducible first|exact HB.out|apply wA|apply wN_|apply wD|refine wS ?_ GE305.out)|exact HB.out)) hb);clear BK305;clear HB;have BK305:=n0_;have HB:=n1_;clear n0_ n1_;(try clear hb);(try clear hb2);(try clear hk);(try clear hi);have hcz15_0 : w14.cell? ⟨gb305,0,none⟩ = some (.int .i64 a0_0):=(bC BK305.out 0).trans rfl;have hcz15_1 : w14.cell? ⟨gb305,1,none⟩ = some (.int .i64 a0_1):=(bC BK305.out 1).trans rfl;have hcz15_2 : w14.cell? ⟨gb305,2,none⟩ = some (.int .i64 a0_2):=(bC BK305.out 2).trans rfl;have hfz15_0:=bF BK305.out 0;have hfz15_1:=bF BK305.out 1;have hfz15_2:=bF BK305.out 2))
     go_ret
     exact ⟨by first | rfl | (simp [errW_none, errW_some] <;> rfl) | (simp [*, errW_none, errW_some] <;> rfl), by repeat (first | (with_reducible first | exact HB.out | apply wA | apply wN_ | apply wD | refine wS ?_ GE305.out) | exact HB.out)⟩
   ·rw [if_neg c6] at H
    have c6b0 : ((Int.tmod a0_0 32) == 0) = false := beq_eq_false_iff_ne.mpr c6
    have c6b1 : ((Int.tmod a0_0 32) != 0) = true := bne_iff_ne.mpr c6
    obtain rfl := Option.some.inj H
    go_enter Try.func52, Try.ntmps52
    go_wp2_with (first|((with_reducible refine gate_dst (N:=2) rfl ?_);refine box_event ?hg (N:=2) ?hd (cs:=#[.int .i64 a0_0,.int .i64 a0_1,.int .i64 a0_2]) (t:=48) ?hr ?_;(case hd => rfl);(case hg => rfl);(case hr => first|(go_simp;done)|(go_simp;rfl));intro gb305 hg w16 hbox hb;have n0_:=aM (wT (by repeat (first|(with_reducible first|exact HB.out|apply wA|apply wN_|apply wD)|exact HB.out)) hb);have n1_:=aM (hbox);have n2_:=aM ((by rw [hg];exact (wZ (by repeat (first|(with_reducible first|exact HB.out|apply wA|apply wN_|apply wD)|exact HB.out))) : w.heap.size ≤ gb305));have n3_:=aM ((by rw [hg];exact (wZ (by repeat (first|(with_reducible first|exact HB.out|apply wA|apply wN_|apply wD)|exact HB.out))) : w.heap.size ≤ gb305));clear HB;have HB:=n0_;have BK305:=n1_;have GW305:=n2_;have GE305:=n3_;clear n0_ n1_ n2_ n3_;clear hb hbox hg;have hcz17_0 : w16.cell? ⟨gb305,0,none⟩ = some (.int .i64 a0_0):=(bC BK305.out 0).trans rfl;have hcz17_1 : w16.cell? ⟨gb305,1,none⟩ = some (.int .i64 a0_1):=(bC BK305.out 1).trans rfl;have hcz17_2 : w16.cell? ⟨gb305,2,none⟩ = some (.int .i64 a0_2):=(bC BK305.out 2).trans rfl;have hfz17_0:=bF BK305.out 0;have hfz17_1:=bF BK305.out 1;have hfz17_2:=bF BK305.out 2)|((with_reducible refine gate_callee (f:=62) rfl ?_);refine goesL_ (some 8) rfl rfl Try.func62 (by kernel_rfl) rfl #[.int .i64 a0_1] rfl (by (try simp only [lM,lC,lN]);first|done|rfl|(simp only [lD,lT];rfl)) ?_;(with_reducible refine (size_Words.calls a0_1 t306 _ A3.out).mono ?_);rintro e w18 ⟨rfl,hb⟩;refine ⟨_,rfl,?_⟩;have n0_:=aM (bB (g:=gb305) (o:=.cells #[.int .i64 a0_0,.int .i64 a0_1,.int .i64 a0_2] 48 (0,0)) (by (with_reducible repeat (first|refine bN ?_ _|refine bD ?_|refine bA ?_ _));exact BK305.out) hb);have n1_:=aM (wT (by repeat (first|(with_reducible first|exact HB.out|apply wA|apply wN_|apply wD|refine wS ?_ GE305.out)|exact HB.out)) hb);clear BK305;clear HB;have BK305:=n0_;have HB:=n1_;clear n0_ n1_;(try clear hb);(try clear hb2);(try clear hk);(try clear hi);have hcz19_0 : w18.cell? ⟨gb305,0,none⟩ = some (.int .i64 a0_0):=(bC BK305.out 0).trans rfl;have hcz19_1 : w18.cell? ⟨gb305,1,none⟩ = some (.int .i64 a0_1):=(bC BK305.out 1).trans rfl;have hcz19_2 : w18.cell? ⟨gb305,2,none⟩ = some (.int .i64 a0_2):=(bC BK305.out 2).trans rfl;have hfz19_0:=bF BK305.out 0;have hfz19_1:=bF BK305.out 1;have hfz19_2:=bF BK305.out 2))
    go_ret
    exact ⟨by first | rfl | (simp [errW_none, errW_some] <;> rfl) | (simp [*, errW_none, errW_some] <;> rfl), by repeat (first | (with_reducible first | exact HB.out | apply wA | apply wN_ | apply wD | refine wS ?_ GE305.out) | exact HB.out)⟩
  ·rw [if_neg c5] at H
   have c5b0 : decide (0 ≤ a0_0) = false := decide_eq_false c5
   clear c5
   obtain rfl := Option.some.inj H
   go_enter Try.func52, Try.ntmps52
   go_wp2_with (first|((with_reducible refine gate_dst (N:=2) rfl ?_);refine box_event ?hg (N:=2) ?hd (cs:=#[.int .i64 a0_0,.int .i64 a0_1,.int .i64 a0_2]) (t:=48) ?hr ?_;(case hd => rfl);(case hg => rfl);(case hr => first|(go_simp;done)|(go_simp;rfl));intro gb305 hg w20 hbox hb;have n0_:=aM (wT (by repeat (first|(with_reducible first|exact HB.out|apply wA|apply wN_|apply wD)|exact HB.out)) hb);have n1_:=aM (hbox);have n2_:=aM ((by rw [hg];exact (wZ (by repeat (first|(with_reducible first|exact HB.out|apply wA|apply wN_|apply wD)|exact HB.out))) : w.heap.size ≤ gb305));have n3_:=aM ((by rw [hg];exact (wZ (by repeat (first|(with_reducible first|exact HB.out|apply wA|apply wN_|apply wD)|exact HB.out))) : w.heap.size ≤ gb305));clear HB;have HB:=n0_;have BK305:=n1_;have GW305:=n2_;have GE305:=n3_;clear n0_ n1_ n2_ n3_;clear hb hbox hg;have hcz21_0 : w20.cell? ⟨gb305,0,none⟩ = some (.int .i64 a0_0):=(bC BK305.out 0).trans rfl;have hcz21_1 : w20.cell? ⟨gb305,1,none⟩ = some (.int .i64 a0_1):=(bC BK305.out 1).trans rfl;have hcz21_2 : w20.cell? ⟨gb305,2,none⟩ = some (.int .i64 a0_2):=(bC BK305.out 2).trans rfl;have hfz21_0:=bF BK305.out 0;have hfz21_1:=bF BK305.out 1;have hfz21_2:=bF BK305.out 2)|((with_reducible refine gate_callee (f:=62) rfl ?_);refine goesL_ (some 8) rfl rfl Try.func62 (by kernel_rfl) rfl #[.int .i64 a0_1] rfl (by (try simp only [lM,lC,lN]);first|done|rfl|(simp only [lD,lT];rfl)) ?_;(with_reducible refine (size_Words.calls a0_1 t306 _ A3.out).mono ?_);rintro e w22 ⟨rfl,hb⟩;refine ⟨_,rfl,?_⟩;have n0_:=aM (bB (g:=gb305) (o:=.cells #[.int .i64 a0_0,.int .i64 a0_1,.int .i64 a0_2] 48 (0,0)) (by (with_reducible repeat (first|refine bN ?_ _|refine bD ?_|refine bA ?_ _));exact BK305.out) hb);have n1_:=aM (wT (by repeat (first|(with_reducible first|exact HB.out|apply wA|apply wN_|apply wD|refine wS ?_ GE305.out)|exact HB.out)) hb);clear BK305;clear HB;have BK305:=n0_;have HB:=n1_;clear n0_ n1_;(try clear hb);(try clear hb2);(try clear hk);(try clear hi);have hcz23_0 : w22.cell? ⟨gb305,0,none⟩ = some (.int .i64 a0_0):=(bC BK305.out 0).trans rfl;have hcz23_1 : w22.cell? ⟨gb305,1,none⟩ = some (.int .i64 a0_1):=(bC BK305.out 1).trans rfl;have hcz23_2 : w22.cell? ⟨gb305,2,none⟩ = some (.int .i64 a0_2):=(bC BK305.out 2).trans rfl;have hfz23_0:=bF BK305.out 0;have hfz23_1:=bF BK305.out 1;have hfz23_2:=bF BK305.out 2))
   go_ret
   exact ⟨by first | rfl | (simp [errW_none, errW_some] <;> rfl) | (simp [*, errW_none, errW_some] <;> rfl), by repeat (first | (with_reducible first | exact HB.out | apply wA | apply wN_ | apply wD | refine wS ?_ GE305.out) | exact HB.out)⟩
 ·rw [if_neg c4] at H
  have c4b0 : decide (0 < t306) = false := decide_eq_false c4
  clear c4
  obtain rfl := Option.some.inj H
  go_enter Try.func52, Try.ntmps52
  go_wp2_with (first|((with_reducible refine gate_dst (N:=2) rfl ?_);refine box_event ?hg (N:=2) ?hd (cs:=#[.int .i64 a0_0,.int .i64 a0_1,.int .i64 a0_2]) (t:=48) ?hr ?_;(case hd => rfl);(case hg => rfl);(case hr => first|(go_simp;done)|(go_simp;rfl));intro gb305 hg w24 hbox hb;have n0_:=aM (wT (by repeat (first|(with_reducible first|exact HB.out|apply wA|apply wN_|apply wD)|exact HB.out)) hb);have n1_:=aM (hbox);have n2_:=aM ((by rw [hg];exact (wZ (by repeat (first|(with_reducible first|exact HB.out|apply wA|apply wN_|apply wD)|exact HB.out))) : w.heap.size ≤ gb305));have n3_:=aM ((by rw [hg];exact (wZ (by repeat (first|(with_reducible first|exact HB.out|apply wA|apply wN_|apply wD)|exact HB.out))) : w.heap.size ≤ gb305));clear HB;have HB:=n0_;have BK305:=n1_;have GW305:=n2_;have GE305:=n3_;clear n0_ n1_ n2_ n3_;clear hb hbox hg;have hcz25_0 : w24.cell? ⟨gb305,0,none⟩ = some (.int .i64 a0_0):=(bC BK305.out 0).trans rfl;have hcz25_1 : w24.cell? ⟨gb305,1,none⟩ = some (.int .i64 a0_1):=(bC BK305.out 1).trans rfl;have hcz25_2 : w24.cell? ⟨gb305,2,none⟩ = some (.int .i64 a0_2):=(bC BK305.out 2).trans rfl;have hfz25_0:=bF BK305.out 0;have hfz25_1:=bF BK305.out 1;have hfz25_2:=bF BK305.out 2)|((with_reducible refine gate_callee (f:=62) rfl ?_);refine goesL_ (some 8) rfl rfl Try.func62 (by kernel_rfl) rfl #[.int .i64 a0_1] rfl (by (try simp only [lM,lC,lN]);first|done|rfl|(simp only [lD,lT];rfl)) ?_;(with_reducible refine (size_Words.calls a0_1 t306 _ A3.out).mono ?_);rintro e w26 ⟨rfl,hb⟩;refine ⟨_,rfl,?_⟩;have n0_:=aM (bB (g:=gb305) (o:=.cells #[.int .i64 a0_0,.int .i64 a0_1,.int .i64 a0_2] 48 (0,0)) (by (with_reducible repeat (first|refine bN ?_ _|refine bD ?_|refine bA ?_ _));exact BK305.out) hb);have n1_:=aM (wT (by repeat (first|(with_reducible first|exact HB.out|apply wA|apply wN_|apply wD|refine wS ?_ GE305.out)|exact HB.out)) hb);clear BK305;clear HB;have BK305:=n0_;have HB:=n1_;clear n0_ n1_;(try clear hb);(try clear hb2);(try clear hk);(try clear hi)))
  go_ret
  exact ⟨by first | rfl | (simp [errW_none, errW_some] <;> rfl) | (simp [*, errW_none, errW_some] <;> rfl), by repeat (first | (with_reducible first | exact HB.out | apply wA | apply wN_ | apply wD | refine wS ?_ GE305.out) | exact HB.out)⟩

/-! ### model_over: function 55 -/
def model_over.f (a0_0 : Int) (a0_1 : Int) (a0_2 : Int) (a1_0 : Int) (a1_1 : Int) (a1_2 : Int) : Option (Bool) := (size_Words.f a0_1).bind fun t309 => ((size_Words.f a1_1).bind fun t310 => ((num_Over.f a0_0 t309 a1_0 t310).bind fun t311 => (some t311)))
def model_over.T1 : Bool × List (List Nat × List Nat) := (true, [([], []), ([0], [0]), ([], []), ([2], [2]), ([3], [3]), ([], []), ([5], [5]), ([], []), ([7], [7]), ([8, 4], [8]), ([1, 4, 6, 9, 9], [1, 4, 6, 9]), ([10, 10, 0, 1, 2, 3, 4, 5, 6, 7, 8, 9, 10], [10])])
def model_over.B1 : List Nat := [0, 1, 0, 4, 12, 0, 32, 0, 128, 412, 1023, 2047]
theorem model_over.tab1 : rtab .any (opsOf Try.f55 1) = model_over.T1 := by kernel_rfl
theorem model_over.bits1 : waitsOk model_over.T1.2 model_over.B1 = true := by kernel_rfl
set_option maxHeartbeats 8000000 in
set_option maxRecDepth 100000 in
theorem model_over.calls (a0_0 : Int) (a0_1 : Int) (a0_2 : Int) (a1_0 : Int) (a1_1 : Int) (a1_2 : Int) (r : Bool) (w : World) (h : model_over.f a0_0 a0_1 a0_2 a1_0 a1_1 a1_2 = some r) :
  Calls Try.prog 55 #[.agg #[.int .i64 a0_0, .int .i64 a0_1, .int .i64 a0_2], .agg #[.int .i64 a1_0, .int .i64 a1_1, .int .i64 a1_2]] w fun e w' => e = .returned (.bool r) ∧ Below w.heap.size w w' := by
 have hu48 := Try.underlying48
 have HB := aM (Below.refl w.heap.size w)
 have H : ((size_Words.f a0_1).bind fun t309 => ((size_Words.f a1_1).bind fun t310 => ((num_Over.f a0_0 t309 a1_0 t310).bind fun t311 => (some t311)))) = some r := h
 clear h
 replace H := Option.bind_eq_some_iff.mp H
 obtain ⟨t309, A30, H⟩ := H
 replace H : ((size_Words.f a1_1).bind fun t310 => ((num_Over.f a0_0 t309 a1_0 t310).bind fun t311 => (some t311))) = some r := H
 have A3 := aM A30
 clear A30
 replace H := Option.bind_eq_some_iff.mp H
 obtain ⟨t310, A40, H⟩ := H
 replace H : ((num_Over.f a0_0 t309 a1_0 t310).bind fun t311 => (some t311)) = some r := H
 have A4 := aM A40
 clear A40
 replace H := Option.bind_eq_some_iff.mp H
 obtain ⟨t311, A50, H⟩ := H
 replace H : (some t311) = some r := H
 have A5 := aM A50
 clear A50
 obtain rfl := Option.some.inj H
 go_enter Try.func55, Try.ntmps55
 try go_wp2_with (first|((with_reducible refine gate_dst (N:=2) rfl ?_);refine box_event ?hg (N:=2) ?hd (cs:=#[.int .i64 a0_0,.int .i64 a0_1,.int .i64 a0_2]) (t:=48) ?hr ?_;(case hd => rfl);(case hg => rfl);(case hr => first|(go_simp;done)|(go_simp;rfl));intro gb307 hg w6 hbox hb;have n0_:=aM (wT (by repeat (first|(with_reducible first|exact HB.out|apply wA|apply wN_|apply wD)|exact HB.out)) hb);have n1_:=aM (hbox);have n2_:=aM ((by rw [hg];exact (wZ (by repeat (first|(with_reducible first|exact HB.out|apply wA|apply wN_|apply wD)|exact HB.out))) : w.heap.size ≤ gb307));have n3_:=aM ((by rw [hg];exact (wZ (by repeat (first|(with_reducible first|exact HB.out|apply wA|apply wN_|apply wD)|exact HB.out))) : w.heap.size ≤ gb307));clear HB;have HB:=n0_;have BK307:=n1_;have GW307:=n2_;have GE307:=n3_;clear n0_ n1_ n2_ n3_;clear hb hbox hg)|((with_reducible refine gate_dst (N:=3) rfl ?_);refine box_event ?hg (N:=3) ?hd (cs:=#[.int .i64 a1_0,.int .i64 a1_1,.int .i64 a1_2]) (t:=48) ?hr ?_;(case hd => rfl);(case hg => rfl);(case hr => first|(go_simp;done)|(go_simp;rfl));intro gb308 hg w7 hbox hb;have n0_:=aM (bB (g:=gb307) (o:=.cells #[.int .i64 a0_0,.int .i64 a0_1,.int .i64 a0_2] 48 (0,0)) (by (with_reducible repeat (first|refine bN ?_ _|refine bD ?_|refine bA ?_ _));exact BK307.out) hb);have n1_:=aM (wT (by repeat (first|(with_reducible first|exact HB.out|apply wA|apply wN_|apply wD|refine wS ?_ GE307.out)|exact HB.out)) hb);have n2_:=aM (hbox);have n3_:=aM ((by rw [hg];exact (wZ (by repeat (first|(with_reducible first|exact HB.out|apply wA|apply wN_|apply wD|refine wS ?_ GE307.out)|exact HB.out))) : w.heap.size ≤ gb308));have n4_:=aM ((by rw [hg];exact (wZ (by repeat (first|(with_reducible first|exact HB.out|apply wA|apply wN_|apply wD|refine wS ?_ GE307.out)|exact HB.out))) : w.heap.size ≤ gb308));have n5_:=aM ((by rw [hg];exact Nat.ne_of_lt (bL (g:=gb307) (o:=.cells #[.int .i64 a0_0,.int .i64 a0_1,.int .i64 a0_2] 48 (0,0)) (by (with_reducible repeat (first|refine bN ?_ _|refine bD ?_|refine bA ?_ _));exact BK307.out)) : gb307 ≠ gb308));have n6_:=aM ((by rw [hg];exact Nat.ne_of_gt (bL (g:=gb307) (o:=.cells #[.int .i64 a0_0,.int .i64 a0_1,.int .i64 a0_2] 48 (0,0)) (by (with_reducible repeat (first|refine bN ?_ _|refine bD ?_|refine bA ?_ _));exact BK307.out)) : gb308 ≠ gb307));clear BK307;clear HB;have BK307:=n0_;have HB:=n1_;have BK308:=n2_;have GW308:=n3_;have GE308:=n4_;have NB307_308:=n5_;have NB308_307:=n6_;clear n0_ n1_ n2_ n3_ n4_ n5_ n6_;clear hb hbox hg))
 have n0_ := aM (bD BK307.out)
 have n1_ := aM (bD BK308.out)
 have n2_ := aM (wD HB.out)
 clear BK307
 clear BK308
 clear HB
 have BK307 := n0_
 have BK308 := n1_
 have HB := n2_
 clear n0_ n1_ n2_
 refine start_ (n := 12) (S := fun w' => w'.cell? ⟨gb307, 0, none⟩ = some (.int .i64 a0_0) ∧ w'.cell? ⟨gb307, 1, none⟩ = some (.int .i64 a0_1) ∧ w'.cell? ⟨gb307, 2, none⟩ = some (.int .i64 a0_2) ∧ w'.cell? ⟨gb308, 0, none⟩ = some (.int .i64 a1_0) ∧ w'.cell? ⟨gb308, 1, none⟩ = some (.int .i64 a1_1) ∧ w'.cell? ⟨gb308, 2, none⟩ = some (.int .i64 a1_2)) (ds := []) #[false, false, false, false, false, false, false, false, false, false, false, false] (by kernel_rfl) rfl rfl ⟨(bC BK307.out 0).trans rfl, (bC BK307.out 1).trans rfl, (bC BK307.out 2).trans rfl, (bC BK308.out 0).trans rfl, (bC BK308.out 1).trans rfl, (bC BK308.out 2).trans rfl⟩ (fun hHeld => ?_); refine with_tabW model_over.tab1 model_over.bits1 (fun HT_ HW_ => ?_)
 generalize w7.drew = w8 at BK307 BK308 HB hHeld ⊢
 refine pure_ (i := 0) (N := some 5) (v := ?_) (a' := ?_) #[true, false, false, false, false, false, false, false, false, false, false, false] rfl rfl (any_of HT_.out (by kernel_rfl)) (fun _ _ _ h => h) (Or.inl ⟨by rfl, ?_⟩) ?_ ?_
 rotate_left
 ·intro w'
  go_simp
  with_reducible rfl
 rotate_left
 ·simp only [Act.put, lS, lZ, lU, i64_w, i32_w]
  rfl
 refine pure_ (i := 2) (N := some 7) (v := ?_) (a' := ?_) #[true, false, true, false, false, false, false, false, false, false, false, false] rfl rfl (any_of HT_.out (by kernel_rfl)) (fun _ _ _ h => h) (Or.inl ⟨by rfl, ?_⟩) ?_ ?_
 rotate_left
 ·intro w'
  go_simp
  with_reducible rfl
 rotate_left
 ·simp only [Act.put, lS, lZ, lU, i64_w, i32_w]
  rfl
 refine pure_ (i := 5) (N := some 10) (v := ?_) (a' := ?_) #[true, false, true, false, false, true, false, false, false, false, false, false] rfl rfl (any_of HT_.out (by kernel_rfl)) (fun _ _ _ h => h) (Or.inl ⟨by rfl, ?_⟩) ?_ ?_
 rotate_left
 ·intro w'
  go_simp
  with_reducible rfl
 rotate_left
 ·simp only [Act.put, lS, lZ, lU, i64_w, i32_w]
  rfl
 refine pure_ (i := 7) (N := some 12) (v := ?_) (a' := ?_) #[true, false, true, false, false, true, false, true, false, false, false, false] rfl rfl (any_of HT_.out (by kernel_rfl)) (fun _ _ _ h => h) (Or.inl ⟨by rfl, ?_⟩) ?_ ?_
 rotate_left
 ·intro w'
  go_simp
  with_reducible rfl
 rotate_left
 ·simp only [Act.put, lS, lZ, lU, i64_w, i32_w]
  rfl
 refine take_ (i := 1) (N := some 6) (v := ?_) (a' := ?_) #[true, true, true, false, false, true, false, true, false, false, false, false] rfl rfl (take_ofW HT_.out HW_.out (by kernel_rfl)) (fun _ _ _ h => h) (Or.inl ⟨by rfl, ?_⟩) hHeld ?_ ?_
 rotate_left
 ·rintro w' ⟨s0, s1, s2, s3, s4, s5⟩
  go_simp
  with_reducible rfl
 rotate_left
 ·simp only [Act.put, lS, lZ, lU, i64_w, i32_w]
  rfl
 refine take_ (i := 3) (N := some 8) (v := ?_) (a' := ?_) #[true, true, true, true, false, true, false, true, false, false, false, false] rfl rfl (take_ofW HT_.out HW_.out (by kernel_rfl)) (fun _ _ _ h => h) (Or.inl ⟨by rfl, ?_⟩) hHeld ?_ ?_
 rotate_left
 ·rintro w' ⟨s0, s1, s2, s3, s4, s5⟩
  go_simp
  with_reducible rfl
 rotate_left
 ·simp only [Act.put, lS, lZ, lU, i64_w, i32_w]
  rfl
 refine take_ (i := 6) (N := some 11) (v := ?_) (a' := ?_) #[true, true, true, true, false, true, true, true, false, false, false, false] rfl rfl (take_ofW HT_.out HW_.out (by kernel_rfl)) (fun _ _ _ h => h) (Or.inl ⟨by rfl, ?_⟩) hHeld ?_ ?_
 rotate_left
 ·rintro w' ⟨s0, s1, s2, s3, s4, s5⟩
  go_simp
  with_reducible rfl
 rotate_left
 ·simp only [Act.put, lS, lZ, lU, i64_w, i32_w]
  rfl
 refine take_ (i := 8) (N := some 13) (v := ?_) (a' := ?_) #[true, true, true, true, false, true, true, true, true, false, false, false] rfl rfl (take_ofW HT_.out HW_.out (by kernel_rfl)) (fun _ _ _ h => h) (Or.inl ⟨by rfl, ?_⟩) hHeld ?_ ?_
 rotate_left
 ·rintro w' ⟨s0, s1, s2, s3, s4, s5⟩
  go_simp
  with_reducible rfl
 rotate_left
 ·simp only [Act.put, lS, lZ, lU, i64_w, i32_w]
  rfl
 refine one_ (i := 4) (N := some 9) #[true, true, true, true, true, true, true, true, true, false, false, false] rfl rfl (one_of HT_.out (by kernel_rfl)) (by decide) (fun K hK => ?_)
 refine goes_ Try.func62 (by kernel_rfl) rfl #[.int .i64 a0_1] (by rfl) rfl rfl (by (try simp only [lM, lC, lN]); first | done | rfl | (simp only [lD, lT]; rfl)) ?_
 with_reducible refine (size_Words.calls a0_1 t309 _ A3.out).mono ?_
 rintro e w9 ⟨rfl, hb⟩
 refine ⟨_, rfl, ?_⟩
 have n0_ := aM (bB (g := gb307) (o := .cells #[.int .i64 a0_0, .int .i64 a0_1, .int .i64 a0_2] 48 (0, 0)) (by (with_reducible repeat (first | refine bN ?_ _ | refine bD ?_ | refine bA ?_ _)); exact BK307.out) hb)
 have n1_ := aM (bB (g := gb308) (o := .cells #[.int .i64 a1_0, .int .i64 a1_1, .int .i64 a1_2] 48 (0, 0)) (by (with_reducible repeat (first | refine bN ?_ _ | refine bD ?_ | refine bA ?_ _)); exact BK308.out) hb)
 have n2_ := aM (wT (by repeat (first | (with_reducible first | exact HB.out | apply wA | apply wN_ | apply wD | refine wS ?_ GE307.out | refine wS ?_ GE308.out) | exact HB.out)) hb)
 clear BK307
 clear BK308
 clear HB
 have BK307 := n0_
 have BK308 := n1_
 have HB := n2_
 clear n0_ n1_ n2_
 (try clear hb)
 (try clear hb2)
 (try clear hk)
 (try clear hi)
 refine hK.out _ _ ⟨(bC BK307.out 0).trans rfl, (bC BK307.out 1).trans rfl, (bC BK307.out 2).trans rfl, (bC BK308.out 0).trans rfl, (bC BK308.out 1).trans rfl, (bC BK308.out 2).trans rfl⟩ (fun hHeld => ?_)
 clear hK K
 refine norm_ (a' := ?_) ?_ ?_
 rotate_left
 ·show Act.put _ (some 9) _ = _
  simp only [Act.put, lS, lZ, lU, i64_w, i32_w]
  rfl
 refine one_ (i := 9) (N := some 14) #[true, true, true, true, true, true, true, true, true, true, false, false] rfl rfl (one_of HT_.out (by kernel_rfl)) (by decide) (fun K hK => ?_)
 refine goes_ Try.func62 (by kernel_rfl) rfl #[.int .i64 a1_1] (by rfl) rfl rfl (by (try simp only [lM, lC, lN]); first | done | rfl | (simp only [lD, lT]; rfl)) ?_
 with_reducible refine (size_Words.calls a1_1 t310 _ A4.out).mono ?_
 rintro e w10 ⟨rfl, hb⟩
 refine ⟨_, rfl, ?_⟩
 have n0_ := aM (bB (g := gb307) (o := .cells #[.int .i64 a0_0, .int .i64 a0_1, .int .i64 a0_2] 48 (0, 0)) (by (with_reducible repeat (first | refine bN ?_ _ | refine bD ?_ | refine bA ?_ _)); exact BK307.out) hb)
 have n1_ := aM (bB (g := gb308) (o := .cells #[.int .i64 a1_0, .int .i64 a1_1, .int .i64 a1_2] 48 (0, 0)) (by (with_reducible repeat (first | refine bN ?_ _ | refine bD ?_ | refine bA ?_ _)); exact BK308.out) hb)
 have n2_ := aM (wT (by repeat (first | (with_reducible first | exact HB.out | apply wA | apply wN_ | apply wD | refine wS ?_ GE307.out | refine wS ?_ GE308.out) | exact HB.out)) hb)
 clear BK307
 clear BK308
 clear HB
 have BK307 := n0_
 have BK308 := n1_
 have HB := n2_
 clear n0_ n1_ n2_
 (try clear hb)
 (try clear hb2)
 (try clear hk)
 (try clear hi)
 refine hK.out _ _ ⟨(bC BK307.out 0).trans rfl, (bC BK307.out 1).trans rfl, (bC BK307.out 2).trans rfl, (bC BK308.out 0).trans rfl, (bC BK308.out 1).trans rfl, (bC BK308.out 2).trans rfl⟩ (fun hHeld => ?_)
 clear hK K
 refine norm_ (a' := ?_) ?_ ?_
 rotate_left
 ·show Act.put _ (some 14) _ = _
  simp only [Act.put, lS, lZ, lU, i64_w, i32_w]
  rfl
 refine one_ (i := 10) (N := some 15) #[true, true, true, true, true, true, true, true, true, true, true, false] rfl rfl (one_of HT_.out (by kernel_rfl)) (by decide) (fun K hK => ?_)
 refine goes_ Try.func74 (by kernel_rfl) rfl #[.int .i64 a0_0, .int .i64 t309, .int .i64 a1_0, .int .i64 t310] (by rfl) rfl rfl (by (try simp only [lM, lC, lN]); first | done | rfl | (simp only [lD, lT]; rfl)) ?_
 with_reducible refine (num_Over.calls a0_0 t309 a1_0 t310 t311 _ A5.out).mono ?_
 rintro e w' ⟨rfl, ⟨nd, rfl⟩⟩
 refine ⟨_, rfl, ?_⟩
 refine hK.out _ _ ⟨(bC BK307.out 0).trans rfl, (bC BK307.out 1).trans rfl, (bC BK307.out 2).trans rfl, (bC BK308.out 0).trans rfl, (bC BK308.out 1).trans rfl, (bC BK308.out 2).trans rfl⟩ (fun hHeld => ?_)
 clear hK K
 refine norm_ (a' := ?_) ?_ ?_
 rotate_left
 ·show Act.put _ (some 15) _ = _
  simp only [Act.put, lS, lZ, lU, i64_w, i32_w]
  rfl
 refine pure_ (i := 11) (N := some 4) (v := ?_) (a' := ?_) #[true, true, true, true, true, true, true, true, true, true, true, true] rfl rfl (any_of HT_.out (by kernel_rfl)) (fun _ _ _ h => h) (Or.inl ⟨by rfl, ?_⟩) ?_ ?_
 rotate_left
 ·intro w'
  go_simp
  with_reducible rfl
 rotate_left
 ·simp only [Act.put, lS, lZ, lU, i64_w, i32_w]
  rfl
 refine done_ (done_of HT_.out (by kernel_rfl)) ?_
 try go_wp2
 go_ret
 exact ⟨by first | rfl | (simp [errW_none, errW_some] <;> rfl) | (simp [*, errW_none, errW_some] <;> rfl), by repeat (first | (with_reducible first | exact HB.out | apply wA | apply wN_ | apply wD | refine wS ?_ GE307.out | refine wS ?_ GE308.out) | exact HB.out)⟩

-- NOT PRINTED: function 82 (api_Live_82)

-- NOT PRINTED: function 53 (api_Live_53)

end Go.Proofs.Ytflhbakjlbmfbaa.Pr
