/- Several texts in one: Prx6, Prx7. -/
import Derived.Test.YtflhbakjlbmfbaaPrx0
import Derived.Test.YtflhbakjlbmfbaaShort
import Derived.Test.YtflhbakjlbmfbaaSizeOver
-- Printed by a program of this session (wip/tools/myprint.py) that runs the kit's print with contracts of this session's own.
namespace Go.Proofs.Ytflhbakjlbmfbaa.Pr
open Go.RowKit Go.Proofs.YtflhbakjlbmfbaaW.PrintWords Go.Proofs.YtflhbakjlbmfbaaW.PrintLast Go.Proofs.YtflhbakjlbmfbaaW.PrintMore
attribute [local go_sem] max2_int min2_int max_two min_two max_three min_three max_four min_four   -- for this text's walks alone
set_option linter.unusedVariables false
set_option linter.unusedSimpArgs false

/-! ### size_of: function 81 (a contract of this session's own) -/
def size_of.f (a0 : Int) : Option (Int × Int × Int × Int) := some (sizeRow a0)
theorem size_of.calls (a0 : Int) (r1 r2 r3 r4 : Int) (w : World) (h : size_of.f a0 = some (r1, r2, r3, r4)) :
  Calls Try.prog 81 #[.int .i64 a0] w fun e w' => e = .returned (.agg #[.int .i64 r1, .int .i64 r2, .int .i64 r3, .int .i64 r4]) ∧ Below w.heap.size w w' := by
 have h1 := Option.some.inj h
 have h2 := size_any a0 w
 unfold SizePost at h2
 rw [h1] at h2
 exact h2

end Go.Proofs.Ytflhbakjlbmfbaa.Pr

-- Printed by a program of this session (wip/tools/myprint.py) that runs the kit's print with contracts of this session's own.
namespace Go.Proofs.Ytflhbakjlbmfbaa.Pr
open Go.RowKit Go.Proofs.YtflhbakjlbmfbaaW.PrintWords Go.Proofs.YtflhbakjlbmfbaaW.PrintLast Go.Proofs.YtflhbakjlbmfbaaW.PrintMore
attribute [local go_sem] max2_int min2_int max_two min_two max_three min_three max_four min_four   -- for this text's walks alone
set_option linter.unusedVariables false
set_option linter.unusedSimpArgs false

/-! ### size_Words: function 62 -/
def size_Words.f (a0 : Int) : Option (Int) := (size_of.f a0).bind fun bt145 => (some bt145.1)
set_option maxHeartbeats 8000000 in
set_option maxRecDepth 100000 in
theorem size_Words.calls (a0 : Int) (r : Int) (w : World) (h : size_Words.f a0 = some r) :
  Calls Try.prog 62 #[.int .i64 a0] w fun e w' => e = .returned (.int .i64 r) ∧ Below w.heap.size w w' := by
 have hu101 := Try.underlying101
 have HB := aM (Below.refl w.heap.size w)
 have H : ((size_of.f a0).bind fun bt145 => (some bt145.1)) = some r := h
 clear h
 replace H := Option.bind_eq_some_iff.mp H
 obtain ⟨⟨t145, t146, t147, t148⟩, A20, H⟩ := H
 replace H : (some t145) = some r := H
 have A2 := aM A20
 clear A20
 obtain rfl := Option.some.inj H
 go_enter Try.func62, Try.ntmps62
 go_wp2_with (first|((with_reducible refine gate_callee (f:=81) rfl ?_);refine goesL_ (some 4) rfl rfl Try.func81 (by kernel_rfl) rfl #[.int .i64 a0] rfl (by (try simp only [lM,lC,lN]);first|done|rfl|(simp only [lD,lT];rfl)) ?_;(with_reducible refine (size_of.calls a0 t145 t146 t147 t148 _ A2.out).mono ?_);rintro e w3 ⟨rfl,hb⟩;refine ⟨_,rfl,?_⟩;have n0_:=aM (wT (by repeat (first|(with_reducible first|exact HB.out|apply wA|apply wN_|apply wD)|exact HB.out)) hb);clear HB;have HB:=n0_;clear n0_;(try clear hb);(try clear hb2);(try clear hk);(try clear hi)))
 go_ret
 exact ⟨by first | rfl | (simp [errW_none, errW_some] <;> rfl) | (simp [*, errW_none, errW_some] <;> rfl), by repeat (first | (with_reducible first | exact HB.out | apply wA | apply wN_ | apply wD) | exact HB.out)⟩

/-! ### size_Small: function 73 -/
def size_Small.f (a0 : Int) : Option (Bool) := (size_of.f a0).bind fun bt149 => (some (decide (bt149.2.2.2 > 0)))
set_option maxHeartbeats 8000000 in
set_option maxRecDepth 100000 in
theorem size_Small.calls (a0 : Int) (r : Bool) (w : World) (h : size_Small.f a0 = some r) :
  Calls Try.prog 73 #[.int .i64 a0] w fun e w' => e = .returned (.bool r) ∧ Below w.heap.size w w' := by
 have hu101 := Try.underlying101
 have HB := aM (Below.refl w.heap.size w)
 have H : ((size_of.f a0).bind fun bt149 => (some (decide (bt149.2.2.2 > 0)))) = some r := h
 clear h
 replace H := Option.bind_eq_some_iff.mp H
 obtain ⟨⟨t149, t150, t151, t152⟩, A20, H⟩ := H
 replace H : (some (decide (t152 > 0))) = some r := H
 have A2 := aM A20
 clear A20
 obtain rfl := Option.some.inj H
 go_enter Try.func73, Try.ntmps73
 go_wp2_with (first|((with_reducible refine gate_callee (f:=81) rfl ?_);refine goesL_ (some 4) rfl rfl Try.func81 (by kernel_rfl) rfl #[.int .i64 a0] rfl (by (try simp only [lM,lC,lN]);first|done|rfl|(simp only [lD,lT];rfl)) ?_;(with_reducible refine (size_of.calls a0 t149 t150 t151 t152 _ A2.out).mono ?_);rintro e w3 ⟨rfl,hb⟩;refine ⟨_,rfl,?_⟩;have n0_:=aM (wT (by repeat (first|(with_reducible first|exact HB.out|apply wA|apply wN_|apply wD)|exact HB.out)) hb);clear HB;have HB:=n0_;clear n0_;(try clear hb);(try clear hb2);(try clear hk);(try clear hi)))
 go_ret
 exact ⟨by first | rfl | (simp [errW_none, errW_some] <;> rfl) | (simp [*, errW_none, errW_some] <;> rfl), by repeat (first | (with_reducible first | exact HB.out | apply wA | apply wN_ | apply wD) | exact HB.out)⟩

/-! ### large_may: function 39 -/
def large_may.f (a0_0 : Int) (a0_1 : Int) : Option (Bool) := (size_Words.f a0_1).bind fun t154 => (if t154 > 0 then ((size_Small.f a0_1).bind fun t155 => (if t155 = true then (some false) else (if a0_0 ≥ 0 then (if (Int.tmod a0_0 64) = 0 then (some (decide (a0_0 ≤ (wrap64 (16384 - t154))))) else (some false)) else (some false)))) else (some false))
set_option maxHeartbeats 8000000 in
set_option maxRecDepth 100000 in
theorem large_may.calls (a0_0 : Int) (a0_1 : Int) (r : Bool) (w : World) (h : large_may.f a0_0 a0_1 = some r) :
  Calls Try.prog 39 #[.agg #[.int .i64 a0_0, .int .i64 a0_1]] w fun e w' => e = .returned (.bool r) ∧ Below w.heap.size w w' := by
 have hu29 := Try.underlying29
 have HB := aM (Below.refl w.heap.size w)
 have H : ((size_Words.f a0_1).bind fun t154 => (if t154 > 0 then ((size_Small.f a0_1).bind fun t155 => (if t155 = true then (some false) else (if a0_0 ≥ 0 then (if (Int.tmod a0_0 64) = 0 then (some (decide (a0_0 ≤ (wrap64 (16384 - t154))))) else (some false)) else (some false)))) else (some false))) = some r := h
 clear h
 replace H := Option.bind_eq_some_iff.mp H
 obtain ⟨t154, A20, H⟩ := H
 replace H : (if t154 > 0 then ((size_Small.f a0_1).bind fun t155 => (if t155 = true then (some false) else (if a0_0 ≥ 0 then (if (Int.tmod a0_0 64) = 0 then (some (decide (a0_0 ≤ (wrap64 (16384 - t154))))) else (some false)) else (some false)))) else (some false)) = some r := H
 have A2 := aM A20
 clear A20
 by_cases c3 : t154 > 0
 ·rw [if_pos c3] at H
  have c3b0 : decide (0 < t154) = true := decide_eq_true c3
  clear c3
  replace H := Option.bind_eq_some_iff.mp H
  obtain ⟨t155, A40, H⟩ := H
  replace H : (if t155 = true then (some false) else (if a0_0 ≥ 0 then (if (Int.tmod a0_0 64) = 0 then (some (decide (a0_0 ≤ (wrap64 (16384 - t154))))) else (some false)) else (some false))) = some r := H
  have A4 := aM A40
  clear A40
  by_cases c5 : t155 = true
  ·subst c5
   have H1 : (some false) = some r := by rw [if_pos rfl] at H; exact H
   clear H
   have H := H1
   clear H1
   obtain rfl := Option.some.inj H
   go_enter Try.func39, Try.ntmps39
   go_wp2_with (first|((with_reducible refine gate_dst (N:=1) rfl ?_);refine box_event ?hg (N:=1) ?hd (cs:=#[.int .i64 a0_0,.int .i64 a0_1]) (t:=29) ?hr ?_;(case hd => rfl);(case hg => rfl);(case hr => first|(go_simp;done)|(go_simp;rfl));intro gb153 hg w6 hbox hb;have n0_:=aM (wT (by repeat (first|(with_reducible first|exact HB.out|apply wA|apply wN_|apply wD)|exact HB.out)) hb);have n1_:=aM (hbox);have n2_:=aM ((by rw [hg];exact (wZ (by repeat (first|(with_reducible first|exact HB.out|apply wA|apply wN_|apply wD)|exact HB.out))) : w.heap.size ≤ gb153));have n3_:=aM ((by rw [hg];exact (wZ (by repeat (first|(with_reducible first|exact HB.out|apply wA|apply wN_|apply wD)|exact HB.out))) : w.heap.size ≤ gb153));clear HB;have HB:=n0_;have BK153:=n1_;have GW153:=n2_;have GE153:=n3_;clear n0_ n1_ n2_ n3_;clear hb hbox hg;have hcz7_0 : w6.cell? ⟨gb153,0,none⟩ = some (.int .i64 a0_0):=(bC BK153.out 0).trans rfl;have hcz7_1 : w6.cell? ⟨gb153,1,none⟩ = some (.int .i64 a0_1):=(bC BK153.out 1).trans rfl;have hfz7_0:=bF BK153.out 0;have hfz7_1:=bF BK153.out 1)|((with_reducible refine gate_callee (f:=62) rfl ?_);refine goesL_ (some 6) rfl rfl Try.func62 (by kernel_rfl) rfl #[.int .i64 a0_1] rfl (by (try simp only [lM,lC,lN]);first|done|rfl|(simp only [lD,lT];rfl)) ?_;(with_reducible refine (size_Words.calls a0_1 t154 _ A2.out).mono ?_);rintro e w8 ⟨rfl,hb⟩;refine ⟨_,rfl,?_⟩;have n0_:=aM (bB (g:=gb153) (o:=.cells #[.int .i64 a0_0,.int .i64 a0_1] 29 (0,0)) (by (with_reducible repeat (first|refine bN ?_ _|refine bD ?_|refine bA ?_ _));exact BK153.out) hb);have n1_:=aM (wT (by repeat (first|(with_reducible first|exact HB.out|apply wA|apply wN_|apply wD|refine wS ?_ GE153.out)|exact HB.out)) hb);clear BK153;clear HB;have BK153:=n0_;have HB:=n1_;clear n0_ n1_;(try clear hb);(try clear hb2);(try clear hk);(try clear hi);have hcz9_0 : w8.cell? ⟨gb153,0,none⟩ = some (.int .i64 a0_0):=(bC BK153.out 0).trans rfl;have hcz9_1 : w8.cell? ⟨gb153,1,none⟩ = some (.int .i64 a0_1):=(bC BK153.out 1).trans rfl;have hfz9_0:=bF BK153.out 0;have hfz9_1:=bF BK153.out 1)|(go_at_call 73;(with_reducible refine (size_Small.calls a0_1 true _ A4.out).mono ?_);rintro e w10 ⟨rfl,hb⟩;have n0_:=aM (bB (g:=gb153) (o:=.cells #[.int .i64 a0_0,.int .i64 a0_1] 29 (0,0)) (by (with_reducible repeat (first|refine bN ?_ _|refine bD ?_|refine bA ?_ _));exact BK153.out) hb);have n1_:=aM (wT (by repeat (first|(with_reducible first|exact HB.out|apply wA|apply wN_|apply wD|refine wS ?_ GE153.out)|exact HB.out)) hb);clear BK153;clear HB;have BK153:=n0_;have HB:=n1_;clear n0_ n1_;(try clear hb);(try clear hb2);(try clear hk);(try clear hi)))
   go_ret
   exact ⟨by first | rfl | (simp [errW_none, errW_some] <;> rfl) | (simp [*, errW_none, errW_some] <;> rfl), by repeat (first | (with_reducible first | exact HB.out | apply wA | apply wN_ | apply wD | refine wS ?_ GE153.out) | exact HB.out)⟩
  ·replace c5 := Bool.eq_false_iff.mpr c5
   subst c5
   have H1 : (if a0_0 ≥ 0 then (if (Int.tmod a0_0 64) = 0 then (some (decide (a0_0 ≤ (wrap64 (16384 - t154))))) else (some false)) else (some false)) = some r := by rw [if_neg (show ¬ (false = true) by decide)] at H; exact H
   clear H
   have H := H1
   clear H1
   by_cases c11 : a0_0 ≥ 0
   ·rw [if_pos c11] at H
    have c11b0 : decide (0 ≤ a0_0) = true := decide_eq_true c11
    clear c11
    by_cases c12 : (Int.tmod a0_0 64) = 0
    ·rw [if_pos c12] at H
     have c12b0 : ((Int.tmod a0_0 64) == 0) = true := beq_iff_eq.mpr c12
     have c12b1 : ((Int.tmod a0_0 64) != 0) = false := bne_eq_false_iff_eq.mpr c12
     clear c12
     obtain rfl := Option.some.inj H
     go_enter Try.func39, Try.ntmps39
     go_wp2_with (first|((with_reducible refine gate_dst (N:=1) rfl ?_);refine box_event ?hg (N:=1) ?hd (cs:=#[.int .i64 a0_0,.int .i64 a0_1]) (t:=29) ?hr ?_;(case hd => rfl);(case hg => rfl);(case hr => first|(go_simp;done)|(go_simp;rfl));intro gb153 hg w13 hbox hb;have n0_:=aM (wT (by repeat (first|(with_reducible first|exact HB.out|apply wA|apply wN_|apply wD)|exact HB.out)) hb);have n1_:=aM (hbox);have n2_:=aM ((by rw [hg];exact (wZ (by repeat (first|(with_reducible first|exact HB.out|apply wA|apply wN_|apply wD)|exact HB.out))) : w.heap.size ≤ gb153));have n3_:=aM ((by rw [hg];exact (wZ (by repeat (first|(with_reducible first|exact HB.out|apply wA|apply wN_|apply wD)|exact HB.out))) : w.heap.size ≤ gb153));clear HB;have HB:=n0_;have BK153:=n1_;have GW153:=n2_;have GE153:=n3_;clear n0_ n1_ n2_ n3_;clear hb hbox hg;have hcz14_0 : w13.cell? ⟨gb153,0,none⟩ = some (.int .i64 a0_0):=(bC BK153.out 0).trans rfl;have hcz14_1 : w13.cell? ⟨gb153,1,none⟩ = some (.int .i64 a0_1):=(bC BK153.out 1).trans rfl;have hfz14_0:=bF BK153.out 0;have hfz14_1:=bF BK153.out 1)|((with_reducible refine gate_callee (f:=62) rfl ?_);refine goesL_ (some 6) rfl rfl Try.func62 (by kernel_rfl) rfl #[.int .i64 a0_1] rfl (by (try simp only [lM,lC,lN]);first|done|rfl|(simp only [lD,lT];rfl)) ?_;(with_reducible refine (size_Words.calls a0_1 t154 _ A2.out).mono ?_);rintro e w15 ⟨rfl,hb⟩;refine ⟨_,rfl,?_⟩;have n0_:=aM (bB (g:=gb153) (o:=.cells #[.int .i64 a0_0,.int .i64 a0_1] 29 (0,0)) (by (with_reducible repeat (first|refine bN ?_ _|refine bD ?_|refine bA ?_ _));exact BK153.out) hb);have n1_:=aM (wT (by repeat (first|(with_reducible first|exact HB.out|apply wA|apply wN_|apply wD|refine wS ?_ GE153.out)|exact HB.out)) hb);clear BK153;clear HB;have BK153:=n0_;have HB:=n1_;clear n0_ n1_;(try clear hb);(try clear hb2);(try clear hk);(try clear hi);have hcz16_0 : w15.cell? ⟨gb153,0,none⟩ = some (.int .i64 a0_0):=(bC BK153.out 0).trans rfl;have hcz16_1 : w15.cell? ⟨gb153,1,none⟩ = some (.int .i64 a0_1):=(bC BK153.out 1).trans rfl;have hfz16_0:=bF BK153.out 0;have hfz16_1:=bF BK153.out 1)|(go_at_call 73;(with_reducible refine (size_Small.calls a0_1 false _ A4.out).mono ?_);rintro e w17 ⟨rfl,hb⟩;have n0_:=aM (bB (g:=gb153) (o:=.cells #[.int .i64 a0_0,.int .i64 a0_1] 29 (0,0)) (by (with_reducible repeat (first|refine bN ?_ _|refine bD ?_|refine bA ?_ _));exact BK153.out) hb);have n1_:=aM (wT (by repeat (first|(with_reducible first|exact HB.out|apply wA|apply wN_|apply wD|refine wS ?_ GE153.out)|exact HB.out)) hb);clear BK153;clear HB;have BK153:=n0_;have HB:=n1_;clear n0_ n1_;(try clear hb);(try clear hb2);(try clear hk);(try clear hi);have hcz18_0 : w17.cell? ⟨gb153,0,none⟩ = some (.int .i64 a0_0):=(bC BK153.out 0).trans rfl;have hcz18_1 : w17.cell? ⟨gb153,1,none⟩ = some (.int .i64 a0_1):=(bC BK153.out 1).trans rfl;have hfz18_0:=bF BK153.out 0;have hfz18_1:=bF BK153.out 1))
     go_ret
     exact ⟨by first | rfl | (simp [errW_none, errW_some] <;> rfl) | (simp [*, errW_none, errW_some] <;> rfl), by repeat (first | (with_reducible first | exact HB.out | apply wA | apply wN_ | apply wD | refine wS ?_ GE153.out) | exact HB.out)⟩
    ·rw [if_neg c12] at H
     have c12b0 : ((Int.tmod a0_0 64) == 0) = false := beq_eq_false_iff_ne.mpr c12
     have c12b1 : ((Int.tmod a0_0 64) != 0) = true := bne_iff_ne.mpr c12
     obtain rfl := Option.some.inj H
     go_enter Try.func39, Try.ntmps39
     go_wp2_with (first|((with_reducible refine gate_dst (N:=1) rfl ?_);refine box_event ?hg (N:=1) ?hd (cs:=#[.int .i64 a0_0,.int .i64 a0_1]) (t:=29) ?hr ?_;(case hd => rfl);(case hg => rfl);(case hr => first|(go_simp;done)|(go_simp;rfl));intro gb153 hg w19 hbox hb;have n0_:=aM (wT (by repeat (first|(with_reducible first|exact HB.out|apply wA|apply wN_|apply wD)|exact HB.out)) hb);have n1_:=aM (hbox);have n2_:=aM ((by rw [hg];exact (wZ (by repeat (first|(with_reducible first|exact HB.out|apply wA|apply wN_|apply wD)|exact HB.out))) : w.heap.size ≤ gb153));have n3_:=aM ((by rw [hg];exact (wZ (by repeat (first|(with_reducible first|exact HB.out|apply wA|apply wN_|apply wD)|exact HB.out))) : w.heap.size ≤ gb153));clear HB;have HB:=n0_;have BK153:=n1_;have GW153:=n2_;have GE153:=n3_;clear n0_ n1_ n2_ n3_;clear hb hbox hg;have hcz20_0 : w19.cell? ⟨gb153,0,none⟩ = some (.int .i64 a0_0):=(bC BK153.out 0).trans rfl;have hcz20_1 : w19.cell? ⟨gb153,1,none⟩ = some (.int .i64 a0_1):=(bC BK153.out 1).trans rfl;have hfz20_0:=bF BK153.out 0;have hfz20_1:=bF BK153.out 1)|((with_reducible refine gate_callee (f:=62) rfl ?_);refine goesL_ (some 6) rfl rfl Try.func62 (by kernel_rfl) rfl #[.int .i64 a0_1] rfl (by (try simp only [lM,lC,lN]);first|done|rfl|(simp only [lD,lT];rfl)) ?_;(with_reducible refine (size_Words.calls a0_1 t154 _ A2.out).mono ?_);rintro e w21 ⟨rfl,hb⟩;refine ⟨_,rfl,?_⟩;have n0_:=aM (bB (g:=gb153) (o:=.cells #[.int .i64 a0_0,.int .i64 a0_1] 29 (0,0)) (by (with_reducible repeat (first|refine bN ?_ _|refine bD ?_|refine bA ?_ _));exact BK153.out) hb);have n1_:=aM (wT (by repeat (first|(with_reducible first|exact HB.out|apply wA|apply wN_|apply wD|refine wS ?_ GE153.out)|exact HB.out)) hb);clear BK153;clear HB;have BK153:=n0_;have HB:=n1_;clear n0_ n1_;(try clear hb);(try clear hb2);(try clear hk);(try clear hi);have hcz22_0 : w21.cell? ⟨gb153,0,none⟩ = some (.int .i64 a0_0):=(bC BK153.out 0).trans rfl;have hcz22_1 : w21.cell? ⟨gb153,1,none⟩ = some (.int .i64 a0_1):=(bC BK153.out 1).trans rfl;have hfz22_0:=bF BK153.out 0;have hfz22_1:=bF BK153.out 1)|(go_at_call 73;(with_reducible refine (size_Small.calls a0_1 false _ A4.out).mono ?_);rintro e w23 ⟨rfl,hb⟩;have n0_:=aM (bB (g:=gb153) (o:=.cells #[.int .i64 a0_0,.int .i64 a0_1] 29 (0,0)) (by (with_reducible repeat (first|refine bN ?_ _|refine bD ?_|refine bA ?_ _));exact BK153.out) hb);have n1_:=aM (wT (by repeat (first|(with_reducible first|exact HB.out|apply wA|apply wN_|apply wD|refine wS ?_ GE153.out)|exact HB.out)) hb);clear BK153;clear HB;have BK153:=n0_;have HB:=n1_;clear n0_ n1_;(try clear hb);(try clear hb2);(try clear hk);(try clear hi);have hcz24_0 : w23.cell? ⟨gb153,0,none⟩ = some (.int .i64 a0_0):=(bC BK153.out 0).trans rfl;have hcz24_1 : w23.cell? ⟨gb153,1,none⟩ = some (.int .i64 a0_1):=(bC BK153.out 1).trans rfl;have hfz24_0:=bF BK153.out 0;have hfz24_1:=bF BK153.out 1))
     go_ret
     exact ⟨by first | rfl | (simp [errW_none, errW_some] <;> rfl) | (simp [*, errW_none, errW_some] <;> rfl), by repeat (first | (with_reducible first | exact HB.out | apply wA | apply wN_ | apply wD | refine wS ?_ GE153.out) | exact HB.out)⟩
   ·rw [if_neg c11] at H
    have c11b0 : decide (0 ≤ a0_0) = false := decide_eq_false c11
    clear c11
    obtain rfl := Option.some.inj H
    go_enter Try.func39, Try.ntmps39
    go_wp2_with (first|((with_reducible refine gate_dst (N:=1) rfl ?_);refine box_event ?hg (N:=1) ?hd (cs:=#[.int .i64 a0_0,.int .i64 a0_1]) (t:=29) ?hr ?_;(case hd => rfl);(case hg => rfl);(case hr => first|(go_simp;done)|(go_simp;rfl));intro gb153 hg w25 hbox hb;have n0_:=aM (wT (by repeat (first|(with_reducible first|exact HB.out|apply wA|apply wN_|apply wD)|exact HB.out)) hb);have n1_:=aM (hbox);have n2_:=aM ((by rw [hg];exact (wZ (by repeat (first|(with_reducible first|exact HB.out|apply wA|apply wN_|apply wD)|exact HB.out))) : w.heap.size ≤ gb153));have n3_:=aM ((by rw [hg];exact (wZ (by repeat (first|(with_reducible first|exact HB.out|apply wA|apply wN_|apply wD)|exact HB.out))) : w.heap.size ≤ gb153));clear HB;have HB:=n0_;have BK153:=n1_;have GW153:=n2_;have GE153:=n3_;clear n0_ n1_ n2_ n3_;clear hb hbox hg;have hcz26_0 : w25.cell? ⟨gb153,0,none⟩ = some (.int .i64 a0_0):=(bC BK153.out 0).trans rfl;have hcz26_1 : w25.cell? ⟨gb153,1,none⟩ = some (.int .i64 a0_1):=(bC BK153.out 1).trans rfl;have hfz26_0:=bF BK153.out 0;have hfz26_1:=bF BK153.out 1)|((with_reducible refine gate_callee (f:=62) rfl ?_);refine goesL_ (some 6) rfl rfl Try.func62 (by kernel_rfl) rfl #[.int .i64 a0_1] rfl (by (try simp only [lM,lC,lN]);first|done|rfl|(simp only [lD,lT];rfl)) ?_;(with_reducible refine (size_Words.calls a0_1 t154 _ A2.out).mono ?_);rintro e w27 ⟨rfl,hb⟩;refine ⟨_,rfl,?_⟩;have n0_:=aM (bB (g:=gb153) (o:=.cells #[.int .i64 a0_0,.int .i64 a0_1] 29 (0,0)) (by (with_reducible repeat (first|refine bN ?_ _|refine bD ?_|refine bA ?_ _));exact BK153.out) hb);have n1_:=aM (wT (by repeat (first|(with_reducible first|exact HB.out|apply wA|apply wN_|apply wD|refine wS ?_ GE153.out)|exact HB.out)) hb);clear BK153;clear HB;have BK153:=n0_;have HB:=n1_;clear n0_ n1_;(try clear hb);(try clear hb2);(try clear hk);(try clear hi);have hcz28_0 : w27.cell? ⟨gb153,0,none⟩ = some (.int .i64 a0_0):=(bC BK153.out 0).trans rfl;have hcz28_1 : w27.cell? ⟨gb153,1,none⟩ = some (.int .i64 a0_1):=(bC BK153.out 1).trans rfl;have hfz28_0:=bF BK153.out 0;have hfz28_1:=bF BK153.out 1)|(go_at_call 73;(with_reducible refine (size_Small.calls a0_1 false _ A4.out).mono ?_);rintro e w29 ⟨rfl,hb⟩;have n0_:=aM (bB (g:=gb153) (o:=.cells #[.int .i64 a0_0,.int .i64 a0_1] 29 (0,0)) (by (with_reducible repeat (first|refine bN ?_ _|refine bD ?_|refine bA ?_ _));exact BK153.out) hb);have n1_:=aM (wT (by repeat (first|(with_reducible first|exact HB.out|apply wA|apply wN_|apply wD|refine wS ?_ GE153.out)|exact HB.out)) hb);clear BK153;clear HB;have BK153:=n0_;have HB:=n1_;clear n0_ n1_;(try clear hb);(try clear hb2);(try clear hk);(try clear hi);have hcz30_0 : w29.cell? ⟨gb153,0,none⟩ = some (.int .i64 a0_0):=(bC BK153.out 0).trans rfl;have hcz30_1 : w29.cell? ⟨gb153,1,none⟩ = some (.int .i64 a0_1):=(bC BK153.out 1).trans rfl;have hfz30_0:=bF BK153.out 0;have hfz30_1:=bF BK153.out 1))
    go_ret
    exact ⟨by first | rfl | (simp [errW_none, errW_some] <;> rfl) | (simp [*, errW_none, errW_some] <;> rfl), by repeat (first | (with_reducible first | exact HB.out | apply wA | apply wN_ | apply wD | refine wS ?_ GE153.out) | exact HB.out)⟩
 ·rw [if_neg c3] at H
  have c3b0 : decide (0 < t154) = false := decide_eq_false c3
  clear c3
  obtain rfl := Option.some.inj H
  go_enter Try.func39, Try.ntmps39
  go_wp2_with (first|((with_reducible refine gate_dst (N:=1) rfl ?_);refine box_event ?hg (N:=1) ?hd (cs:=#[.int .i64 a0_0,.int .i64 a0_1]) (t:=29) ?hr ?_;(case hd => rfl);(case hg => rfl);(case hr => first|(go_simp;done)|(go_simp;rfl));intro gb153 hg w31 hbox hb;have n0_:=aM (wT (by repeat (first|(with_reducible first|exact HB.out|apply wA|apply wN_|apply wD)|exact HB.out)) hb);have n1_:=aM (hbox);have n2_:=aM ((by rw [hg];exact (wZ (by repeat (first|(with_reducible first|exact HB.out|apply wA|apply wN_|apply wD)|exact HB.out))) : w.heap.size ≤ gb153));have n3_:=aM ((by rw [hg];exact (wZ (by repeat (first|(with_reducible first|exact HB.out|apply wA|apply wN_|apply wD)|exact HB.out))) : w.heap.size ≤ gb153));clear HB;have HB:=n0_;have BK153:=n1_;have GW153:=n2_;have GE153:=n3_;clear n0_ n1_ n2_ n3_;clear hb hbox hg;have hcz32_0 : w31.cell? ⟨gb153,0,none⟩ = some (.int .i64 a0_0):=(bC BK153.out 0).trans rfl;have hcz32_1 : w31.cell? ⟨gb153,1,none⟩ = some (.int .i64 a0_1):=(bC BK153.out 1).trans rfl;have hfz32_0:=bF BK153.out 0;have hfz32_1:=bF BK153.out 1)|((with_reducible refine gate_callee (f:=62) rfl ?_);refine goesL_ (some 6) rfl rfl Try.func62 (by kernel_rfl) rfl #[.int .i64 a0_1] rfl (by (try simp only [lM,lC,lN]);first|done|rfl|(simp only [lD,lT];rfl)) ?_;(with_reducible refine (size_Words.calls a0_1 t154 _ A2.out).mono ?_);rintro e w33 ⟨rfl,hb⟩;refine ⟨_,rfl,?_⟩;have n0_:=aM (bB (g:=gb153) (o:=.cells #[.int .i64 a0_0,.int .i64 a0_1] 29 (0,0)) (by (with_reducible repeat (first|refine bN ?_ _|refine bD ?_|refine bA ?_ _));exact BK153.out) hb);have n1_:=aM (wT (by repeat (first|(with_reducible first|exact HB.out|apply wA|apply wN_|apply wD|refine wS ?_ GE153.out)|exact HB.out)) hb);clear BK153;clear HB;have BK153:=n0_;have HB:=n1_;clear n0_ n1_;(try clear hb);(try clear hb2);(try clear hk);(try clear hi)))
  go_ret
  exact ⟨by first | rfl | (simp [errW_none, errW_some] <;> rfl) | (simp [*, errW_none, errW_some] <;> rfl), by repeat (first | (with_reducible first | exact HB.out | apply wA | apply wN_ | apply wD | refine wS ?_ GE153.out) | exact HB.out)⟩

end Go.Proofs.Ytflhbakjlbmfbaa.Pr
