-- Printed by a program of this session (wip/tools/myprint.py) that runs the kit's print with contracts of this session's own.
import Derived.Test.YthbknmblehecaaaPrx0
import Derived.Test.YthbknmblehecaaaShort
import Derived.Test.YthbknmblehecaaaPrx5
import Derived.Test.YthbknmblehecaaaPrx14
import Derived.Test.YthbknmblehecaaaPrx15
import Derived.Test.YthbknmblehecaaaPrx16
namespace Go.Proofs.Ythbknmblehecaaa.Pr
open Go.RowKit Go.Proofs.YthbknmblehecaaaW.PrintWords Go.Proofs.YthbknmblehecaaaW.PrintLast Go.Proofs.YthbknmblehecaaaW.PrintMore
attribute [local go_sem] max2_int min2_int max_two min_two max_three min_three max_four min_four   -- for this text's walks alone
set_option linter.unusedVariables false
set_option linter.unusedSimpArgs false

/-! ### rickyardlaw5_RunsAll: function 8 -/
def rickyardlaw5_RunsAll.f (k : Nat) (l0 : List (S32)) (a1 : Int) (a2 : Int) (a3 : Int) (a4_0 : Int) (a4_1 : Int) : Option (Bool) := if (l0.length : Int) > 600 then ((rickyardlaw5_awake.f k).bind fun t425 => (some t425)) else ((runs_Right.f k l0 a1).bind fun t426 => ((rickyardref1_RightRuns.f k l0 a1).bind fun t427 => (if (t426 != t427) = true then (some false) else ((rickyardref1_RightRuns.f k l0 256).bind fun t428 => (if t428 = true then ((rickyardlaw5_same.f k l0 a2 a3 a4_0 a4_1).bind fun t429 => (if t429 = true then ((rickyardlaw5_awake.f k).bind fun t430 => (some t430)) else (some false))) else ((rickyardlaw5_awake.f k).bind fun t431 => (some t431)))))))
theorem rickyardlaw5_RunsAll.mono : ∀ a0 a1 a2 a3 a4 a5 k, LeO (rickyardlaw5_RunsAll.f k a0 a1 a2 a3 a4 a5) (rickyardlaw5_RunsAll.f (k + 1) a0 a1 a2 a3 a4 a5) := by
 intro a0 a1 a2 a3 a4 a5 k
 unfold rickyardlaw5_RunsAll.f
 repeat' first
   | (with_reducible exact rickyardlaw5_awake.mono _)
   | (with_reducible exact rickyardlaw5_same.mono _ _ _ _ _ _)
   | (with_reducible exact rickyardref1_RightRuns.mono _ _ _)
   | (with_reducible exact runs_Right.mono _ _ _)
   | (with_reducible exact LeO.refl _)
   | (with_reducible exact LeO.none _)
   | (with_reducible refine LeO.ite ?_ ?_)
   | (with_reducible refine LeO.bind ?_ (fun _ => ?_))
   | exact rickyardlaw5_awake.mono _
   | exact rickyardlaw5_same.mono _ _ _ _ _ _
   | exact rickyardref1_RightRuns.mono _ _ _
   | exact runs_Right.mono _ _ _
   | exact LeO.none _
   | refine LeO.ite ?_ ?_
   | refine LeO.bind ?_ (fun _ => ?_)
set_option maxHeartbeats 8000000 in
set_option maxRecDepth 100000 in
theorem rickyardlaw5_RunsAll.calls (k : Nat) (A0 : Option Addr) (c0 : Nat) (l0 : List (S32)) (a1 : Int) (a2 : Int) (a3 : Int) (a4_0 : Int) (a4_1 : Int) (r : Bool) (w : World) (hr0 : Kd.C k32 w A0 l0.length l0) (hc0 : l0.length ≤ c0) (h : rickyardlaw5_RunsAll.f k l0 a1 a2 a3 a4_0 a4_1 = some r) :
  Calls Try.prog 8 #[.slice A0 l0.length c0, .int .i64 a1, .int .i64 a2, .int .i64 a3, .agg #[.int .i64 a4_0, .int .i64 a4_1]] w fun e w' => e = .returned (.bool r) ∧ Below w.heap.size w w' := by
 have hu32 := Try.underlying32
 have HR0 := aM hr0
 have HC0 := aM hc0
 clear hr0 hc0
 have HB := aM (Below.refl w.heap.size w)
 have H : (if (l0.length : Int) > 600 then ((rickyardlaw5_awake.f k).bind fun t425 => (some t425)) else ((runs_Right.f k l0 a1).bind fun t426 => ((rickyardref1_RightRuns.f k l0 a1).bind fun t427 => (if (t426 != t427) = true then (some false) else ((rickyardref1_RightRuns.f k l0 256).bind fun t428 => (if t428 = true then ((rickyardlaw5_same.f k l0 a2 a3 a4_0 a4_1).bind fun t429 => (if t429 = true then ((rickyardlaw5_awake.f k).bind fun t430 => (some t430)) else (some false))) else ((rickyardlaw5_awake.f k).bind fun t431 => (some t431)))))))) = some r := h
 clear h
 by_cases c6 : (l0.length : Int) > 600
 ·rw [if_pos c6] at H
  have c6b0 : decide (600 < (l0.length : Int)) = true := decide_eq_true c6
  have c6b1 : decide (600 < l0.length) = true := decide_eq_true (by omega)
  clear c6
  replace H := Option.bind_eq_some_iff.mp H
  obtain ⟨t425, A70, H⟩ := H
  replace H : (some t425) = some r := H
  have A7 := aM A70
  clear A70
  obtain rfl := Option.some.inj H
  go_enter Try.func8, Try.ntmps8
  go_wp2_with (first|((with_reducible refine gate_dst (N:=9) rfl ?_);refine box_event ?hg (N:=9) ?hd (cs:=#[.int .i64 a4_0,.int .i64 a4_1]) (t:=32) ?hr ?_;(case hd => rfl);(case hg => rfl);(case hr => first|(go_simp;done)|(go_simp;rfl));intro gb424 hg w8 hbox hb;have n0_:=aM (wT (by repeat (first|(with_reducible first|exact HB.out|apply wA|apply wN_|apply wD)|exact HB.out)) hb);have n1_:=aM (hbox);have n2_:=aM ((by rw [hg];exact (wZ (by repeat (first|(with_reducible first|exact HB.out|apply wA|apply wN_|apply wD)|exact HB.out))) : w.heap.size ≤ gb424));have n3_:=aM ((by rw [hg];exact (wZ (by repeat (first|(with_reducible first|exact HB.out|apply wA|apply wN_|apply wD)|exact HB.out))) : w.heap.size ≤ gb424));clear HB;have HB:=n0_;have BK424:=n1_;have GW424:=n2_;have GE424:=n3_;clear n0_ n1_ n2_ n3_;clear hb hbox hg)|((with_reducible refine gate_callee (f:=16) rfl ?_);refine goesL_ (some 14) rfl rfl Try.func16 (by kernel_rfl) rfl #[] rfl (by (try simp only [lM,lC,lN]);first|done|rfl|(simp only [lD,lT];rfl)) ?_;(with_reducible refine (rickyardlaw5_awake.calls k  t425 _ A7.out).mono ?_);rintro e w9 ⟨rfl,hb⟩;refine ⟨_,rfl,?_⟩;have n0_:=aM (bB (g:=gb424) (o:=.cells #[.int .i64 a4_0,.int .i64 a4_1] 32 (0,0)) (by (with_reducible repeat (first|refine bN ?_ _|refine bD ?_|refine bA ?_ _));exact BK424.out) hb);have n1_:=aM (wT (by repeat (first|(with_reducible first|exact HB.out|apply wA|apply wN_|apply wD|refine wS ?_ GE424.out)|exact HB.out)) hb);clear BK424;clear HB;have BK424:=n0_;have HB:=n1_;clear n0_ n1_;(try clear hb);(try clear hb2);(try clear hk);(try clear hi)))
  go_ret
  exact ⟨by first | rfl | (simp [errW_none, errW_some] <;> rfl) | (simp [*, errW_none, errW_some] <;> rfl), by repeat (first | (with_reducible first | exact HB.out | apply wA | apply wN_ | apply wD | refine wS ?_ GE424.out) | exact HB.out)⟩
 ·rw [if_neg c6] at H
  have c6b0 : decide (600 < (l0.length : Int)) = false := decide_eq_false c6
  have c6b1 : decide (600 < l0.length) = false := decide_eq_false (by omega)
  clear c6
  replace H := Option.bind_eq_some_iff.mp H
  obtain ⟨t426, A100, H⟩ := H
  replace H : ((rickyardref1_RightRuns.f k l0 a1).bind fun t427 => (if (t426 != t427) = true then (some false) else ((rickyardref1_RightRuns.f k l0 256).bind fun t428 => (if t428 = true then ((rickyardlaw5_same.f k l0 a2 a3 a4_0 a4_1).bind fun t429 => (if t429 = true then ((rickyardlaw5_awake.f k).bind fun t430 => (some t430)) else (some false))) else ((rickyardlaw5_awake.f k).bind fun t431 => (some t431)))))) = some r := H
  have A10 := aM A100
  clear A100
  replace H := Option.bind_eq_some_iff.mp H
  obtain ⟨t427, A110, H⟩ := H
  replace H : (if (t426 != t427) = true then (some false) else ((rickyardref1_RightRuns.f k l0 256).bind fun t428 => (if t428 = true then ((rickyardlaw5_same.f k l0 a2 a3 a4_0 a4_1).bind fun t429 => (if t429 = true then ((rickyardlaw5_awake.f k).bind fun t430 => (some t430)) else (some false))) else ((rickyardlaw5_awake.f k).bind fun t431 => (some t431))))) = some r := H
  have A11 := aM A110
  clear A110
  by_cases c12 : (t426 != t427) = true
  ·rw [if_pos c12] at H
   have c12b0 : (t426 != t427) = true := c12
   (try (have c12b1 : decide (t426 = t427) = false := by simpa using c12))
   (try (have c12b2 : (t426 == t427) = false := by simpa using c12))
   (try (have c12b3 : ¬ (t426 = t427) := by simpa using c12))
   (try (have c12b4 : t426 = !t427 := (show ∀ p_ q_ : Bool, (p_ != q_) = true → p_ = !q_ from by decide) _ _ c12))
   clear c12
   obtain rfl := Option.some.inj H
   go_enter Try.func8, Try.ntmps8
   go_wp2_with (first|((with_reducible refine gate_dst (N:=9) rfl ?_);refine box_event ?hg (N:=9) ?hd (cs:=#[.int .i64 a4_0,.int .i64 a4_1]) (t:=32) ?hr ?_;(case hd => rfl);(case hg => rfl);(case hr => first|(go_simp;done)|(go_simp;rfl));intro gb424 hg w13 hbox hb;have n0_:=aM (wT (by repeat (first|(with_reducible first|exact HB.out|apply wA|apply wN_|apply wD)|exact HB.out)) hb);have n1_:=aM (hbox);have n2_:=aM ((by rw [hg];exact (wZ (by repeat (first|(with_reducible first|exact HB.out|apply wA|apply wN_|apply wD)|exact HB.out))) : w.heap.size ≤ gb424));have n3_:=aM ((by rw [hg];exact (wZ (by repeat (first|(with_reducible first|exact HB.out|apply wA|apply wN_|apply wD)|exact HB.out))) : w.heap.size ≤ gb424));clear HB;have HB:=n0_;have BK424:=n1_;have GW424:=n2_;have GE424:=n3_;clear n0_ n1_ n2_ n3_;clear hb hbox hg)|((with_reducible refine gate_callee (f:=24) rfl ?_);refine goesL_ (some 17) rfl rfl Try.func24 (by kernel_rfl) rfl #[.slice A0 l0.length c0,.int .i64 a1] rfl (by (try simp only [lM,lC,lN]);first|done|rfl|(simp only [lD,lT];rfl)) ?_;(with_reducible refine (runs_Right.calls k _ _ l0 a1 t426 _ ?side1 ?side2 A10.out).mono ?_);(case side1 => repeat (first|exact (cB HR0.out HB.out)|(with_reducible refine cA ?_ _)|(with_reducible refine cN ?_ _)|(with_reducible refine cD ?_)));(case side2 => exact HC0.out);rintro e w14 ⟨rfl,hb⟩;refine ⟨_,rfl,?_⟩;have n0_:=aM (bB (g:=gb424) (o:=.cells #[.int .i64 a4_0,.int .i64 a4_1] 32 (0,0)) (by (with_reducible repeat (first|refine bN ?_ _|refine bD ?_|refine bA ?_ _));exact BK424.out) hb);have n1_:=aM (wT (by repeat (first|(with_reducible first|exact HB.out|apply wA|apply wN_|apply wD|refine wS ?_ GE424.out)|exact HB.out)) hb);clear BK424;clear HB;have BK424:=n0_;have HB:=n1_;clear n0_ n1_;(try clear hb);(try clear hb2);(try clear hk);(try clear hi))|((with_reducible refine gate_callee (f:=25) rfl ?_);refine goesL_ (some 20) rfl rfl Try.func25 (by kernel_rfl) rfl #[.slice A0 l0.length c0,.int .i64 a1] rfl (by (try simp only [lM,lC,lN]);first|done|rfl|(simp only [lD,lT];rfl)) ?_;(with_reducible refine (rickyardref1_RightRuns.calls k _ _ l0 a1 t427 _ ?side1 ?side2 A11.out).mono ?_);(case side1 => repeat (first|exact (cB HR0.out HB.out)|(with_reducible refine cA ?_ _)|(with_reducible refine cN ?_ _)|(with_reducible refine cD ?_)));(case side2 => exact HC0.out);rintro e w' ⟨rfl,⟨nd,rfl⟩⟩;refine ⟨_,rfl,?_⟩))
   go_ret
   exact ⟨by first | rfl | (simp [errW_none, errW_some] <;> rfl) | (simp [*, errW_none, errW_some] <;> rfl), by repeat (first | (with_reducible first | exact HB.out | apply wA | apply wN_ | apply wD | refine wS ?_ GE424.out) | exact HB.out)⟩
  ·rw [if_neg c12] at H
   have c12b0 : (t426 != t427) = false := by simpa using c12
   (try (have c12b1 : decide (t426 = t427) = true := by simpa using c12))
   (try (have c12b2 : (t426 == t427) = true := by simpa using c12))
   (try (have c12b3 : t426 = t427 := (show ∀ p_ q_ : Bool, ¬ ((p_ != q_) = true) → p_ = q_ from by decide) _ _ c12))
   clear c12
   replace H := Option.bind_eq_some_iff.mp H
   obtain ⟨t428, A150, H⟩ := H
   replace H : (if t428 = true then ((rickyardlaw5_same.f k l0 a2 a3 a4_0 a4_1).bind fun t429 => (if t429 = true then ((rickyardlaw5_awake.f k).bind fun t430 => (some t430)) else (some false))) else ((rickyardlaw5_awake.f k).bind fun t431 => (some t431))) = some r := H
   have A15 := aM A150
   clear A150
   by_cases c16 : t428 = true
   ·subst c16
    have H1 : ((rickyardlaw5_same.f k l0 a2 a3 a4_0 a4_1).bind fun t429 => (if t429 = true then ((rickyardlaw5_awake.f k).bind fun t430 => (some t430)) else (some false))) = some r := by rw [if_pos rfl] at H; exact H
    clear H
    have H := H1
    clear H1
    replace H := Option.bind_eq_some_iff.mp H
    obtain ⟨t429, A170, H⟩ := H
    replace H : (if t429 = true then ((rickyardlaw5_awake.f k).bind fun t430 => (some t430)) else (some false)) = some r := H
    have A17 := aM A170
    clear A170
    by_cases c18 : t429 = true
    ·subst c18
     have H1 : ((rickyardlaw5_awake.f k).bind fun t430 => (some t430)) = some r := by rw [if_pos rfl] at H; exact H
     clear H
     have H := H1
     clear H1
     replace H := Option.bind_eq_some_iff.mp H
     obtain ⟨t430, A190, H⟩ := H
     replace H : (some t430) = some r := H
     have A19 := aM A190
     clear A190
     obtain rfl := Option.some.inj H
     go_enter Try.func8, Try.ntmps8
     go_wp2_with (first|((with_reducible refine gate_dst (N:=9) rfl ?_);refine box_event ?hg (N:=9) ?hd (cs:=#[.int .i64 a4_0,.int .i64 a4_1]) (t:=32) ?hr ?_;(case hd => rfl);(case hg => rfl);(case hr => first|(go_simp;done)|(go_simp;rfl));intro gb424 hg w20 hbox hb;have n0_:=aM (wT (by repeat (first|(with_reducible first|exact HB.out|apply wA|apply wN_|apply wD)|exact HB.out)) hb);have n1_:=aM (hbox);have n2_:=aM ((by rw [hg];exact (wZ (by repeat (first|(with_reducible first|exact HB.out|apply wA|apply wN_|apply wD)|exact HB.out))) : w.heap.size ≤ gb424));have n3_:=aM ((by rw [hg];exact (wZ (by repeat (first|(with_reducible first|exact HB.out|apply wA|apply wN_|apply wD)|exact HB.out))) : w.heap.size ≤ gb424));clear HB;have HB:=n0_;have BK424:=n1_;have GW424:=n2_;have GE424:=n3_;clear n0_ n1_ n2_ n3_;clear hb hbox hg)|((with_reducible refine gate_callee (f:=24) rfl ?_);refine goesL_ (some 17) rfl rfl Try.func24 (by kernel_rfl) rfl #[.slice A0 l0.length c0,.int .i64 a1] rfl (by (try simp only [lM,lC,lN]);first|done|rfl|(simp only [lD,lT];rfl)) ?_;(with_reducible refine (runs_Right.calls k _ _ l0 a1 t426 _ ?side1 ?side2 A10.out).mono ?_);(case side1 => repeat (first|exact (cB HR0.out HB.out)|(with_reducible refine cA ?_ _)|(with_reducible refine cN ?_ _)|(with_reducible refine cD ?_)));(case side2 => exact HC0.out);rintro e w21 ⟨rfl,hb⟩;refine ⟨_,rfl,?_⟩;have n0_:=aM (bB (g:=gb424) (o:=.cells #[.int .i64 a4_0,.int .i64 a4_1] 32 (0,0)) (by (with_reducible repeat (first|refine bN ?_ _|refine bD ?_|refine bA ?_ _));exact BK424.out) hb);have n1_:=aM (wT (by repeat (first|(with_reducible first|exact HB.out|apply wA|apply wN_|apply wD|refine wS ?_ GE424.out)|exact HB.out)) hb);clear BK424;clear HB;have BK424:=n0_;have HB:=n1_;clear n0_ n1_;(try clear hb);(try clear hb2);(try clear hk);(try clear hi))|((with_reducible refine gate_callee (f:=25) rfl ?_);refine goesL_ (some 20) rfl rfl Try.func25 (by kernel_rfl) rfl #[.slice A0 l0.length c0,.int .i64 a1] rfl (by (try simp only [lM,lC,lN]);first|done|rfl|(simp only [lD,lT];rfl)) ?_;(with_reducible refine (rickyardref1_RightRuns.calls k _ _ l0 a1 t427 _ ?side1 ?side2 A11.out).mono ?_);(case side1 => repeat (first|exact (cB HR0.out HB.out)|(with_reducible refine cA ?_ _)|(with_reducible refine cN ?_ _)|(with_reducible refine cD ?_)));(case side2 => exact HC0.out);rintro e w' ⟨rfl,⟨nd,rfl⟩⟩;refine ⟨_,rfl,?_⟩)|((with_reducible refine gate_callee (f:=25) rfl ?_);refine goesL_ (some 23) rfl rfl Try.func25 (by kernel_rfl) rfl #[.slice A0 l0.length c0,.int .i64 256] rfl (by (try simp only [lM,lC,lN]);first|done|rfl|(simp only [lD,lT];rfl)) ?_;(with_reducible refine (rickyardref1_RightRuns.calls k _ _ l0 256 true _ ?side1 ?side2 A15.out).mono ?_);(case side1 => repeat (first|exact (cB HR0.out (by repeat (first|(with_reducible first|exact HB.out|apply wA|apply wN_|apply wD|refine wS ?_ GE424.out)|exact HB.out)))|(with_reducible refine cA ?_ _)|(with_reducible refine cN ?_ _)|(with_reducible refine cD ?_)));(case side2 => exact HC0.out);rintro e w' ⟨rfl,⟨nd,rfl⟩⟩;refine ⟨_,rfl,?_⟩;have hcz22_0 : w21.cell? ⟨gb424,0,none⟩ = some (.int .i64 a4_0):=(bC BK424.out 0).trans rfl;have hcz22_1 : w21.cell? ⟨gb424,1,none⟩ = some (.int .i64 a4_1):=(bC BK424.out 1).trans rfl;have hfz22_0:=bF BK424.out 0;have hfz22_1:=bF BK424.out 1)|((with_reducible refine gate_callee (f:=26) rfl ?_);refine goesL_ (some 30) rfl rfl Try.func26 (by kernel_rfl) rfl #[.slice A0 l0.length c0,.int .i64 a2,.int .i64 a3,.agg #[.int .i64 a4_0,.int .i64 a4_1]] rfl (by (try simp only [lM,lC,lN]);first|done|rfl|(simp only [lD,lT];rfl)) ?_;(with_reducible refine (rickyardlaw5_same.calls k _ _ l0 a2 a3 a4_0 a4_1 true _ ?side1 ?side2 A17.out).mono ?_);(case side1 => repeat (first|exact (cB HR0.out (by repeat (first|(with_reducible first|exact HB.out|apply wA|apply wN_|apply wD|refine wS ?_ GE424.out)|exact HB.out)))|(with_reducible refine cA ?_ _)|(with_reducible refine cN ?_ _)|(with_reducible refine cD ?_)));(case side2 => exact HC0.out);rintro e w23 ⟨rfl,hb⟩;refine ⟨_,rfl,?_⟩;have n0_:=aM (bB (g:=gb424) (o:=.cells #[.int .i64 a4_0,.int .i64 a4_1] 32 (0,0)) (by (with_reducible repeat (first|refine bN ?_ _|refine bD ?_|refine bA ?_ _));exact BK424.out) hb);have n1_:=aM (wT (by repeat (first|(with_reducible first|exact HB.out|apply wA|apply wN_|apply wD|refine wS ?_ GE424.out)|exact HB.out)) hb);clear BK424;clear HB;have BK424:=n0_;have HB:=n1_;clear n0_ n1_;(try clear hb);(try clear hb2);(try clear hk);(try clear hi))|(go_at_call 16;(with_reducible refine (rickyardlaw5_awake.calls k  t430 _ A19.out).mono ?_);rintro e w24 ⟨rfl,hb⟩;have n0_:=aM (bB (g:=gb424) (o:=.cells #[.int .i64 a4_0,.int .i64 a4_1] 32 (0,0)) (by (with_reducible repeat (first|refine bN ?_ _|refine bD ?_|refine bA ?_ _));exact BK424.out) hb);have n1_:=aM (wT (by repeat (first|(with_reducible first|exact HB.out|apply wA|apply wN_|apply wD|refine wS ?_ GE424.out)|exact HB.out)) hb);clear BK424;clear HB;have BK424:=n0_;have HB:=n1_;clear n0_ n1_;(try clear hb);(try clear hb2);(try clear hk);(try clear hi)))
     go_ret
     exact ⟨by first | rfl | (simp [errW_none, errW_some] <;> rfl) | (simp [*, errW_none, errW_some] <;> rfl), by repeat (first | (with_reducible first | exact HB.out | apply wA | apply wN_ | apply wD | refine wS ?_ GE424.out) | exact HB.out)⟩
    ·replace c18 := Bool.eq_false_iff.mpr c18
     subst c18
     have H1 : (some false) = some r := by rw [if_neg (show ¬ (false = true) by decide)] at H; exact H
     clear H
     have H := H1
     clear H1
     obtain rfl := Option.some.inj H
     go_enter Try.func8, Try.ntmps8
     go_wp2_with (first|((with_reducible refine gate_dst (N:=9) rfl ?_);refine box_event ?hg (N:=9) ?hd (cs:=#[.int .i64 a4_0,.int .i64 a4_1]) (t:=32) ?hr ?_;(case hd => rfl);(case hg => rfl);(case hr => first|(go_simp;done)|(go_simp;rfl));intro gb424 hg w25 hbox hb;have n0_:=aM (wT (by repeat (first|(with_reducible first|exact HB.out|apply wA|apply wN_|apply wD)|exact HB.out)) hb);have n1_:=aM (hbox);have n2_:=aM ((by rw [hg];exact (wZ (by repeat (first|(with_reducible first|exact HB.out|apply wA|apply wN_|apply wD)|exact HB.out))) : w.heap.size ≤ gb424));have n3_:=aM ((by rw [hg];exact (wZ (by repeat (first|(with_reducible first|exact HB.out|apply wA|apply wN_|apply wD)|exact HB.out))) : w.heap.size ≤ gb424));clear HB;have HB:=n0_;have BK424:=n1_;have GW424:=n2_;have GE424:=n3_;clear n0_ n1_ n2_ n3_;clear hb hbox hg)|((with_reducible refine gate_callee (f:=24) rfl ?_);refine goesL_ (some 17) rfl rfl Try.func24 (by kernel_rfl) rfl #[.slice A0 l0.length c0,.int .i64 a1] rfl (by (try simp only [lM,lC,lN]);first|done|rfl|(simp only [lD,lT];rfl)) ?_;(with_reducible refine (runs_Right.calls k _ _ l0 a1 t426 _ ?side1 ?side2 A10.out).mono ?_);(case side1 => repeat (first|exact (cB HR0.out HB.out)|(with_reducible refine cA ?_ _)|(with_reducible refine cN ?_ _)|(with_reducible refine cD ?_)));(case side2 => exact HC0.out);rintro e w26 ⟨rfl,hb⟩;refine ⟨_,rfl,?_⟩;have n0_:=aM (bB (g:=gb424) (o:=.cells #[.int .i64 a4_0,.int .i64 a4_1] 32 (0,0)) (by (with_reducible repeat (first|refine bN ?_ _|refine bD ?_|refine bA ?_ _));exact BK424.out) hb);have n1_:=aM (wT (by repeat (first|(with_reducible first|exact HB.out|apply wA|apply wN_|apply wD|refine wS ?_ GE424.out)|exact HB.out)) hb);clear BK424;clear HB;have BK424:=n0_;have HB:=n1_;clear n0_ n1_;(try clear hb);(try clear hb2);(try clear hk);(try clear hi))|((with_reducible refine gate_callee (f:=25) rfl ?_);refine goesL_ (some 20) rfl rfl Try.func25 (by kernel_rfl) rfl #[.slice A0 l0.length c0,.int .i64 a1] rfl (by (try simp only [lM,lC,lN]);first|done|rfl|(simp only [lD,lT];rfl)) ?_;(with_reducible refine (rickyardref1_RightRuns.calls k _ _ l0 a1 t427 _ ?side1 ?side2 A11.out).mono ?_);(case side1 => repeat (first|exact (cB HR0.out HB.out)|(with_reducible refine cA ?_ _)|(with_reducible refine cN ?_ _)|(with_reducible refine cD ?_)));(case side2 => exact HC0.out);rintro e w' ⟨rfl,⟨nd,rfl⟩⟩;refine ⟨_,rfl,?_⟩)|((with_reducible refine gate_callee (f:=25) rfl ?_);refine goesL_ (some 23) rfl rfl Try.func25 (by kernel_rfl) rfl #[.slice A0 l0.length c0,.int .i64 256] rfl (by (try simp only [lM,lC,lN]);first|done|rfl|(simp only [lD,lT];rfl)) ?_;(with_reducible refine (rickyardref1_RightRuns.calls k _ _ l0 256 true _ ?side1 ?side2 A15.out).mono ?_);(case side1 => repeat (first|exact (cB HR0.out (by repeat (first|(with_reducible first|exact HB.out|apply wA|apply wN_|apply wD|refine wS ?_ GE424.out)|exact HB.out)))|(with_reducible refine cA ?_ _)|(with_reducible refine cN ?_ _)|(with_reducible refine cD ?_)));(case side2 => exact HC0.out);rintro e w' ⟨rfl,⟨nd,rfl⟩⟩;refine ⟨_,rfl,?_⟩;have hcz27_0 : w26.cell? ⟨gb424,0,none⟩ = some (.int .i64 a4_0):=(bC BK424.out 0).trans rfl;have hcz27_1 : w26.cell? ⟨gb424,1,none⟩ = some (.int .i64 a4_1):=(bC BK424.out 1).trans rfl;have hfz27_0:=bF BK424.out 0;have hfz27_1:=bF BK424.out 1)|((with_reducible refine gate_callee (f:=26) rfl ?_);refine goesL_ (some 30) rfl rfl Try.func26 (by kernel_rfl) rfl #[.slice A0 l0.length c0,.int .i64 a2,.int .i64 a3,.agg #[.int .i64 a4_0,.int .i64 a4_1]] rfl (by (try simp only [lM,lC,lN]);first|done|rfl|(simp only [lD,lT];rfl)) ?_;(with_reducible refine (rickyardlaw5_same.calls k _ _ l0 a2 a3 a4_0 a4_1 false _ ?side1 ?side2 A17.out).mono ?_);(case side1 => repeat (first|exact (cB HR0.out (by repeat (first|(with_reducible first|exact HB.out|apply wA|apply wN_|apply wD|refine wS ?_ GE424.out)|exact HB.out)))|(with_reducible refine cA ?_ _)|(with_reducible refine cN ?_ _)|(with_reducible refine cD ?_)));(case side2 => exact HC0.out);rintro e w28 ⟨rfl,hb⟩;refine ⟨_,rfl,?_⟩;have n0_:=aM (bB (g:=gb424) (o:=.cells #[.int .i64 a4_0,.int .i64 a4_1] 32 (0,0)) (by (with_reducible repeat (first|refine bN ?_ _|refine bD ?_|refine bA ?_ _));exact BK424.out) hb);have n1_:=aM (wT (by repeat (first|(with_reducible first|exact HB.out|apply wA|apply wN_|apply wD|refine wS ?_ GE424.out)|exact HB.out)) hb);clear BK424;clear HB;have BK424:=n0_;have HB:=n1_;clear n0_ n1_;(try clear hb);(try clear hb2);(try clear hk);(try clear hi)))
     go_ret
     exact ⟨by first | rfl | (simp [errW_none, errW_some] <;> rfl) | (simp [*, errW_none, errW_some] <;> rfl), by repeat (first | (with_reducible first | exact HB.out | apply wA | apply wN_ | apply wD | refine wS ?_ GE424.out) | exact HB.out)⟩
   ·replace c16 := Bool.eq_false_iff.mpr c16
    subst c16
    have H1 : ((rickyardlaw5_awake.f k).bind fun t431 => (some t431)) = some r := by rw [if_neg (show ¬ (false = true) by decide)] at H; exact H
    clear H
    have H := H1
    clear H1
    replace H := Option.bind_eq_some_iff.mp H
    obtain ⟨t431, A290, H⟩ := H
    replace H : (some t431) = some r := H
    have A29 := aM A290
    clear A290
    obtain rfl := Option.some.inj H
    go_enter Try.func8, Try.ntmps8
    go_wp2_with (first|((with_reducible refine gate_dst (N:=9) rfl ?_);refine box_event ?hg (N:=9) ?hd (cs:=#[.int .i64 a4_0,.int .i64 a4_1]) (t:=32) ?hr ?_;(case hd => rfl);(case hg => rfl);(case hr => first|(go_simp;done)|(go_simp;rfl));intro gb424 hg w30 hbox hb;have n0_:=aM (wT (by repeat (first|(with_reducible first|exact HB.out|apply wA|apply wN_|apply wD)|exact HB.out)) hb);have n1_:=aM (hbox);have n2_:=aM ((by rw [hg];exact (wZ (by repeat (first|(with_reducible first|exact HB.out|apply wA|apply wN_|apply wD)|exact HB.out))) : w.heap.size ≤ gb424));have n3_:=aM ((by rw [hg];exact (wZ (by repeat (first|(with_reducible first|exact HB.out|apply wA|apply wN_|apply wD)|exact HB.out))) : w.heap.size ≤ gb424));clear HB;have HB:=n0_;have BK424:=n1_;have GW424:=n2_;have GE424:=n3_;clear n0_ n1_ n2_ n3_;clear hb hbox hg)|((with_reducible refine gate_callee (f:=24) rfl ?_);refine goesL_ (some 17) rfl rfl Try.func24 (by kernel_rfl) rfl #[.slice A0 l0.length c0,.int .i64 a1] rfl (by (try simp only [lM,lC,lN]);first|done|rfl|(simp only [lD,lT];rfl)) ?_;(with_reducible refine (runs_Right.calls k _ _ l0 a1 t426 _ ?side1 ?side2 A10.out).mono ?_);(case side1 => repeat (first|exact (cB HR0.out HB.out)|(with_reducible refine cA ?_ _)|(with_reducible refine cN ?_ _)|(with_reducible refine cD ?_)));(case side2 => exact HC0.out);rintro e w31 ⟨rfl,hb⟩;refine ⟨_,rfl,?_⟩;have n0_:=aM (bB (g:=gb424) (o:=.cells #[.int .i64 a4_0,.int .i64 a4_1] 32 (0,0)) (by (with_reducible repeat (first|refine bN ?_ _|refine bD ?_|refine bA ?_ _));exact BK424.out) hb);have n1_:=aM (wT (by repeat (first|(with_reducible first|exact HB.out|apply wA|apply wN_|apply wD|refine wS ?_ GE424.out)|exact HB.out)) hb);clear BK424;clear HB;have BK424:=n0_;have HB:=n1_;clear n0_ n1_;(try clear hb);(try clear hb2);(try clear hk);(try clear hi))|((with_reducible refine gate_callee (f:=25) rfl ?_);refine goesL_ (some 20) rfl rfl Try.func25 (by kernel_rfl) rfl #[.slice A0 l0.length c0,.int .i64 a1] rfl (by (try simp only [lM,lC,lN]);first|done|rfl|(simp only [lD,lT];rfl)) ?_;(with_reducible refine (rickyardref1_RightRuns.calls k _ _ l0 a1 t427 _ ?side1 ?side2 A11.out).mono ?_);(case side1 => repeat (first|exact (cB HR0.out HB.out)|(with_reducible refine cA ?_ _)|(with_reducible refine cN ?_ _)|(with_reducible refine cD ?_)));(case side2 => exact HC0.out);rintro e w' ⟨rfl,⟨nd,rfl⟩⟩;refine ⟨_,rfl,?_⟩)|((with_reducible refine gate_callee (f:=25) rfl ?_);refine goesL_ (some 23) rfl rfl Try.func25 (by kernel_rfl) rfl #[.slice A0 l0.length c0,.int .i64 256] rfl (by (try simp only [lM,lC,lN]);first|done|rfl|(simp only [lD,lT];rfl)) ?_;(with_reducible refine (rickyardref1_RightRuns.calls k _ _ l0 256 false _ ?side1 ?side2 A15.out).mono ?_);(case side1 => repeat (first|exact (cB HR0.out (by repeat (first|(with_reducible first|exact HB.out|apply wA|apply wN_|apply wD|refine wS ?_ GE424.out)|exact HB.out)))|(with_reducible refine cA ?_ _)|(with_reducible refine cN ?_ _)|(with_reducible refine cD ?_)));(case side2 => exact HC0.out);rintro e w' ⟨rfl,⟨nd,rfl⟩⟩;refine ⟨_,rfl,?_⟩)|((with_reducible refine gate_callee (f:=16) rfl ?_);refine goesL_ (some 25) rfl rfl Try.func16 (by kernel_rfl) rfl #[] rfl (by (try simp only [lM,lC,lN]);first|done|rfl|(simp only [lD,lT];rfl)) ?_;(with_reducible refine (rickyardlaw5_awake.calls k  t431 _ A29.out).mono ?_);rintro e w32 ⟨rfl,hb⟩;refine ⟨_,rfl,?_⟩;have n0_:=aM (bB (g:=gb424) (o:=.cells #[.int .i64 a4_0,.int .i64 a4_1] 32 (0,0)) (by (with_reducible repeat (first|refine bN ?_ _|refine bD ?_|refine bA ?_ _));exact BK424.out) hb);have n1_:=aM (wT (by repeat (first|(with_reducible first|exact HB.out|apply wA|apply wN_|apply wD|refine wS ?_ GE424.out)|exact HB.out)) hb);clear BK424;clear HB;have BK424:=n0_;have HB:=n1_;clear n0_ n1_;(try clear hb);(try clear hb2);(try clear hk);(try clear hi)))
    go_ret
    exact ⟨by first | rfl | (simp [errW_none, errW_some] <;> rfl) | (simp [*, errW_none, errW_some] <;> rfl), by repeat (first | (with_reducible first | exact HB.out | apply wA | apply wN_ | apply wD | refine wS ?_ GE424.out) | exact HB.out)⟩

end Go.Proofs.Ythbknmblehecaaa.Pr
