-- Printed by a program of this session (wip/tools/myprint.py) that runs the kit's print with contracts of this session's own.
import Derived.Test.YtflhbakjlbmfbaaPrx0
import Derived.Test.YtflhbakjlbmfbaaShort
import Derived.Test.YtflhbakjlbmfbaaPrx17
import Derived.Test.YtflhbakjlbmfbaaPrx33
import Derived.Test.YtflhbakjlbmfbaaPrx42
import Derived.Test.YtflhbakjlbmfbaaPrx44
namespace Go.Proofs.Ytflhbakjlbmfbaa.Pr
open Go.RowKit Go.Proofs.YtflhbakjlbmfbaaW.PrintWords Go.Proofs.YtflhbakjlbmfbaaW.PrintLast Go.Proofs.YtflhbakjlbmfbaaW.PrintMore
attribute [local go_sem] max2_int min2_int max_two min_two max_three min_three max_four min_four   -- for this text's walks alone
set_option linter.unusedVariables false
set_option linter.unusedSimpArgs false

/-! ### rickyardlaw11_LargeAll: function 8 -/
def rickyardlaw11_LargeAll.f (k : Nat) (l0 : List (S29)) (a1_0 : Int) (a1_1 : Int) (a2 : Int) : Option (Bool) := if (l0.length : Int) > 300 then ((rickyardlaw11_awake.f).bind fun t659 => (some t659)) else ((large_Right.f k l0).bind fun t660 => ((rickyardref9_RightBig.f k l0).bind fun t661 => (if (t660 != t661) = true then (some false) else ((rickyardref9_RightBig.f k l0).bind fun t662 => (if t662 = true then ((rickyardlaw11_same.f k l0 a1_0 a1_1 a2).bind fun t663 => (if t663 = true then ((rickyardlaw11_awake.f).bind fun t664 => (some t664)) else (some false))) else ((rickyardlaw11_awake.f).bind fun t665 => (some t665)))))))
theorem rickyardlaw11_LargeAll.mono : ∀ a0 a1 a2 a3 k, LeO (rickyardlaw11_LargeAll.f k a0 a1 a2 a3) (rickyardlaw11_LargeAll.f (k + 1) a0 a1 a2 a3) := by
 intro a0 a1 a2 a3 k
 unfold rickyardlaw11_LargeAll.f
 repeat' first
   | (with_reducible exact large_Right.mono _ _)
   | (with_reducible exact rickyardlaw11_same.mono _ _ _ _ _)
   | (with_reducible exact rickyardref9_RightBig.mono _ _)
   | (with_reducible exact LeO.refl _)
   | (with_reducible exact LeO.none _)
   | (with_reducible refine LeO.ite ?_ ?_)
   | (with_reducible refine LeO.bind ?_ (fun _ => ?_))
   | exact large_Right.mono _ _
   | exact rickyardlaw11_same.mono _ _ _ _ _
   | exact rickyardref9_RightBig.mono _ _
   | exact LeO.none _
   | refine LeO.ite ?_ ?_
   | refine LeO.bind ?_ (fun _ => ?_)
set_option maxHeartbeats 8000000 in
set_option maxRecDepth 100000 in
theorem rickyardlaw11_LargeAll.calls (k : Nat) (A0 : Option Addr) (c0 : Nat) (l0 : List (S29)) (a1_0 : Int) (a1_1 : Int) (a2 : Int) (r : Bool) (w : World) (hr0 : Kd.C k29 w A0 l0.length l0) (hc0 : l0.length ≤ c0) (h : rickyardlaw11_LargeAll.f k l0 a1_0 a1_1 a2 = some r) :
  Calls Try.prog 8 #[.slice A0 l0.length c0, .agg #[.int .i64 a1_0, .int .i64 a1_1], .int .i64 a2] w fun e w' => e = .returned (.bool r) ∧ Below w.heap.size w w' := by
 have hu29 := Try.underlying29
 have HR0 := aM hr0
 have HC0 := aM hc0
 clear hr0 hc0
 have HB := aM (Below.refl w.heap.size w)
 have H : (if (l0.length : Int) > 300 then ((rickyardlaw11_awake.f).bind fun t659 => (some t659)) else ((large_Right.f k l0).bind fun t660 => ((rickyardref9_RightBig.f k l0).bind fun t661 => (if (t660 != t661) = true then (some false) else ((rickyardref9_RightBig.f k l0).bind fun t662 => (if t662 = true then ((rickyardlaw11_same.f k l0 a1_0 a1_1 a2).bind fun t663 => (if t663 = true then ((rickyardlaw11_awake.f).bind fun t664 => (some t664)) else (some false))) else ((rickyardlaw11_awake.f).bind fun t665 => (some t665)))))))) = some r := h
 clear h
 by_cases c4 : (l0.length : Int) > 300
 ·rw [if_pos c4] at H
  have c4b0 : decide (300 < (l0.length : Int)) = true := decide_eq_true c4
  have c4b1 : decide (300 < l0.length) = true := decide_eq_true (by omega)
  clear c4
  replace H := Option.bind_eq_some_iff.mp H
  obtain ⟨t659, A50, H⟩ := H
  replace H : (some t659) = some r := H
  have A5 := aM A50
  clear A50
  obtain rfl := Option.some.inj H
  go_enter Try.func8, Try.ntmps8
  go_wp2_with (first|((with_reducible refine gate_dst (N:=4) rfl ?_);refine box_event ?hg (N:=4) ?hd (cs:=#[.int .i64 a1_0,.int .i64 a1_1]) (t:=29) ?hr ?_;(case hd => rfl);(case hg => rfl);(case hr => first|(go_simp;done)|(go_simp;rfl));intro gb658 hg w6 hbox hb;have n0_:=aM (wT (by repeat (first|(with_reducible first|exact HB.out|apply wA|apply wN_|apply wD)|exact HB.out)) hb);have n1_:=aM (hbox);have n2_:=aM ((by rw [hg];exact (wZ (by repeat (first|(with_reducible first|exact HB.out|apply wA|apply wN_|apply wD)|exact HB.out))) : w.heap.size ≤ gb658));have n3_:=aM ((by rw [hg];exact (wZ (by repeat (first|(with_reducible first|exact HB.out|apply wA|apply wN_|apply wD)|exact HB.out))) : w.heap.size ≤ gb658));clear HB;have HB:=n0_;have BK658:=n1_;have GW658:=n2_;have GE658:=n3_;clear n0_ n1_ n2_ n3_;clear hb hbox hg)|((with_reducible refine gate_callee (f:=19) rfl ?_);refine goesL_ (some 10) rfl rfl Try.func19 (by kernel_rfl) rfl #[] rfl (by (try simp only [lM,lC,lN]);first|done|rfl|(simp only [lD,lT];rfl)) ?_;(with_reducible refine (rickyardlaw11_awake.calls  t659 _ A5.out).mono ?_);rintro e w7 ⟨rfl,hb⟩;refine ⟨_,rfl,?_⟩;have n0_:=aM (bB (g:=gb658) (o:=.cells #[.int .i64 a1_0,.int .i64 a1_1] 29 (0,0)) (by (with_reducible repeat (first|refine bN ?_ _|refine bD ?_|refine bA ?_ _));exact BK658.out) hb);have n1_:=aM (wT (by repeat (first|(with_reducible first|exact HB.out|apply wA|apply wN_|apply wD|refine wS ?_ GE658.out)|exact HB.out)) hb);clear BK658;clear HB;have BK658:=n0_;have HB:=n1_;clear n0_ n1_;(try clear hb);(try clear hb2);(try clear hk);(try clear hi)))
  go_ret
  exact ⟨by first | rfl | (simp [errW_none, errW_some] <;> rfl) | (simp [*, errW_none, errW_some] <;> rfl), by repeat (first | (with_reducible first | exact HB.out | apply wA | apply wN_ | apply wD | refine wS ?_ GE658.out) | exact HB.out)⟩
 ·rw [if_neg c4] at H
  have c4b0 : decide (300 < (l0.length : Int)) = false := decide_eq_false c4
  have c4b1 : decide (300 < l0.length) = false := decide_eq_false (by omega)
  clear c4
  replace H := Option.bind_eq_some_iff.mp H
  obtain ⟨t660, A80, H⟩ := H
  replace H : ((rickyardref9_RightBig.f k l0).bind fun t661 => (if (t660 != t661) = true then (some false) else ((rickyardref9_RightBig.f k l0).bind fun t662 => (if t662 = true then ((rickyardlaw11_same.f k l0 a1_0 a1_1 a2).bind fun t663 => (if t663 = true then ((rickyardlaw11_awake.f).bind fun t664 => (some t664)) else (some false))) else ((rickyardlaw11_awake.f).bind fun t665 => (some t665)))))) = some r := H
  have A8 := aM A80
  clear A80
  replace H := Option.bind_eq_some_iff.mp H
  obtain ⟨t661, A90, H⟩ := H
  replace H : (if (t660 != t661) = true then (some false) else ((rickyardref9_RightBig.f k l0).bind fun t662 => (if t662 = true then ((rickyardlaw11_same.f k l0 a1_0 a1_1 a2).bind fun t663 => (if t663 = true then ((rickyardlaw11_awake.f).bind fun t664 => (some t664)) else (some false))) else ((rickyardlaw11_awake.f).bind fun t665 => (some t665))))) = some r := H
  have A9 := aM A90
  clear A90
  by_cases c10 : (t660 != t661) = true
  ·rw [if_pos c10] at H
   have c10b0 : (t660 != t661) = true := c10
   (try (have c10b1 : decide (t660 = t661) = false := by simpa using c10))
   (try (have c10b2 : (t660 == t661) = false := by simpa using c10))
   (try (have c10b3 : ¬ (t660 = t661) := by simpa using c10))
   (try (have c10b4 : t660 = !t661 := (show ∀ p_ q_ : Bool, (p_ != q_) = true → p_ = !q_ from by decide) _ _ c10))
   clear c10
   obtain rfl := Option.some.inj H
   go_enter Try.func8, Try.ntmps8
   go_wp2_with (first|((with_reducible refine gate_dst (N:=4) rfl ?_);refine box_event ?hg (N:=4) ?hd (cs:=#[.int .i64 a1_0,.int .i64 a1_1]) (t:=29) ?hr ?_;(case hd => rfl);(case hg => rfl);(case hr => first|(go_simp;done)|(go_simp;rfl));intro gb658 hg w11 hbox hb;have n0_:=aM (wT (by repeat (first|(with_reducible first|exact HB.out|apply wA|apply wN_|apply wD)|exact HB.out)) hb);have n1_:=aM (hbox);have n2_:=aM ((by rw [hg];exact (wZ (by repeat (first|(with_reducible first|exact HB.out|apply wA|apply wN_|apply wD)|exact HB.out))) : w.heap.size ≤ gb658));have n3_:=aM ((by rw [hg];exact (wZ (by repeat (first|(with_reducible first|exact HB.out|apply wA|apply wN_|apply wD)|exact HB.out))) : w.heap.size ≤ gb658));clear HB;have HB:=n0_;have BK658:=n1_;have GW658:=n2_;have GE658:=n3_;clear n0_ n1_ n2_ n3_;clear hb hbox hg)|((with_reducible refine gate_callee (f:=27) rfl ?_);refine goesL_ (some 12) rfl rfl Try.func27 (by kernel_rfl) rfl #[.slice A0 l0.length c0] rfl (by (try simp only [lM,lC,lN]);first|done|rfl|(simp only [lD,lT];rfl)) ?_;(with_reducible refine (large_Right.calls k _ _ l0 t660 _ ?side1 ?side2 A8.out).mono ?_);(case side1 => repeat (first|exact (cB HR0.out HB.out)|(with_reducible refine cA ?_ _)|(with_reducible refine cN ?_ _)|(with_reducible refine cD ?_)));(case side2 => exact HC0.out);rintro e w12 ⟨rfl,hb⟩;refine ⟨_,rfl,?_⟩;have n0_:=aM (bB (g:=gb658) (o:=.cells #[.int .i64 a1_0,.int .i64 a1_1] 29 (0,0)) (by (with_reducible repeat (first|refine bN ?_ _|refine bD ?_|refine bA ?_ _));exact BK658.out) hb);have n1_:=aM (wT (by repeat (first|(with_reducible first|exact HB.out|apply wA|apply wN_|apply wD|refine wS ?_ GE658.out)|exact HB.out)) hb);clear BK658;clear HB;have BK658:=n0_;have HB:=n1_;clear n0_ n1_;(try clear hb);(try clear hb2);(try clear hk);(try clear hi))|((with_reducible refine gate_callee (f:=32) rfl ?_);refine goesL_ (some 14) rfl rfl Try.func32 (by kernel_rfl) rfl #[.slice A0 l0.length c0] rfl (by (try simp only [lM,lC,lN]);first|done|rfl|(simp only [lD,lT];rfl)) ?_;(with_reducible refine (rickyardref9_RightBig.calls k _ _ l0 t661 _ ?side1 ?side2 A9.out).mono ?_);(case side1 => repeat (first|exact (cB HR0.out HB.out)|(with_reducible refine cA ?_ _)|(with_reducible refine cN ?_ _)|(with_reducible refine cD ?_)));(case side2 => exact HC0.out);rintro e w13 ⟨rfl,hb⟩;refine ⟨_,rfl,?_⟩;have n0_:=aM (bB (g:=gb658) (o:=.cells #[.int .i64 a1_0,.int .i64 a1_1] 29 (0,0)) (by (with_reducible repeat (first|refine bN ?_ _|refine bD ?_|refine bA ?_ _));exact BK658.out) hb);have n1_:=aM (wT (by repeat (first|(with_reducible first|exact HB.out|apply wA|apply wN_|apply wD|refine wS ?_ GE658.out)|exact HB.out)) hb);clear BK658;clear HB;have BK658:=n0_;have HB:=n1_;clear n0_ n1_;(try clear hb);(try clear hb2);(try clear hk);(try clear hi)))
   go_ret
   exact ⟨by first | rfl | (simp [errW_none, errW_some] <;> rfl) | (simp [*, errW_none, errW_some] <;> rfl), by repeat (first | (with_reducible first | exact HB.out | apply wA | apply wN_ | apply wD | refine wS ?_ GE658.out) | exact HB.out)⟩
  ·rw [if_neg c10] at H
   have c10b0 : (t660 != t661) = false := by simpa using c10
   (try (have c10b1 : decide (t660 = t661) = true := by simpa using c10))
   (try (have c10b2 : (t660 == t661) = true := by simpa using c10))
   (try (have c10b3 : t660 = t661 := (show ∀ p_ q_ : Bool, ¬ ((p_ != q_) = true) → p_ = q_ from by decide) _ _ c10))
   clear c10
   replace H := Option.bind_eq_some_iff.mp H
   obtain ⟨t662, A140, H⟩ := H
   replace H : (if t662 = true then ((rickyardlaw11_same.f k l0 a1_0 a1_1 a2).bind fun t663 => (if t663 = true then ((rickyardlaw11_awake.f).bind fun t664 => (some t664)) else (some false))) else ((rickyardlaw11_awake.f).bind fun t665 => (some t665))) = some r := H
   have A14 := aM A140
   clear A140
   by_cases c15 : t662 = true
   ·subst c15
    have H1 : ((rickyardlaw11_same.f k l0 a1_0 a1_1 a2).bind fun t663 => (if t663 = true then ((rickyardlaw11_awake.f).bind fun t664 => (some t664)) else (some false))) = some r := by rw [if_pos rfl] at H; exact H
    clear H
    have H := H1
    clear H1
    replace H := Option.bind_eq_some_iff.mp H
    obtain ⟨t663, A160, H⟩ := H
    replace H : (if t663 = true then ((rickyardlaw11_awake.f).bind fun t664 => (some t664)) else (some false)) = some r := H
    have A16 := aM A160
    clear A160
    by_cases c17 : t663 = true
    ·subst c17
     have H1 : ((rickyardlaw11_awake.f).bind fun t664 => (some t664)) = some r := by rw [if_pos rfl] at H; exact H
     clear H
     have H := H1
     clear H1
     replace H := Option.bind_eq_some_iff.mp H
     obtain ⟨t664, A180, H⟩ := H
     replace H : (some t664) = some r := H
     have A18 := aM A180
     clear A180
     obtain rfl := Option.some.inj H
     go_enter Try.func8, Try.ntmps8
     go_wp2_with (first|((with_reducible refine gate_dst (N:=4) rfl ?_);refine box_event ?hg (N:=4) ?hd (cs:=#[.int .i64 a1_0,.int .i64 a1_1]) (t:=29) ?hr ?_;(case hd => rfl);(case hg => rfl);(case hr => first|(go_simp;done)|(go_simp;rfl));intro gb658 hg w19 hbox hb;have n0_:=aM (wT (by repeat (first|(with_reducible first|exact HB.out|apply wA|apply wN_|apply wD)|exact HB.out)) hb);have n1_:=aM (hbox);have n2_:=aM ((by rw [hg];exact (wZ (by repeat (first|(with_reducible first|exact HB.out|apply wA|apply wN_|apply wD)|exact HB.out))) : w.heap.size ≤ gb658));have n3_:=aM ((by rw [hg];exact (wZ (by repeat (first|(with_reducible first|exact HB.out|apply wA|apply wN_|apply wD)|exact HB.out))) : w.heap.size ≤ gb658));clear HB;have HB:=n0_;have BK658:=n1_;have GW658:=n2_;have GE658:=n3_;clear n0_ n1_ n2_ n3_;clear hb hbox hg)|((with_reducible refine gate_callee (f:=27) rfl ?_);refine goesL_ (some 12) rfl rfl Try.func27 (by kernel_rfl) rfl #[.slice A0 l0.length c0] rfl (by (try simp only [lM,lC,lN]);first|done|rfl|(simp only [lD,lT];rfl)) ?_;(with_reducible refine (large_Right.calls k _ _ l0 t660 _ ?side1 ?side2 A8.out).mono ?_);(case side1 => repeat (first|exact (cB HR0.out HB.out)|(with_reducible refine cA ?_ _)|(with_reducible refine cN ?_ _)|(with_reducible refine cD ?_)));(case side2 => exact HC0.out);rintro e w20 ⟨rfl,hb⟩;refine ⟨_,rfl,?_⟩;have n0_:=aM (bB (g:=gb658) (o:=.cells #[.int .i64 a1_0,.int .i64 a1_1] 29 (0,0)) (by (with_reducible repeat (first|refine bN ?_ _|refine bD ?_|refine bA ?_ _));exact BK658.out) hb);have n1_:=aM (wT (by repeat (first|(with_reducible first|exact HB.out|apply wA|apply wN_|apply wD|refine wS ?_ GE658.out)|exact HB.out)) hb);clear BK658;clear HB;have BK658:=n0_;have HB:=n1_;clear n0_ n1_;(try clear hb);(try clear hb2);(try clear hk);(try clear hi))|((with_reducible refine gate_callee (f:=32) rfl ?_);refine goesL_ (some 14) rfl rfl Try.func32 (by kernel_rfl) rfl #[.slice A0 l0.length c0] rfl (by (try simp only [lM,lC,lN]);first|done|rfl|(simp only [lD,lT];rfl)) ?_;(with_reducible refine (rickyardref9_RightBig.calls k _ _ l0 t661 _ ?side1 ?side2 A9.out).mono ?_);(case side1 => repeat (first|exact (cB HR0.out HB.out)|(with_reducible refine cA ?_ _)|(with_reducible refine cN ?_ _)|(with_reducible refine cD ?_)));(case side2 => exact HC0.out);rintro e w21 ⟨rfl,hb⟩;refine ⟨_,rfl,?_⟩;have n0_:=aM (bB (g:=gb658) (o:=.cells #[.int .i64 a1_0,.int .i64 a1_1] 29 (0,0)) (by (with_reducible repeat (first|refine bN ?_ _|refine bD ?_|refine bA ?_ _));exact BK658.out) hb);have n1_:=aM (wT (by repeat (first|(with_reducible first|exact HB.out|apply wA|apply wN_|apply wD|refine wS ?_ GE658.out)|exact HB.out)) hb);clear BK658;clear HB;have BK658:=n0_;have HB:=n1_;clear n0_ n1_;(try clear hb);(try clear hb2);(try clear hk);(try clear hi))|((with_reducible refine gate_callee (f:=32) rfl ?_);refine goesL_ (some 17) rfl rfl Try.func32 (by kernel_rfl) rfl #[.slice A0 l0.length c0] rfl (by (try simp only [lM,lC,lN]);first|done|rfl|(simp only [lD,lT];rfl)) ?_;(with_reducible refine (rickyardref9_RightBig.calls k _ _ l0 true _ ?side1 ?side2 A14.out).mono ?_);(case side1 => repeat (first|exact (cB HR0.out HB.out)|(with_reducible refine cA ?_ _)|(with_reducible refine cN ?_ _)|(with_reducible refine cD ?_)));(case side2 => exact HC0.out);rintro e w22 ⟨rfl,hb⟩;refine ⟨_,rfl,?_⟩;have n0_:=aM (bB (g:=gb658) (o:=.cells #[.int .i64 a1_0,.int .i64 a1_1] 29 (0,0)) (by (with_reducible repeat (first|refine bN ?_ _|refine bD ?_|refine bA ?_ _));exact BK658.out) hb);have n1_:=aM (wT (by repeat (first|(with_reducible first|exact HB.out|apply wA|apply wN_|apply wD|refine wS ?_ GE658.out)|exact HB.out)) hb);clear BK658;clear HB;have BK658:=n0_;have HB:=n1_;clear n0_ n1_;(try clear hb);(try clear hb2);(try clear hk);(try clear hi);have hcz23_0 : w22.cell? ⟨gb658,0,none⟩ = some (.int .i64 a1_0):=(bC BK658.out 0).trans rfl;have hcz23_1 : w22.cell? ⟨gb658,1,none⟩ = some (.int .i64 a1_1):=(bC BK658.out 1).trans rfl;have hfz23_0:=bF BK658.out 0;have hfz23_1:=bF BK658.out 1)|(go_at_call 33;(with_reducible refine (rickyardlaw11_same.calls k _ _ l0 a1_0 a1_1 a2 true _ ?side1 ?side2 A16.out).mono ?_);(case side1 => repeat (first|exact (cB HR0.out HB.out)|(with_reducible refine cA ?_ _)|(with_reducible refine cN ?_ _)|(with_reducible refine cD ?_)));(case side2 => exact HC0.out);rintro e w24 ⟨rfl,hb⟩;have n0_:=aM (bB (g:=gb658) (o:=.cells #[.int .i64 a1_0,.int .i64 a1_1] 29 (0,0)) (by (with_reducible repeat (first|refine bN ?_ _|refine bD ?_|refine bA ?_ _));exact BK658.out) hb);have n1_:=aM (wT (by repeat (first|(with_reducible first|exact HB.out|apply wA|apply wN_|apply wD|refine wS ?_ GE658.out)|exact HB.out)) hb);clear BK658;clear HB;have BK658:=n0_;have HB:=n1_;clear n0_ n1_;(try clear hb);(try clear hb2);(try clear hk);(try clear hi))|(go_at_call 19;(with_reducible refine (rickyardlaw11_awake.calls  t664 _ A18.out).mono ?_);rintro e w25 ⟨rfl,hb⟩;have n0_:=aM (bB (g:=gb658) (o:=.cells #[.int .i64 a1_0,.int .i64 a1_1] 29 (0,0)) (by (with_reducible repeat (first|refine bN ?_ _|refine bD ?_|refine bA ?_ _));exact BK658.out) hb);have n1_:=aM (wT (by repeat (first|(with_reducible first|exact HB.out|apply wA|apply wN_|apply wD|refine wS ?_ GE658.out)|exact HB.out)) hb);clear BK658;clear HB;have BK658:=n0_;have HB:=n1_;clear n0_ n1_;(try clear hb);(try clear hb2);(try clear hk);(try clear hi)))
     go_ret
     exact ⟨by first | rfl | (simp [errW_none, errW_some] <;> rfl) | (simp [*, errW_none, errW_some] <;> rfl), by repeat (first | (with_reducible first | exact HB.out | apply wA | apply wN_ | apply wD | refine wS ?_ GE658.out) | exact HB.out)⟩
    ·replace c17 := Bool.eq_false_iff.mpr c17
     subst c17
     have H1 : (some false) = some r := by rw [if_neg (show ¬ (false = true) by decide)] at H; exact H
     clear H
     have H := H1
     clear H1
     obtain rfl := Option.some.inj H
     go_enter Try.func8, Try.ntmps8
     go_wp2_with (first|((with_reducible refine gate_dst (N:=4) rfl ?_);refine box_event ?hg (N:=4) ?hd (cs:=#[.int .i64 a1_0,.int .i64 a1_1]) (t:=29) ?hr ?_;(case hd => rfl);(case hg => rfl);(case hr => first|(go_simp;done)|(go_simp;rfl));intro gb658 hg w26 hbox hb;have n0_:=aM (wT (by repeat (first|(with_reducible first|exact HB.out|apply wA|apply wN_|apply wD)|exact HB.out)) hb);have n1_:=aM (hbox);have n2_:=aM ((by rw [hg];exact (wZ (by repeat (first|(with_reducible first|exact HB.out|apply wA|apply wN_|apply wD)|exact HB.out))) : w.heap.size ≤ gb658));have n3_:=aM ((by rw [hg];exact (wZ (by repeat (first|(with_reducible first|exact HB.out|apply wA|apply wN_|apply wD)|exact HB.out))) : w.heap.size ≤ gb658));clear HB;have HB:=n0_;have BK658:=n1_;have GW658:=n2_;have GE658:=n3_;clear n0_ n1_ n2_ n3_;clear hb hbox hg)|((with_reducible refine gate_callee (f:=27) rfl ?_);refine goesL_ (some 12) rfl rfl Try.func27 (by kernel_rfl) rfl #[.slice A0 l0.length c0] rfl (by (try simp only [lM,lC,lN]);first|done|rfl|(simp only [lD,lT];rfl)) ?_;(with_reducible refine (large_Right.calls k _ _ l0 t660 _ ?side1 ?side2 A8.out).mono ?_);(case side1 => repeat (first|exact (cB HR0.out HB.out)|(with_reducible refine cA ?_ _)|(with_reducible refine cN ?_ _)|(with_reducible refine cD ?_)));(case side2 => exact HC0.out);rintro e w27 ⟨rfl,hb⟩;refine ⟨_,rfl,?_⟩;have n0_:=aM (bB (g:=gb658) (o:=.cells #[.int .i64 a1_0,.int .i64 a1_1] 29 (0,0)) (by (with_reducible repeat (first|refine bN ?_ _|refine bD ?_|refine bA ?_ _));exact BK658.out) hb);have n1_:=aM (wT (by repeat (first|(with_reducible first|exact HB.out|apply wA|apply wN_|apply wD|refine wS ?_ GE658.out)|exact HB.out)) hb);clear BK658;clear HB;have BK658:=n0_;have HB:=n1_;clear n0_ n1_;(try clear hb);(try clear hb2);(try clear hk);(try clear hi))|((with_reducible refine gate_callee (f:=32) rfl ?_);refine goesL_ (some 14) rfl rfl Try.func32 (by kernel_rfl) rfl #[.slice A0 l0.length c0] rfl (by (try simp only [lM,lC,lN]);first|done|rfl|(simp only [lD,lT];rfl)) ?_;(with_reducible refine (rickyardref9_RightBig.calls k _ _ l0 t661 _ ?side1 ?side2 A9.out).mono ?_);(case side1 => repeat (first|exact (cB HR0.out HB.out)|(with_reducible refine cA ?_ _)|(with_reducible refine cN ?_ _)|(with_reducible refine cD ?_)));(case side2 => exact HC0.out);rintro e w28 ⟨rfl,hb⟩;refine ⟨_,rfl,?_⟩;have n0_:=aM (bB (g:=gb658) (o:=.cells #[.int .i64 a1_0,.int .i64 a1_1] 29 (0,0)) (by (with_reducible repeat (first|refine bN ?_ _|refine bD ?_|refine bA ?_ _));exact BK658.out) hb);have n1_:=aM (wT (by repeat (first|(with_reducible first|exact HB.out|apply wA|apply wN_|apply wD|refine wS ?_ GE658.out)|exact HB.out)) hb);clear BK658;clear HB;have BK658:=n0_;have HB:=n1_;clear n0_ n1_;(try clear hb);(try clear hb2);(try clear hk);(try clear hi))|((with_reducible refine gate_callee (f:=32) rfl ?_);refine goesL_ (some 17) rfl rfl Try.func32 (by kernel_rfl) rfl #[.slice A0 l0.length c0] rfl (by (try simp only [lM,lC,lN]);first|done|rfl|(simp only [lD,lT];rfl)) ?_;(with_reducible refine (rickyardref9_RightBig.calls k _ _ l0 true _ ?side1 ?side2 A14.out).mono ?_);(case side1 => repeat (first|exact (cB HR0.out HB.out)|(with_reducible refine cA ?_ _)|(with_reducible refine cN ?_ _)|(with_reducible refine cD ?_)));(case side2 => exact HC0.out);rintro e w29 ⟨rfl,hb⟩;refine ⟨_,rfl,?_⟩;have n0_:=aM (bB (g:=gb658) (o:=.cells #[.int .i64 a1_0,.int .i64 a1_1] 29 (0,0)) (by (with_reducible repeat (first|refine bN ?_ _|refine bD ?_|refine bA ?_ _));exact BK658.out) hb);have n1_:=aM (wT (by repeat (first|(with_reducible first|exact HB.out|apply wA|apply wN_|apply wD|refine wS ?_ GE658.out)|exact HB.out)) hb);clear BK658;clear HB;have BK658:=n0_;have HB:=n1_;clear n0_ n1_;(try clear hb);(try clear hb2);(try clear hk);(try clear hi);have hcz30_0 : w29.cell? ⟨gb658,0,none⟩ = some (.int .i64 a1_0):=(bC BK658.out 0).trans rfl;have hcz30_1 : w29.cell? ⟨gb658,1,none⟩ = some (.int .i64 a1_1):=(bC BK658.out 1).trans rfl;have hfz30_0:=bF BK658.out 0;have hfz30_1:=bF BK658.out 1)|(go_at_call 33;(with_reducible refine (rickyardlaw11_same.calls k _ _ l0 a1_0 a1_1 a2 false _ ?side1 ?side2 A16.out).mono ?_);(case side1 => repeat (first|exact (cB HR0.out HB.out)|(with_reducible refine cA ?_ _)|(with_reducible refine cN ?_ _)|(with_reducible refine cD ?_)));(case side2 => exact HC0.out);rintro e w31 ⟨rfl,hb⟩;have n0_:=aM (bB (g:=gb658) (o:=.cells #[.int .i64 a1_0,.int .i64 a1_1] 29 (0,0)) (by (with_reducible repeat (first|refine bN ?_ _|refine bD ?_|refine bA ?_ _));exact BK658.out) hb);have n1_:=aM (wT (by repeat (first|(with_reducible first|exact HB.out|apply wA|apply wN_|apply wD|refine wS ?_ GE658.out)|exact HB.out)) hb);clear BK658;clear HB;have BK658:=n0_;have HB:=n1_;clear n0_ n1_;(try clear hb);(try clear hb2);(try clear hk);(try clear hi)))
     go_ret
     exact ⟨by first | rfl | (simp [errW_none, errW_some] <;> rfl) | (simp [*, errW_none, errW_some] <;> rfl), by repeat (first | (with_reducible first | exact HB.out | apply wA | apply wN_ | apply wD | refine wS ?_ GE658.out) | exact HB.out)⟩
   ·replace c15 := Bool.eq_false_iff.mpr c15
    subst c15
    have H1 : ((rickyardlaw11_awake.f).bind fun t665 => (some t665)) = some r := by rw [if_neg (show ¬ (false = true) by decide)] at H; exact H
    clear H
    have H := H1
    clear H1
    replace H := Option.bind_eq_some_iff.mp H
    obtain ⟨t665, A320, H⟩ := H
    replace H : (some t665) = some r := H
    have A32 := aM A320
    clear A320
    obtain rfl := Option.some.inj H
    go_enter Try.func8, Try.ntmps8
    go_wp2_with (first|((with_reducible refine gate_dst (N:=4) rfl ?_);refine box_event ?hg (N:=4) ?hd (cs:=#[.int .i64 a1_0,.int .i64 a1_1]) (t:=29) ?hr ?_;(case hd => rfl);(case hg => rfl);(case hr => first|(go_simp;done)|(go_simp;rfl));intro gb658 hg w33 hbox hb;have n0_:=aM (wT (by repeat (first|(with_reducible first|exact HB.out|apply wA|apply wN_|apply wD)|exact HB.out)) hb);have n1_:=aM (hbox);have n2_:=aM ((by rw [hg];exact (wZ (by repeat (first|(with_reducible first|exact HB.out|apply wA|apply wN_|apply wD)|exact HB.out))) : w.heap.size ≤ gb658));have n3_:=aM ((by rw [hg];exact (wZ (by repeat (first|(with_reducible first|exact HB.out|apply wA|apply wN_|apply wD)|exact HB.out))) : w.heap.size ≤ gb658));clear HB;have HB:=n0_;have BK658:=n1_;have GW658:=n2_;have GE658:=n3_;clear n0_ n1_ n2_ n3_;clear hb hbox hg)|((with_reducible refine gate_callee (f:=27) rfl ?_);refine goesL_ (some 12) rfl rfl Try.func27 (by kernel_rfl) rfl #[.slice A0 l0.length c0] rfl (by (try simp only [lM,lC,lN]);first|done|rfl|(simp only [lD,lT];rfl)) ?_;(with_reducible refine (large_Right.calls k _ _ l0 t660 _ ?side1 ?side2 A8.out).mono ?_);(case side1 => repeat (first|exact (cB HR0.out HB.out)|(with_reducible refine cA ?_ _)|(with_reducible refine cN ?_ _)|(with_reducible refine cD ?_)));(case side2 => exact HC0.out);rintro e w34 ⟨rfl,hb⟩;refine ⟨_,rfl,?_⟩;have n0_:=aM (bB (g:=gb658) (o:=.cells #[.int .i64 a1_0,.int .i64 a1_1] 29 (0,0)) (by (with_reducible repeat (first|refine bN ?_ _|refine bD ?_|refine bA ?_ _));exact BK658.out) hb);have n1_:=aM (wT (by repeat (first|(with_reducible first|exact HB.out|apply wA|apply wN_|apply wD|refine wS ?_ GE658.out)|exact HB.out)) hb);clear BK658;clear HB;have BK658:=n0_;have HB:=n1_;clear n0_ n1_;(try clear hb);(try clear hb2);(try clear hk);(try clear hi))|((with_reducible refine gate_callee (f:=32) rfl ?_);refine goesL_ (some 14) rfl rfl Try.func32 (by kernel_rfl) rfl #[.slice A0 l0.length c0] rfl (by (try simp only [lM,lC,lN]);first|done|rfl|(simp only [lD,lT];rfl)) ?_;(with_reducible refine (rickyardref9_RightBig.calls k _ _ l0 t661 _ ?side1 ?side2 A9.out).mono ?_);(case side1 => repeat (first|exact (cB HR0.out HB.out)|(with_reducible refine cA ?_ _)|(with_reducible refine cN ?_ _)|(with_reducible refine cD ?_)));(case side2 => exact HC0.out);rintro e w35 ⟨rfl,hb⟩;refine ⟨_,rfl,?_⟩;have n0_:=aM (bB (g:=gb658) (o:=.cells #[.int .i64 a1_0,.int .i64 a1_1] 29 (0,0)) (by (with_reducible repeat (first|refine bN ?_ _|refine bD ?_|refine bA ?_ _));exact BK658.out) hb);have n1_:=aM (wT (by repeat (first|(with_reducible first|exact HB.out|apply wA|apply wN_|apply wD|refine wS ?_ GE658.out)|exact HB.out)) hb);clear BK658;clear HB;have BK658:=n0_;have HB:=n1_;clear n0_ n1_;(try clear hb);(try clear hb2);(try clear hk);(try clear hi))|((with_reducible refine gate_callee (f:=32) rfl ?_);refine goesL_ (some 17) rfl rfl Try.func32 (by kernel_rfl) rfl #[.slice A0 l0.length c0] rfl (by (try simp only [lM,lC,lN]);first|done|rfl|(simp only [lD,lT];rfl)) ?_;(with_reducible refine (rickyardref9_RightBig.calls k _ _ l0 false _ ?side1 ?side2 A14.out).mono ?_);(case side1 => repeat (first|exact (cB HR0.out HB.out)|(with_reducible refine cA ?_ _)|(with_reducible refine cN ?_ _)|(with_reducible refine cD ?_)));(case side2 => exact HC0.out);rintro e w36 ⟨rfl,hb⟩;refine ⟨_,rfl,?_⟩;have n0_:=aM (bB (g:=gb658) (o:=.cells #[.int .i64 a1_0,.int .i64 a1_1] 29 (0,0)) (by (with_reducible repeat (first|refine bN ?_ _|refine bD ?_|refine bA ?_ _));exact BK658.out) hb);have n1_:=aM (wT (by repeat (first|(with_reducible first|exact HB.out|apply wA|apply wN_|apply wD|refine wS ?_ GE658.out)|exact HB.out)) hb);clear BK658;clear HB;have BK658:=n0_;have HB:=n1_;clear n0_ n1_;(try clear hb);(try clear hb2);(try clear hk);(try clear hi))|(go_at_call 19;(with_reducible refine (rickyardlaw11_awake.calls  t665 _ A32.out).mono ?_);rintro e w37 ⟨rfl,hb⟩;have n0_:=aM (bB (g:=gb658) (o:=.cells #[.int .i64 a1_0,.int .i64 a1_1] 29 (0,0)) (by (with_reducible repeat (first|refine bN ?_ _|refine bD ?_|refine bA ?_ _));exact BK658.out) hb);have n1_:=aM (wT (by repeat (first|(with_reducible first|exact HB.out|apply wA|apply wN_|apply wD|refine wS ?_ GE658.out)|exact HB.out)) hb);clear BK658;clear HB;have BK658:=n0_;have HB:=n1_;clear n0_ n1_;(try clear hb);(try clear hb2);(try clear hk);(try clear hi)))
    go_ret
    exact ⟨by first | rfl | (simp [errW_none, errW_some] <;> rfl) | (simp [*, errW_none, errW_some] <;> rfl), by repeat (first | (with_reducible first | exact HB.out | apply wA | apply wN_ | apply wD | refine wS ?_ GE658.out) | exact HB.out)⟩

end Go.Proofs.Ytflhbakjlbmfbaa.Pr
