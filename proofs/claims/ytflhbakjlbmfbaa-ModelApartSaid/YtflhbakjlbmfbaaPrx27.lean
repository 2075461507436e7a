-- Printed by a program of this session (wip/tools/myprint.py) that runs the kit's print with contracts of this session's own.
import Derived.Test.YtflhbakjlbmfbaaPrx0
import Derived.Test.YtflhbakjlbmfbaaShort
import Derived.Test.YtflhbakjlbmfbaaWTab
import Derived.Test.YtflhbakjlbmfbaaPrx22
import Derived.Test.YtflhbakjlbmfbaaPrx23
import Derived.Test.YtflhbakjlbmfbaaPrx24
namespace Go.Proofs.Ytflhbakjlbmfbaa.Pr
open Go.RowKit Go.Proofs.YtflhbakjlbmfbaaW.PrintWords Go.Proofs.YtflhbakjlbmfbaaW.PrintLast Go.Proofs.YtflhbakjlbmfbaaW.PrintMore
attribute [local go_sem] max2_int min2_int max_two min_two max_three min_three max_four min_four   -- for this text's walks alone
set_option linter.unusedVariables false
set_option linter.unusedSimpArgs false

/-! ### model_Alloc: function 21 -/
def model_Alloc.j0 : Nat → Int → Bool → Int → List (S48) → Int → Int → Int → Option (Int × (List (S48)) × Bool)
 | 0, _, _, _, _, _, _, _ => none
 | k + 1, x2, x35, x313000, x313001, x317000, x317001, x317002 => if x35 = true then (some (0, ([] : List (S48)), false)) else ((model_place.f x313001 x2).bind fun bt319 => ((api_Live_58.f x313001).bind fun t321 => ((api_Live_57.f t321 bt319.1 (([(⟨x317000, x317001, x317002⟩ : S48)] : List (S48)))).bind fun t327 => (some (x313000, t327, true)))))
def model_Alloc.f (k : Nat) (a0_0 : Int) (l0_1 : List (S48)) (a1 : Int) (a2 : Int) : Option (Int × (List (S48)) × Bool) := (size_Class.f k a1).bind fun bt314 => (if bt314.2 = true then ((model_lies.f a2 bt314.1 (-1) a0_0).bind fun t317 => (if t317 = true then ((api_Live_53_54.f l0_1 a2 bt314.1 (-1)).bind fun t318 => (model_Alloc.j0 k a2 t318 a0_0 l0_1 a2 bt314.1 (-1))) else (model_Alloc.j0 k a2 true a0_0 l0_1 a2 bt314.1 (-1)))) else (model_Alloc.j0 k a2 true a0_0 l0_1 a2 bt314.1 (-1)))
theorem model_Alloc.mono_l : ∀ k, (∀ y0 y1 y2 y3 y4 y5 y6, LeO (model_Alloc.j0 k y0 y1 y2 y3 y4 y5 y6) (model_Alloc.j0 (k + 1) y0 y1 y2 y3 y4 y5 y6))
 | 0 => fun _ _ _ _ _ _ _ r h => by simp [model_Alloc.j0] at h
 | k + 1 => by
  have ih0 := model_Alloc.mono_l k
  ·intro y0 y1 y2 y3 y4 y5 y6
   unfold model_Alloc.j0
   repeat' first
   | (with_reducible exact ih0 _ _ _ _ _ _ _)
   | (with_reducible exact size_Class.mono _ _)
   | (with_reducible exact LeO.refl _)
   | (with_reducible exact LeO.none _)
   | (with_reducible refine LeO.ite ?_ ?_)
   | (with_reducible refine LeO.bind ?_ (fun _ => ?_))
   | exact ih0 _ _ _ _ _ _ _
   | exact size_Class.mono _ _
   | exact LeO.none _
   | refine LeO.ite ?_ ?_
   | refine LeO.bind ?_ (fun _ => ?_)
theorem model_Alloc.mono : ∀ a0 a1 a2 a3 k, LeO (model_Alloc.f k a0 a1 a2 a3) (model_Alloc.f (k + 1) a0 a1 a2 a3) := by
 intro a0 a1 a2 a3 k
 have ih0 := model_Alloc.mono_l k
 unfold model_Alloc.f
 repeat' first
   | (with_reducible exact ih0 _ _ _ _ _ _ _)
   | (with_reducible exact size_Class.mono _ _)
   | (with_reducible exact LeO.refl _)
   | (with_reducible exact LeO.none _)
   | (with_reducible refine LeO.ite ?_ ?_)
   | (with_reducible refine LeO.bind ?_ (fun _ => ?_))
   | exact ih0 _ _ _ _ _ _ _
   | exact size_Class.mono _ _
   | exact LeO.none _
   | refine LeO.ite ?_ ?_
   | refine LeO.bind ?_ (fun _ => ?_)
def model_Alloc.T6 : Bool × List (List Nat × List Nat) := (true, [([], []), ([0], [0]), ([], []), ([2], [2]), ([3], [3]), ([], []), ([], []), ([6], [6]), ([4, 5, 7, 4], [4, 5, 7]), ([1, 8], [1, 8]), ([9, 8, 0, 1, 2, 3, 4, 5, 6, 7, 8, 9], [9]), ([10, 0, 1, 2, 3, 4, 5, 6, 7, 8, 9, 10], [])])
def model_Alloc.B6 : List Nat := [0, 1, 0, 4, 12, 0, 0, 64, 252, 511, 1023, 2047]
theorem model_Alloc.tab6 : rtab .any (opsOf Try.f21 6) = model_Alloc.T6 := by kernel_rfl
theorem model_Alloc.bits6 : waitsOk model_Alloc.T6.2 model_Alloc.B6 = true := by kernel_rfl
set_option maxHeartbeats 8000000 in
set_option maxRecDepth 100000 in
theorem model_Alloc.calls (k : Nat) (a0_0 : Int) (A0_1 : Option Addr) (c0_1 : Nat) (l0_1 : List (S48)) (a1 : Int) (a2 : Int) (r1 : Int) (r2 : List (S48)) (r3 : Bool) (w : World) (hr0_1 : Kd.C k48 w A0_1 l0_1.length l0_1) (hc0_1 : l0_1.length ≤ c0_1) (h : model_Alloc.f k a0_0 l0_1 a1 a2 = some (r1, r2, r3)) :
  Calls Try.prog 21 #[.agg #[.int .i64 a0_0, .slice A0_1 l0_1.length c0_1], .int .i64 a1, .int .i64 a2] w fun e w' => ∃ v1_ : Value, e = .returned (.tuple #[.agg #[.int .i64 r1, v1_], .bool r3]) ∧ Kd.R k48 48 w' w.heap.size (fun _ => True) v1_ r2 ∧ Below w.heap.size w w' := by
 have hu41 := Try.underlying41
 have hu48 := Try.underlying48
 have HR0_1 := aM hr0_1
 have HC0_1 := aM hc0_1
 clear hr0_1 hc0_1
 have HB := aM (Below.refl w.heap.size w)
 have H : ((size_Class.f k a1).bind fun bt314 => (if bt314.2 = true then ((model_lies.f a2 bt314.1 (-1) a0_0).bind fun t317 => (if t317 = true then ((api_Live_53_54.f l0_1 a2 bt314.1 (-1)).bind fun t318 => (model_Alloc.j0 k a2 t318 a0_0 l0_1 a2 bt314.1 (-1))) else (model_Alloc.j0 k a2 true a0_0 l0_1 a2 bt314.1 (-1)))) else (model_Alloc.j0 k a2 true a0_0 l0_1 a2 bt314.1 (-1)))) = some (r1, r2, r3) := h
 clear h
 replace H := Option.bind_eq_some_iff.mp H
 obtain ⟨⟨t314, t315⟩, A40, H⟩ := H
 replace H : (if t315 = true then ((model_lies.f a2 t314 (-1) a0_0).bind fun t317 => (if t317 = true then ((api_Live_53_54.f l0_1 a2 t314 (-1)).bind fun t318 => (model_Alloc.j0 k a2 t318 a0_0 l0_1 a2 t314 (-1))) else (model_Alloc.j0 k a2 true a0_0 l0_1 a2 t314 (-1)))) else (model_Alloc.j0 k a2 true a0_0 l0_1 a2 t314 (-1))) = some (r1, r2, r3) := H
 have A4 := aM A40
 clear A40
 have HC5 := aM H
 clear H
 go_enter Try.func21, Try.ntmps21
 go_upto_region 3 with (first|((with_reducible refine gate_dst (N:=3) rfl ?_);refine box_event ?hg (N:=3) ?hd (cs:=#[.int .i64 a0_0,.slice A0_1 l0_1.length c0_1]) (t:=41) ?hr ?_;(case hd => rfl);(case hg => rfl);(case hr => first|(go_simp;done)|(go_simp;rfl));intro gb312 hg w6 hbox hb;have n0_:=aM (wT (by repeat (first|(with_reducible first|exact HB.out|apply wA|apply wN_|apply wD)|exact HB.out)) hb);have n1_:=aM (hbox);have n2_:=aM ((by rw [hg];exact (wZ (by repeat (first|(with_reducible first|exact HB.out|apply wA|apply wN_|apply wD)|exact HB.out))) : w.heap.size ≤ gb312));have n3_:=aM ((by rw [hg];exact (wZ (by repeat (first|(with_reducible first|exact HB.out|apply wA|apply wN_|apply wD)|exact HB.out))) : w.heap.size ≤ gb312));clear HB;have HB:=n0_;have BK312:=n1_;have GW312:=n2_;have GE312:=n3_;clear n0_ n1_ n2_ n3_;clear hb hbox hg)|((with_reducible refine gate_dst (N:=6) rfl ?_);refine box_event ?hg (N:=6) ?hd (cs:=#[.int .i64 0,.slice none 0 0]) (t:=41) ?hr ?_;(case hd => rfl);(case hg => rfl);(case hr => first|(go_simp;done)|(go_simp;rfl));intro gb313 hg w7 hbox hb;have n0_:=aM (bB (g:=gb312) (o:=.cells #[.int .i64 a0_0,.slice A0_1 l0_1.length c0_1] 41 (0,0)) (by (with_reducible repeat (first|refine bN ?_ _|refine bD ?_|refine bA ?_ _));exact BK312.out) hb);have n1_:=aM (wT (by repeat (first|(with_reducible first|exact HB.out|apply wA|apply wN_|apply wD|refine wS ?_ GE312.out)|exact HB.out)) hb);have n2_:=aM (hbox);have n3_:=aM ((by rw [hg];exact (wZ (by repeat (first|(with_reducible first|exact HB.out|apply wA|apply wN_|apply wD|refine wS ?_ GE312.out)|exact HB.out))) : w.heap.size ≤ gb313));have n4_:=aM ((by rw [hg];exact (wZ (by repeat (first|(with_reducible first|exact HB.out|apply wA|apply wN_|apply wD|refine wS ?_ GE312.out)|exact HB.out))) : w.heap.size ≤ gb313));have n5_:=aM ((by rw [hg];exact Nat.ne_of_lt (bL (g:=gb312) (o:=.cells #[.int .i64 a0_0,.slice A0_1 l0_1.length c0_1] 41 (0,0)) (by (with_reducible repeat (first|refine bN ?_ _|refine bD ?_|refine bA ?_ _));exact BK312.out)) : gb312 ≠ gb313));have n6_:=aM ((by rw [hg];exact Nat.ne_of_gt (bL (g:=gb312) (o:=.cells #[.int .i64 a0_0,.slice A0_1 l0_1.length c0_1] 41 (0,0)) (by (with_reducible repeat (first|refine bN ?_ _|refine bD ?_|refine bA ?_ _));exact BK312.out)) : gb313 ≠ gb312));clear BK312;clear HB;have BK312:=n0_;have HB:=n1_;have BK313:=n2_;have GW313:=n3_;have GE313:=n4_;have NB312_313:=n5_;have NB313_312:=n6_;clear n0_ n1_ n2_ n3_ n4_ n5_ n6_;clear hb hbox hg)|((with_reducible refine gate_callee (f:=51) rfl ?_);refine goesL_ (some 15) rfl rfl Try.func51 (by kernel_rfl) rfl #[.int .i64 a1] rfl (by (try simp only [lM,lC,lN]);first|done|rfl|(simp only [lD,lT];rfl)) ?_;(with_reducible refine (size_Class.calls k a1 t314 t315 _ A4.out).mono ?_);rintro e w8 ⟨rfl,hb⟩;refine ⟨_,rfl,?_⟩;have n0_:=aM (bB (g:=gb312) (o:=.cells #[.int .i64 a0_0,.slice A0_1 l0_1.length c0_1] 41 (0,0)) (by (with_reducible repeat (first|refine bN ?_ _|refine bD ?_|refine bA ?_ _));exact BK312.out) hb);have n1_:=aM (bB (g:=gb313) (o:=.cells #[.int .i64 0,.slice none 0 0] 41 (0,0)) (by (with_reducible repeat (first|refine bN ?_ _|refine bD ?_|refine bA ?_ _));exact BK313.out) hb);have n2_:=aM (wT (by repeat (first|(with_reducible first|exact HB.out|apply wA|apply wN_|apply wD|refine wS ?_ GE312.out|refine wS ?_ GE313.out)|exact HB.out)) hb);clear BK312;clear BK313;clear HB;have BK312:=n0_;have BK313:=n1_;have HB:=n2_;clear n0_ n1_ n2_;(try clear hb);(try clear hb2);(try clear hk);(try clear hi))|((with_reducible refine gate_dst (N:=10) rfl ?_);refine box_event ?hg (N:=10) ?hd (cs:=#[.int .i64 0,.int .i64 0,.int .i64 0]) (t:=48) ?hr ?_;(case hd => rfl);(case hg => rfl);(case hr => first|(go_simp;done)|(go_simp;rfl));intro gb316 hg w9 hbox hb;have n0_:=aM (bB (g:=gb312) (o:=.cells #[.int .i64 a0_0,.slice A0_1 l0_1.length c0_1] 41 (0,0)) (by (with_reducible repeat (first|refine bN ?_ _|refine bD ?_|refine bA ?_ _));exact BK312.out) hb);have n1_:=aM (bB (g:=gb313) (o:=.cells #[.int .i64 0,.slice none 0 0] 41 (0,0)) (by (with_reducible repeat (first|refine bN ?_ _|refine bD ?_|refine bA ?_ _));exact BK313.out) hb);have n2_:=aM (wT (by repeat (first|(with_reducible first|exact HB.out|apply wA|apply wN_|apply wD|refine wS ?_ GE312.out|refine wS ?_ GE313.out)|exact HB.out)) hb);have n3_:=aM (hbox);have n4_:=aM ((by rw [hg];exact (wZ (by repeat (first|(with_reducible first|exact HB.out|apply wA|apply wN_|apply wD|refine wS ?_ GE312.out|refine wS ?_ GE313.out)|exact HB.out))) : w.heap.size ≤ gb316));have n5_:=aM ((by rw [hg];exact (wZ (by repeat (first|(with_reducible first|exact HB.out|apply wA|apply wN_|apply wD|refine wS ?_ GE312.out|refine wS ?_ GE313.out)|exact HB.out))) : w.heap.size ≤ gb316));have n6_:=aM ((by rw [hg];exact Nat.ne_of_lt (bL (g:=gb312) (o:=.cells #[.int .i64 a0_0,.slice A0_1 l0_1.length c0_1] 41 (0,0)) (by (with_reducible repeat (first|refine bN ?_ _|refine bD ?_|refine bA ?_ _));exact BK312.out)) : gb312 ≠ gb316));have n7_:=aM ((by rw [hg];exact Nat.ne_of_gt (bL (g:=gb312) (o:=.cells #[.int .i64 a0_0,.slice A0_1 l0_1.length c0_1] 41 (0,0)) (by (with_reducible repeat (first|refine bN ?_ _|refine bD ?_|refine bA ?_ _));exact BK312.out)) : gb316 ≠ gb312));have n8_:=aM ((by rw [hg];exact Nat.ne_of_lt (bL (g:=gb313) (o:=.cells #[.int .i64 0,.slice none 0 0] 41 (0,0)) (by (with_reducible repeat (first|refine bN ?_ _|refine bD ?_|refine bA ?_ _));exact BK313.out)) : gb313 ≠ gb316));have n9_:=aM ((by rw [hg];exact Nat.ne_of_gt (bL (g:=gb313) (o:=.cells #[.int .i64 0,.slice none 0 0] 41 (0,0)) (by (with_reducible repeat (first|refine bN ?_ _|refine bD ?_|refine bA ?_ _));exact BK313.out)) : gb316 ≠ gb313));clear BK312;clear BK313;clear HB;have BK312:=n0_;have BK313:=n1_;have HB:=n2_;have BK316:=n3_;have GW316:=n4_;have GE316:=n5_;have NB312_316:=n6_;have NB316_312:=n7_;have NB313_316:=n8_;have NB316_313:=n9_;clear n0_ n1_ n2_ n3_ n4_ n5_ n6_ n7_ n8_ n9_;clear hb hbox hg;have hnb10:=NB316_312.out;have hnc10:=NB312_316.out;have hnb11:=NB316_313.out;have hnc11:=NB313_316.out;have hcz12_0 : w9.cell? ⟨gb316,0,none⟩ = some (.int .i64 0):=(bC BK316.out 0).trans rfl;have hcz12_1 : w9.cell? ⟨gb316,1,none⟩ = some (.int .i64 0):=(bC BK316.out 1).trans rfl;have hcz12_2 : w9.cell? ⟨gb316,2,none⟩ = some (.int .i64 0):=(bC BK316.out 2).trans rfl;have hfz12_0:=bF BK316.out 0;have hfz12_1:=bF BK316.out 1;have hfz12_2:=bF BK316.out 2))
 (try simp only [Act.put, lS, lZ, lU])
 go_cut [35] (fun v35 wc => ∃ (kq : Nat) (x35_4 : Bool), v35 = .bool x35_4 ∧ Aside0 (model_Alloc.j0 kq a2 x35_4 a0_0 l0_1 a2 t314 (-1) = some (r1, r2, r3)) ∧ Aside0 (kq ≤ k) ∧ Aside0 (wc.heap[gb312]? = some (.cells #[.int .i64 a0_0, (.slice A0_1 l0_1.length c0_1)] 41 (0, 0))) ∧ Aside0 (wc.heap[gb313]? = some (.cells #[.int .i64 0, (.slice none 0 0)] 41 (0, 0))) ∧ Aside0 (wc.heap[gb316]? = some (.cells #[.int .i64 a2, .int .i64 t314, .int .i64 (-1)] 48 (0, 0))) ∧ Aside0 (Below w.heap.size w wc))
 case first =>
  have H := HC5.out
  clear HC5
  by_cases c13 : t315 = true
  ·subst c13
   have H1 : ((model_lies.f a2 t314 (-1) a0_0).bind fun t317 => (if t317 = true then ((api_Live_53_54.f l0_1 a2 t314 (-1)).bind fun t318 => (model_Alloc.j0 k a2 t318 a0_0 l0_1 a2 t314 (-1))) else (model_Alloc.j0 k a2 true a0_0 l0_1 a2 t314 (-1)))) = some (r1, r2, r3) := by rw [if_pos rfl] at H; exact H
   clear H
   have H := H1
   clear H1
   replace H := Option.bind_eq_some_iff.mp H
   obtain ⟨t317, A140, H⟩ := H
   replace H : (if t317 = true then ((api_Live_53_54.f l0_1 a2 t314 (-1)).bind fun t318 => (model_Alloc.j0 k a2 t318 a0_0 l0_1 a2 t314 (-1))) else (model_Alloc.j0 k a2 true a0_0 l0_1 a2 t314 (-1))) = some (r1, r2, r3) := H
   have A14 := aM A140
   clear A140
   by_cases c15 : t317 = true
   ·subst c15
    have H1 : ((api_Live_53_54.f l0_1 a2 t314 (-1)).bind fun t318 => (model_Alloc.j0 k a2 t318 a0_0 l0_1 a2 t314 (-1))) = some (r1, r2, r3) := by rw [if_pos rfl] at H; exact H
    clear H
    have H := H1
    clear H1
    replace H := Option.bind_eq_some_iff.mp H
    obtain ⟨t318, A160, H⟩ := H
    replace H : (model_Alloc.j0 k a2 t318 a0_0 l0_1 a2 t314 (-1)) = some (r1, r2, r3) := H
    have A16 := aM A160
    clear A160
    have H' := aM H
    clear H
    have hnb17 := NB316_312.out
    have hnc17 := NB312_316.out
    have hnb18 := NB316_313.out
    have hnc18 := NB313_316.out
    have hcz19_0 : w9.cell? ⟨gb316, 0, none⟩ = some (.int .i64 0) := (bC BK316.out 0).trans rfl
    have hcz19_1 : w9.cell? ⟨gb316, 1, none⟩ = some (.int .i64 0) := (bC BK316.out 1).trans rfl
    have hcz19_2 : w9.cell? ⟨gb316, 2, none⟩ = some (.int .i64 0) := (bC BK316.out 2).trans rfl
    have hfz19_0 := bF BK316.out 0
    have hfz19_1 := bF BK316.out 1
    have hfz19_2 := bF BK316.out 2
    have hnb20 := NB312_313.out
    have hnc20 := NB313_312.out
    have hcz21_0 : w9.cell? ⟨gb312, 0, none⟩ = some (.int .i64 a0_0) := (bC BK312.out 0).trans rfl
    have hcz21_1 : w9.cell? ⟨gb312, 1, none⟩ = some (.slice A0_1 l0_1.length c0_1) := (bC BK312.out 1).trans rfl
    have hfz21_0 := bF BK312.out 0
    have hfz21_1 := bF BK312.out 1
    go_wp2_with (first|(go_at_call 52;(with_reducible refine (model_lies.calls a2 t314 (-1) a0_0 true _ A14.out).mono ?_);rintro e w22 ⟨rfl,hb⟩;have n0_:=aM (bB (g:=gb312) (o:=.cells #[.int .i64 a0_0,.slice A0_1 l0_1.length c0_1] 41 (0,0)) (by (with_reducible repeat (first|refine bN ?_ _|refine bD ?_|refine bA ?_ _));refine bR ?_ NB312_316.out _;(with_reducible repeat (first|refine bN ?_ _|refine bD ?_|refine bA ?_ _));refine bR ?_ NB312_316.out _;(with_reducible repeat (first|refine bN ?_ _|refine bD ?_|refine bA ?_ _));refine bR ?_ NB312_316.out _;(with_reducible repeat (first|refine bN ?_ _|refine bD ?_|refine bA ?_ _));exact BK312.out) hb);have n1_:=aM (bB (g:=gb313) (o:=.cells #[.int .i64 0,.slice none 0 0] 41 (0,0)) (by (with_reducible repeat (first|refine bN ?_ _|refine bD ?_|refine bA ?_ _));refine bR ?_ NB313_316.out _;(with_reducible repeat (first|refine bN ?_ _|refine bD ?_|refine bA ?_ _));refine bR ?_ NB313_316.out _;(with_reducible repeat (first|refine bN ?_ _|refine bD ?_|refine bA ?_ _));refine bR ?_ NB313_316.out _;(with_reducible repeat (first|refine bN ?_ _|refine bD ?_|refine bA ?_ _));exact BK313.out) hb);have n2_:=aM (bB (g:=gb316) (o:=.cells #[.int .i64 a2,.int .i64 t314,.int .i64 (-1)] 48 (0,0)) (by (with_reducible repeat (first|refine bN ?_ _|refine bD ?_|refine bA ?_ _));refine bP (cs:=#[.int .i64 a2,.int .i64 t314,.int .i64 0]) ?_ 2 _ rfl;(with_reducible repeat (first|refine bN ?_ _|refine bD ?_|refine bA ?_ _));refine bP (cs:=#[.int .i64 a2,.int .i64 0,.int .i64 0]) ?_ 1 _ rfl;(with_reducible repeat (first|refine bN ?_ _|refine bD ?_|refine bA ?_ _));refine bP (cs:=#[.int .i64 0,.int .i64 0,.int .i64 0]) ?_ 0 _ rfl;(with_reducible repeat (first|refine bN ?_ _|refine bD ?_|refine bA ?_ _));exact BK316.out) hb);have n3_:=aM (wT (by repeat (first|(with_reducible first|exact HB.out|apply wA|apply wN_|apply wD|refine wS ?_ GE312.out|refine wS ?_ GE313.out|refine wS ?_ GE316.out)|exact HB.out)) hb);clear BK312;clear BK313;clear BK316;clear HB;have BK312:=n0_;have BK313:=n1_;have BK316:=n2_;have HB:=n3_;clear n0_ n1_ n2_ n3_;(try clear hb);(try clear hb2);(try clear hk);(try clear hi);have hcz23_0 : w22.cell? ⟨gb312,0,none⟩ = some (.int .i64 a0_0):=(bC BK312.out 0).trans rfl;have hcz23_1 : w22.cell? ⟨gb312,1,none⟩ = some (.slice A0_1 l0_1.length c0_1):=(bC BK312.out 1).trans rfl;have hfz23_0:=bF BK312.out 0;have hfz23_1:=bF BK312.out 1)|(go_at_call 53;(with_reducible refine (api_Live_53_54.calls _ _ l0_1 gb316 a2 t314 (-1) t318 _ ?side1 ?side2 ?side3 A16.out).mono ?_);(case side1 => repeat (first|exact (cB HR0_1.out HB.out)|(with_reducible refine cA ?_ _)|(with_reducible refine cN ?_ _)|(with_reducible refine cD ?_)));(case side2 => exact HC0_1.out);(case side3 => (with_reducible repeat (first|refine bN ?_ _|refine bD ?_|refine bA ?_ _));exact BK316.out);rintro e w24 ⟨rfl,hb⟩;have n0_:=aM (bB (g:=gb312) (o:=.cells #[.int .i64 a0_0,.slice A0_1 l0_1.length c0_1] 41 (0,0)) (by (with_reducible repeat (first|refine bN ?_ _|refine bD ?_|refine bA ?_ _));exact BK312.out) hb);have n1_:=aM (bB (g:=gb313) (o:=.cells #[.int .i64 0,.slice none 0 0] 41 (0,0)) (by (with_reducible repeat (first|refine bN ?_ _|refine bD ?_|refine bA ?_ _));exact BK313.out) hb);have n2_:=aM (bB (g:=gb316) (o:=.cells #[.int .i64 a2,.int .i64 t314,.int .i64 (-1)] 48 (0,0)) (by (with_reducible repeat (first|refine bN ?_ _|refine bD ?_|refine bA ?_ _));exact BK316.out) hb);have n3_:=aM (wT (by repeat (first|(with_reducible first|exact HB.out|apply wA|apply wN_|apply wD|refine wS ?_ GE312.out|refine wS ?_ GE313.out|refine wS ?_ GE316.out)|exact HB.out)) hb);clear BK312;clear BK313;clear BK316;clear HB;have BK312:=n0_;have BK313:=n1_;have BK316:=n2_;have HB:=n3_;clear n0_ n1_ n2_ n3_;(try clear hb);(try clear hb2);(try clear hk);(try clear hi)))
    go_meet
    case rel => exact ⟨_,(t318),(by first|rfl|(simp;done)|(simp [*];done)),H',⟨by first|omega|exact Nat.le_refl _⟩,⟨by (with_reducible repeat (first|refine bN ?_ _|refine bD ?_|refine bA ?_ _));exact BK312.out⟩,⟨by (with_reducible repeat (first|refine bN ?_ _|refine bD ?_|refine bA ?_ _));exact BK313.out⟩,⟨by (with_reducible repeat (first|refine bN ?_ _|refine bD ?_|refine bA ?_ _));exact BK316.out⟩,⟨by repeat (first|(with_reducible first|exact HB.out|apply wA|apply wN_|apply wD|refine wS ?_ GE312.out|refine wS ?_ GE313.out|refine wS ?_ GE316.out)|exact HB.out)⟩⟩
   ·replace c15 := Bool.eq_false_iff.mpr c15
    subst c15
    have H1 : (model_Alloc.j0 k a2 true a0_0 l0_1 a2 t314 (-1)) = some (r1, r2, r3) := by rw [if_neg (show ¬ (false = true) by decide)] at H; exact H
    clear H
    have H := H1
    clear H1
    have H' := aM H
    clear H
    have hnb25 := NB316_312.out
    have hnc25 := NB312_316.out
    have hnb26 := NB316_313.out
    have hnc26 := NB313_316.out
    have hcz27_0 : w9.cell? ⟨gb316, 0, none⟩ = some (.int .i64 0) := (bC BK316.out 0).trans rfl
    have hcz27_1 : w9.cell? ⟨gb316, 1, none⟩ = some (.int .i64 0) := (bC BK316.out 1).trans rfl
    have hcz27_2 : w9.cell? ⟨gb316, 2, none⟩ = some (.int .i64 0) := (bC BK316.out 2).trans rfl
    have hfz27_0 := bF BK316.out 0
    have hfz27_1 := bF BK316.out 1
    have hfz27_2 := bF BK316.out 2
    have hnb28 := NB312_313.out
    have hnc28 := NB313_312.out
    have hcz29_0 : w9.cell? ⟨gb312, 0, none⟩ = some (.int .i64 a0_0) := (bC BK312.out 0).trans rfl
    have hcz29_1 : w9.cell? ⟨gb312, 1, none⟩ = some (.slice A0_1 l0_1.length c0_1) := (bC BK312.out 1).trans rfl
    have hfz29_0 := bF BK312.out 0
    have hfz29_1 := bF BK312.out 1
    go_wp2_with (first|(go_at_call 52;(with_reducible refine (model_lies.calls a2 t314 (-1) a0_0 false _ A14.out).mono ?_);rintro e w30 ⟨rfl,hb⟩;have n0_:=aM (bB (g:=gb312) (o:=.cells #[.int .i64 a0_0,.slice A0_1 l0_1.length c0_1] 41 (0,0)) (by (with_reducible repeat (first|refine bN ?_ _|refine bD ?_|refine bA ?_ _));refine bR ?_ NB312_316.out _;(with_reducible repeat (first|refine bN ?_ _|refine bD ?_|refine bA ?_ _));refine bR ?_ NB312_316.out _;(with_reducible repeat (first|refine bN ?_ _|refine bD ?_|refine bA ?_ _));refine bR ?_ NB312_316.out _;(with_reducible repeat (first|refine bN ?_ _|refine bD ?_|refine bA ?_ _));exact BK312.out) hb);have n1_:=aM (bB (g:=gb313) (o:=.cells #[.int .i64 0,.slice none 0 0] 41 (0,0)) (by (with_reducible repeat (first|refine bN ?_ _|refine bD ?_|refine bA ?_ _));refine bR ?_ NB313_316.out _;(with_reducible repeat (first|refine bN ?_ _|refine bD ?_|refine bA ?_ _));refine bR ?_ NB313_316.out _;(with_reducible repeat (first|refine bN ?_ _|refine bD ?_|refine bA ?_ _));refine bR ?_ NB313_316.out _;(with_reducible repeat (first|refine bN ?_ _|refine bD ?_|refine bA ?_ _));exact BK313.out) hb);have n2_:=aM (bB (g:=gb316) (o:=.cells #[.int .i64 a2,.int .i64 t314,.int .i64 (-1)] 48 (0,0)) (by (with_reducible repeat (first|refine bN ?_ _|refine bD ?_|refine bA ?_ _));refine bP (cs:=#[.int .i64 a2,.int .i64 t314,.int .i64 0]) ?_ 2 _ rfl;(with_reducible repeat (first|refine bN ?_ _|refine bD ?_|refine bA ?_ _));refine bP (cs:=#[.int .i64 a2,.int .i64 0,.int .i64 0]) ?_ 1 _ rfl;(with_reducible repeat (first|refine bN ?_ _|refine bD ?_|refine bA ?_ _));refine bP (cs:=#[.int .i64 0,.int .i64 0,.int .i64 0]) ?_ 0 _ rfl;(with_reducible repeat (first|refine bN ?_ _|refine bD ?_|refine bA ?_ _));exact BK316.out) hb);have n3_:=aM (wT (by repeat (first|(with_reducible first|exact HB.out|apply wA|apply wN_|apply wD|refine wS ?_ GE312.out|refine wS ?_ GE313.out|refine wS ?_ GE316.out)|exact HB.out)) hb);clear BK312;clear BK313;clear BK316;clear HB;have BK312:=n0_;have BK313:=n1_;have BK316:=n2_;have HB:=n3_;clear n0_ n1_ n2_ n3_;(try clear hb);(try clear hb2);(try clear hk);(try clear hi)))
    go_meet
    case rel => exact ⟨_,(true),(by first|rfl|(simp;done)|(simp [*];done)),H',⟨by first|omega|exact Nat.le_refl _⟩,⟨by (with_reducible repeat (first|refine bN ?_ _|refine bD ?_|refine bA ?_ _));exact BK312.out⟩,⟨by (with_reducible repeat (first|refine bN ?_ _|refine bD ?_|refine bA ?_ _));exact BK313.out⟩,⟨by (with_reducible repeat (first|refine bN ?_ _|refine bD ?_|refine bA ?_ _));exact BK316.out⟩,⟨by repeat (first|(with_reducible first|exact HB.out|apply wA|apply wN_|apply wD|refine wS ?_ GE312.out|refine wS ?_ GE313.out|refine wS ?_ GE316.out)|exact HB.out)⟩⟩
  ·replace c13 := Bool.eq_false_iff.mpr c13
   subst c13
   have H1 : (model_Alloc.j0 k a2 true a0_0 l0_1 a2 t314 (-1)) = some (r1, r2, r3) := by rw [if_neg (show ¬ (false = true) by decide)] at H; exact H
   clear H
   have H := H1
   clear H1
   have H' := aM H
   clear H
   go_wp2
   go_meet
   case rel => exact ⟨_,(true),(by first|rfl|(simp;done)|(simp [*];done)),H',⟨by first|omega|exact Nat.le_refl _⟩,⟨by (with_reducible repeat (first|refine bN ?_ _|refine bD ?_|refine bA ?_ _));refine bR ?_ NB312_316.out _;(with_reducible repeat (first|refine bN ?_ _|refine bD ?_|refine bA ?_ _));refine bR ?_ NB312_316.out _;(with_reducible repeat (first|refine bN ?_ _|refine bD ?_|refine bA ?_ _));refine bR ?_ NB312_316.out _;(with_reducible repeat (first|refine bN ?_ _|refine bD ?_|refine bA ?_ _));exact BK312.out⟩,⟨by (with_reducible repeat (first|refine bN ?_ _|refine bD ?_|refine bA ?_ _));refine bR ?_ NB313_316.out _;(with_reducible repeat (first|refine bN ?_ _|refine bD ?_|refine bA ?_ _));refine bR ?_ NB313_316.out _;(with_reducible repeat (first|refine bN ?_ _|refine bD ?_|refine bA ?_ _));refine bR ?_ NB313_316.out _;(with_reducible repeat (first|refine bN ?_ _|refine bD ?_|refine bA ?_ _));exact BK313.out⟩,⟨by (with_reducible repeat (first|refine bN ?_ _|refine bD ?_|refine bA ?_ _));refine bP (cs:=#[.int .i64 a2,.int .i64 t314,.int .i64 0]) ?_ 2 _ rfl;(with_reducible repeat (first|refine bN ?_ _|refine bD ?_|refine bA ?_ _));refine bP (cs:=#[.int .i64 a2,.int .i64 0,.int .i64 0]) ?_ 1 _ rfl;(with_reducible repeat (first|refine bN ?_ _|refine bD ?_|refine bA ?_ _));refine bP (cs:=#[.int .i64 0,.int .i64 0,.int .i64 0]) ?_ 0 _ rfl;(with_reducible repeat (first|refine bN ?_ _|refine bD ?_|refine bA ?_ _));exact BK316.out⟩,⟨by repeat (first|(with_reducible first|exact HB.out|apply wA|apply wN_|apply wD|refine wS ?_ GE312.out|refine wS ?_ GE313.out|refine wS ?_ GE316.out)|exact HB.out)⟩⟩
 case rest =>
  clear HC5
  try clear c1
  try clear c2
  try clear p2
  try clear c5
  try clear c10
  try clear c11
  try clear c13
  try clear c15
  try clear c17
  try clear c18
  try clear c20
  try clear c21
  try clear c25
  try clear c26
  try clear c28
  try clear hcz12_0
  try clear hcz12_1
  try clear hcz12_2
  try clear hcz19_0
  try clear hcz19_1
  try clear hcz19_2
  try clear hcz21_0
  try clear hcz21_1
  try clear hcz23_0
  try clear hcz23_1
  try clear hcz27_0
  try clear hcz27_1
  try clear hcz27_2
  try clear hcz29_0
  try clear hcz29_1
  try clear hfz12_0
  try clear hfz12_1
  try clear hfz12_2
  try clear hfz19_0
  try clear hfz19_1
  try clear hfz19_2
  try clear hfz21_0
  try clear hfz21_1
  try clear hfz23_0
  try clear hfz23_1
  try clear hfz27_0
  try clear hfz27_1
  try clear hfz27_2
  try clear hfz29_0
  try clear hfz29_1
  obtain ⟨kq, x35_4, rfl, HA, HJ4, BK312, BK313, BK316, HB⟩ := hcut
  cases kq with
  | zero => exact absurd HA.out (by simp [model_Alloc.j0])
  | succ kj4 =>
   have H := HA.out
   clear HA
   simp only [model_Alloc.j0] at H
   by_cases c31 : x35_4 = true
   ·subst c31
    have H1 : (some (0, ([] : List (S48)), false)) = some (r1, r2, r3) := by rw [if_pos rfl] at H; exact H
    clear H
    have H := H1
    clear H1
    simp only [Option.some.injEq, Prod.mk.injEq] at H
    obtain ⟨rfl, rfl, rfl⟩ := H
    have hnb32 := NB313_312.out
    have hnc32 := NB312_313.out
    have hnb33 := NB313_316.out
    have hnc33 := NB316_313.out
    have hcz34_0 : wc.cell? ⟨gb313, 0, none⟩ = some (.int .i64 0) := (bC BK313.out 0).trans rfl
    have hcz34_1 : wc.cell? ⟨gb313, 1, none⟩ = some (.slice none 0 0) := (bC BK313.out 1).trans rfl
    have hfz34_0 := bF BK313.out 0
    have hfz34_1 := bF BK313.out 1
    go_wp2
    refine bodyPost_ret (results_ct rfl _ _ gb313 41 #[.int .i64 0, .slice none 0 0] (0, 0) _ rfl (by (with_reducible repeat (first | refine bN ?_ _ | refine bD ?_ | refine bA ?_ _)); refine bP (cs := #[.int .i64 0, .slice none 0 0]) ?_ 1 _ rfl; (with_reducible repeat (first | refine bN ?_ _ | refine bD ?_ | refine bA ?_ _)); refine bP (cs := #[.int .i64 0, .slice none 0 0]) ?_ 0 _ rfl; (with_reducible repeat (first | refine bN ?_ _ | refine bD ?_ | refine bA ?_ _)); exact BK313.out) Try.underlying41 rfl (by kernel_rfl)) rfl ?_
    exact ⟨_, by first | rfl | (simp [errW_none, errW_some] <;> rfl) | (simp [*, errW_none, errW_some] <;> rfl), by first | exact Kd.R_nil _ _ _ _ _ | exact Kd.N_nil _ _ _ _ _ | exact Kd.V_nil _ _ _ _ _ | exact Kd.Q_nil _ _ _ _ _ | exact Kd.S_nil _ _ _ _ _, by repeat (first | (with_reducible first | exact HB.out | apply wA | apply wN_ | apply wD | refine wS ?_ GE312.out | refine wS ?_ GE313.out | refine wS ?_ GE316.out) | exact HB.out)⟩
   ·replace c31 := Bool.eq_false_iff.mpr c31
    subst c31
    have H1 : ((model_place.f l0_1 a2).bind fun bt319 => ((api_Live_58.f l0_1).bind fun t321 => ((api_Live_57.f t321 bt319.1 (([(⟨a2, t314, (-1)⟩ : S48)] : List (S48)))).bind fun t327 => (some (a0_0, t327, true))))) = some (r1, r2, r3) := by rw [if_neg (show ¬ (false = true) by decide)] at H; exact H
    clear H
    have H := H1
    clear H1
    replace H := Option.bind_eq_some_iff.mp H
    obtain ⟨⟨t319, t320⟩, A350, H⟩ := H
    replace H : ((api_Live_58.f l0_1).bind fun t321 => ((api_Live_57.f t321 t319 (([(⟨a2, t314, (-1)⟩ : S48)] : List (S48)))).bind fun t327 => (some (a0_0, t327, true)))) = some (r1, r2, r3) := H
    have A35 := aM A350
    clear A350
    replace H := Option.bind_eq_some_iff.mp H
    obtain ⟨t321, A360, H⟩ := H
    replace H : ((api_Live_57.f t321 t319 (([(⟨a2, t314, (-1)⟩ : S48)] : List (S48)))).bind fun t327 => (some (a0_0, t327, true))) = some (r1, r2, r3) := H
    have A36 := aM A360
    clear A360
    obtain ⟨y324, hy324⟩ : ∃ y_ : List (S48), y_ = (([(⟨a2, t314, (-1)⟩ : S48)] : List (S48))) := ⟨_, rfl⟩
    replace H : ((api_Live_57.f t321 t319 y324).bind fun t327 => (some (a0_0, t327, true))) = some (r1, r2, r3) := by first | (rw [hy324]; with_reducible exact H) | (have H2_ := (Option.bind_some _ _).symm.trans H; rw [hy324]; with_reducible exact H2_) | (have H2_ := (Option.bind_some _ _).symm.trans H; with_reducible exact H2_) | with_reducible exact H | (rw [hy324]; exact H) | exact H
    have Ny324 := aM hy324
    clear hy324
    replace H := Option.bind_eq_some_iff.mp H
    obtain ⟨t327, A370, H⟩ := H
    replace H : (some (a0_0, t327, true)) = some (r1, r2, r3) := H
    have A37 := aM A370
    clear A370
    simp only [Option.some.injEq, Prod.mk.injEq] at H
    obtain ⟨rfl, rfl, rfl⟩ := H
    have hnb38 := NB312_313.out
    have hnc38 := NB313_312.out
    have hnb39 := NB312_316.out
    have hnc39 := NB316_312.out
    have hcz40_0 : wc.cell? ⟨gb312, 0, none⟩ = some (.int .i64 a0_0) := (bC BK312.out 0).trans rfl
    have hcz40_1 : wc.cell? ⟨gb312, 1, none⟩ = some (.slice A0_1 l0_1.length c0_1) := (bC BK312.out 1).trans rfl
    have hfz40_0 := bF BK312.out 0
    have hfz40_1 := bF BK312.out 1
    try go_wp2_with (first|((with_reducible refine gate_callee (f:=56) rfl ?_);refine goesL_ (some 41) rfl rfl Try.func56 (by kernel_rfl) rfl #[.slice A0_1 l0_1.length c0_1,.int .i64 a2] rfl (by (try simp only [lM,lC,lN]);first|done|rfl|(simp only [lD,lT];rfl)) ?_;(with_reducible refine (model_place.calls _ _ l0_1 a2 t319 t320 _ ?side1 ?side2 A35.out).mono ?_);(case side1 => repeat (first|exact (cB HR0_1.out HB.out)|(with_reducible refine cA ?_ _)|(with_reducible refine cN ?_ _)|(with_reducible refine cD ?_)));(case side2 => exact HC0_1.out);rintro e w41 ⟨rfl,hb⟩;refine ⟨_,rfl,?_⟩;have n0_:=aM (bB (g:=gb312) (o:=.cells #[.int .i64 a0_0,.slice A0_1 l0_1.length c0_1] 41 (0,0)) (by (with_reducible repeat (first|refine bN ?_ _|refine bD ?_|refine bA ?_ _));exact BK312.out) hb);have n1_:=aM (bB (g:=gb313) (o:=.cells #[.int .i64 0,.slice none 0 0] 41 (0,0)) (by (with_reducible repeat (first|refine bN ?_ _|refine bD ?_|refine bA ?_ _));exact BK313.out) hb);have n2_:=aM (bB (g:=gb316) (o:=.cells #[.int .i64 a2,.int .i64 t314,.int .i64 (-1)] 48 (0,0)) (by (with_reducible repeat (first|refine bN ?_ _|refine bD ?_|refine bA ?_ _));exact BK316.out) hb);have n3_:=aM (wT (by repeat (first|(with_reducible first|exact HB.out|apply wA|apply wN_|apply wD|refine wS ?_ GE312.out|refine wS ?_ GE313.out|refine wS ?_ GE316.out)|exact HB.out)) hb);clear BK312;clear BK313;clear BK316;clear HB;have BK312:=n0_;have BK313:=n1_;have BK316:=n2_;have HB:=n3_;clear n0_ n1_ n2_ n3_;(try clear hb);(try clear hb2);(try clear hk);(try clear hi)))
    have n0_ := aM (bD BK312.out)
    have n1_ := aM (bD BK313.out)
    have n2_ := aM (bD BK316.out)
    have n3_ := aM (wD HB.out)
    clear BK312
    clear BK313
    clear BK316
    clear HB
    have BK312 := n0_
    have BK313 := n1_
    have BK316 := n2_
    have HB := n3_
    clear n0_ n1_ n2_ n3_
    refine start_ (n := 12) (S := fun w' => w'.cell? ⟨gb312, 0, none⟩ = some (.int .i64 a0_0) ∧ w'.cell? ⟨gb312, 1, none⟩ = some (.slice A0_1 l0_1.length c0_1) ∧ w'.cell? ⟨gb316, 0, none⟩ = some (.int .i64 a2) ∧ w'.cell? ⟨gb316, 1, none⟩ = some (.int .i64 t314) ∧ w'.cell? ⟨gb316, 2, none⟩ = some (.int .i64 (-1))) (ds := []) #[false, false, false, false, false, false, false, false, false, false, false, false] (by kernel_rfl) rfl rfl ⟨(bC BK312.out 0).trans rfl, (bC BK312.out 1).trans rfl, (bC BK316.out 0).trans rfl, (bC BK316.out 1).trans rfl, (bC BK316.out 2).trans rfl⟩ (fun hHeld => ?_); refine with_tabW model_Alloc.tab6 model_Alloc.bits6 (fun HT_ HW_ => ?_)
    generalize w41.drew = w42 at BK312 BK313 BK316 HB hHeld ⊢
    refine pure_ (i := 0) (N := some 44) (v := ?_) (a' := ?_) #[true, false, false, false, false, false, false, false, false, false, false, false] rfl rfl (any_of HT_.out (by kernel_rfl)) (fun _ _ _ h => h) (Or.inl ⟨by rfl, ?_⟩) ?_ ?_
    rotate_left
    ·intro w'
     go_simp
     with_reducible rfl
    rotate_left
    ·simp only [Act.put, lS, lZ, lU, i64_w, i32_w]
     rfl
    refine pure_ (i := 2) (N := some 46) (v := ?_) (a' := ?_) #[true, false, true, false, false, false, false, false, false, false, false, false] rfl rfl (any_of HT_.out (by kernel_rfl)) (fun _ _ _ h => h) (Or.inl ⟨by rfl, ?_⟩) ?_ ?_
    rotate_left
    ·intro w'
     go_simp
     with_reducible rfl
    rotate_left
    ·simp only [Act.put, lS, lZ, lU, i64_w, i32_w]
     rfl
    refine pure_ (i := 5) (N := some 49) (v := ?_) (a' := ?_) #[true, false, true, false, false, true, false, false, false, false, false, false] rfl rfl (any_of HT_.out (by kernel_rfl)) (fun _ _ _ h => h) (Or.inl ⟨by rfl, ?_⟩) ?_ ?_
    rotate_left
    ·intro w'
     go_simp
     with_reducible rfl
    rotate_left
    ·simp only [Act.put, lS, lZ, lU, i64_w, i32_w]
     rfl
    refine take_ (i := 1) (N := some 45) (v := ?_) (a' := ?_) #[true, true, true, false, false, true, false, false, false, false, false, false] rfl rfl (take_ofW HT_.out HW_.out (by kernel_rfl)) (fun _ _ _ h => h) (Or.inl ⟨by rfl, ?_⟩) hHeld ?_ ?_
    rotate_left
    ·rintro w' ⟨s0, s1, s2, s3, s4⟩
     go_simp
     with_reducible rfl
    rotate_left
    ·simp only [Act.put, lS, lZ, lU, i64_w, i32_w]
     rfl
    refine take_ (i := 3) (N := some 47) (v := ?_) (a' := ?_) #[true, true, true, true, false, true, false, false, false, false, false, false] rfl rfl (take_ofW HT_.out HW_.out (by kernel_rfl)) (fun _ _ _ h => h) (Or.inl ⟨by rfl, ?_⟩) hHeld ?_ ?_
    rotate_left
    ·rintro w' ⟨s0, s1, s2, s3, s4⟩
     go_simp
     with_reducible rfl
    rotate_left
    ·simp only [Act.put, lS, lZ, lU, i64_w, i32_w]
     rfl
    refine take_ (i := 6) (N := some 50) (v := ?_) (a' := ?_) #[true, true, true, true, false, true, true, false, false, false, false, false] rfl rfl (take_ofW HT_.out HW_.out (by kernel_rfl)) (fun _ _ _ h => h) (Or.inl ⟨by rfl, ?_⟩) hHeld ?_ ?_
    rotate_left
    ·rintro w' ⟨s0, s1, s2, s3, s4⟩
     go_simp
     with_reducible rfl
    rotate_left
    ·simp only [Act.put, lS, lZ, lU, i64_w, i32_w]
     rfl
    refine join_ (σ := Value × Value) 4 #[true, true, true, true, true, true, true, true, false, false, false, false] (fun s_ => [(48, s_.1), (51, s_.2)]) (fun s_ w' => (w'.cell? ⟨gb312, 0, none⟩ = some (.int .i64 a0_0) ∧ w'.cell? ⟨gb312, 1, none⟩ = some (.slice A0_1 l0_1.length c0_1) ∧ w'.cell? ⟨gb316, 0, none⟩ = some (.int .i64 a2) ∧ w'.cell? ⟨gb316, 1, none⟩ = some (.int .i64 t314) ∧ w'.cell? ⟨gb316, 2, none⟩ = some (.int .i64 (-1))) ∧ (Kd.R k48 48 w' w.heap.size (fun k_ => some k_ ≠ (s_.2 : Value).ownBlock ∧ k_ ≠ gb316) s_.1 t321) ∧ (Kd.R k48 48 w' w.heap.size (fun k_ => some k_ ≠ (s_.1 : Value).ownBlock ∧ k_ ≠ gb316) s_.2 y324) ∧ (w'.heap[gb312]? = some (.cells #[.int .i64 a0_0, .slice A0_1 l0_1.length c0_1] 41 (0, 0))) ∧ (w'.heap[gb313]? = some (.cells #[.int .i64 0, .slice none 0 0] 41 (0, 0))) ∧ (w'.heap[gb316]? = some (.cells #[.int .i64 a2, .int .i64 t314, .int .i64 (-1)] 48 (0, 0))) ∧ (Below w.heap.size w w')) ?_ ?_
    rotate_left
    ·intro hCont
     refine two_ (i := 4) (j := 7) (Ni := some 48) (Nj := some 51) #[true, true, true, true, true, true, true, false, false, false, false, false] #[true, true, true, true, false, true, true, true, false, false, false, false] rfl rfl rfl rfl (two_of HT_.out (by kernel_rfl)) (by decide) (by decide) (fun K hK => ?_) (fun K hK => ?_)
     ·skip
      refine goes_ Try.func58 (by kernel_rfl) rfl #[.slice A0_1 l0_1.length c0_1] (by rfl) rfl rfl (by (try simp only [lM, lC, lN]); first | done | rfl | (simp only [lD, lT]; rfl)) ?_
      with_reducible refine (api_Live_58.calls _ _ l0_1 t321 _ ?side1 ?side2 A36.out).mono ?_
      (case side1 => repeat (first|exact (cB HR0_1.out HB.out)|(with_reducible refine cA ?_ _)|(with_reducible refine cN ?_ _)|(with_reducible refine cD ?_)))
      (case side2 => exact HC0_1.out)
      rintro e w43 ⟨v322, rfl, ho0, hb⟩
      refine ⟨_, rfl, ?_⟩
      have n0_ := aM (Kd.R_lower (Kd.R_newB ho0 (g := gb316) (o := .cells #[.int .i64 a2, .int .i64 t314, .int .i64 (-1)] 48 (0, 0)) (by (with_reducible repeat (first | refine bN ?_ _ | refine bD ?_ | refine bA ?_ _)); exact BK316.out)) (wZ (by repeat (first | (with_reducible first | exact HB.out | apply wA | apply wN_ | apply wD | refine wS ?_ GE312.out | refine wS ?_ GE313.out | refine wS ?_ GE316.out) | exact HB.out))))
      have n1_ := aM (bB (g := gb312) (o := .cells #[.int .i64 a0_0, .slice A0_1 l0_1.length c0_1] 41 (0, 0)) (by (with_reducible repeat (first | refine bN ?_ _ | refine bD ?_ | refine bA ?_ _)); exact BK312.out) hb)
      have n2_ := aM (bB (g := gb313) (o := .cells #[.int .i64 0, .slice none 0 0] 41 (0, 0)) (by (with_reducible repeat (first | refine bN ?_ _ | refine bD ?_ | refine bA ?_ _)); exact BK313.out) hb)
      have n3_ := aM (bB (g := gb316) (o := .cells #[.int .i64 a2, .int .i64 t314, .int .i64 (-1)] 48 (0, 0)) (by (with_reducible repeat (first | refine bN ?_ _ | refine bD ?_ | refine bA ?_ _)); exact BK316.out) hb)
      have n4_ := aM (wT (by repeat (first | (with_reducible first | exact HB.out | apply wA | apply wN_ | apply wD | refine wS ?_ GE312.out | refine wS ?_ GE313.out | refine wS ?_ GE316.out) | exact HB.out)) hb)
      clear BK312
      clear BK313
      clear BK316
      clear HB
      have HO323 := n0_
      have BK312 := n1_
      have BK313 := n2_
      have BK316 := n3_
      have HB := n4_
      clear n0_ n1_ n2_ n3_ n4_
      (try clear hb)
      (try clear hb2)
      (try clear hk)
      (try clear hi)
      (try clear ho0)
      refine hK.out _ _ ⟨(bC BK312.out 0).trans rfl, (bC BK312.out 1).trans rfl, (bC BK316.out 0).trans rfl, (bC BK316.out 1).trans rfl, (bC BK316.out 2).trans rfl⟩ (fun hHeld => ?_)
      clear hK K
      refine norm_ (a' := ?_) ?_ ?_
      rotate_left
      ·show Act.put _ (some 48) _ = _
       simp only [Act.put, lS, lZ, lU, i64_w, i32_w]
       rfl
      refine one_ (i := 7) (N := some 51) #[true, true, true, true, true, true, true, true, false, false, false, false] rfl rfl (one_of HT_.out (by kernel_rfl)) (by decide) (fun K hK => ?_)
      refine Kd.R_lit_step k48 _ 48 ?hg (N:=51) ?hd (xs:=([(⟨a2,t314,(-1)⟩ : S48)] : List (S48))) (inner:=[.int .i64 a2,.int .i64 t314,.int .i64 (-1)]) (ok:=fun _ => True) (okp:=fun _ => True) ?hr ?hp (fun _ hk => hk) trivial (Below.refl _ _) (Nat.le_refl _) (by simp) ?_;(case hd => rfl);(case hg => rfl);(case hr => first|(go_simp;done)|(go_simp;rfl));(case hp => exact (Reps.c3 (show Kd.M k48 _ _ _ (⟨a2,t314,(-1)⟩ : S48) [.int .i64 a2,.int .i64 t314,.int .i64 (-1)] from (k48_mkM _ _ _ (⟨a2,t314,(-1)⟩ : S48) )) (Reps.none _ _)))
      intro v325 w44 ho45 hb hg_ hnew_
      clear hg_ hnew_
      (first | rw [← Ny324.out] at ho45 | (simp only [Int.reduceToNat] at ho45; rw [← Ny324.out] at ho45))
      have n0_ := aM (Kd.R_elder' (by (with_reducible repeat (first | apply rA | apply rN | apply rD)); exact HO323.out) (Kd.R_base ho45) hb)
      have n1_ := aM (Kd.R_lower (Kd.R_newB (Kd.R_new' ho45 (Kd.R_lt (by (with_reducible repeat (first | apply rA | apply rN | apply rD)); exact HO323.out))) (g := gb316) (o := .cells #[.int .i64 a2, .int .i64 t314, .int .i64 (-1)] 48 (0, 0)) (by (with_reducible repeat (first | refine bN ?_ _ | refine bD ?_ | refine bA ?_ _)); exact BK316.out)) (wZ (by repeat (first | (with_reducible first | exact HB.out | apply wA | apply wN_ | apply wD | refine wS ?_ GE312.out | refine wS ?_ GE313.out | refine wS ?_ GE316.out) | exact HB.out))))
      have n2_ := aM (bB (g := gb312) (o := .cells #[.int .i64 a0_0, .slice A0_1 l0_1.length c0_1] 41 (0, 0)) (by (with_reducible repeat (first | refine bN ?_ _ | refine bD ?_ | refine bA ?_ _)); exact BK312.out) hb)
      have n3_ := aM (bB (g := gb313) (o := .cells #[.int .i64 0, .slice none 0 0] 41 (0, 0)) (by (with_reducible repeat (first | refine bN ?_ _ | refine bD ?_ | refine bA ?_ _)); exact BK313.out) hb)
      have n4_ := aM (bB (g := gb316) (o := .cells #[.int .i64 a2, .int .i64 t314, .int .i64 (-1)] 48 (0, 0)) (by (with_reducible repeat (first | refine bN ?_ _ | refine bD ?_ | refine bA ?_ _)); exact BK316.out) hb)
      have n5_ := aM (wT (by repeat (first | (with_reducible first | exact HB.out | apply wA | apply wN_ | apply wD | refine wS ?_ GE312.out | refine wS ?_ GE313.out | refine wS ?_ GE316.out) | exact HB.out)) hb)
      clear HO323
      clear BK312
      clear BK313
      clear BK316
      clear HB
      have HO323 := n0_
      have HO326 := n1_
      have BK312 := n2_
      have BK313 := n3_
      have BK316 := n4_
      have HB := n5_
      clear n0_ n1_ n2_ n3_ n4_ n5_
      clear hb ho45
      refine hK.out _ _ ⟨(bC BK312.out 0).trans rfl, (bC BK312.out 1).trans rfl, (bC BK316.out 0).trans rfl, (bC BK316.out 1).trans rfl, (bC BK316.out 2).trans rfl⟩ (fun hHeld => ?_)
      clear hK K
      refine norm_ (a' := ?_) ?_ ?_
      rotate_left
      ·show Act.put _ (some 51) _ = _
       simp only [Act.put, lS, lZ, lU, i64_w, i32_w]
       rfl
      exact norm_ (by simp only [putAll, Act.put, lS, lZ, lU]) (hCont (v322, v325) _ ⟨hHeld, (by (with_reducible repeat (first | apply rA | apply rN | apply rD)); exact rM HO323.out (fun _ hk => ⟨hk.2, hk.1.2⟩)), (by (with_reducible repeat (first | apply rA | apply rN | apply rD)); exact rM HO326.out (fun _ hk => ⟨hk.1.2, hk.2⟩)), (by (with_reducible repeat (first | refine bN ?_ _ | refine bD ?_ | refine bA ?_ _)); exact BK312.out), (by (with_reducible repeat (first | refine bN ?_ _ | refine bD ?_ | refine bA ?_ _)); exact BK313.out), (by (with_reducible repeat (first | refine bN ?_ _ | refine bD ?_ | refine bA ?_ _)); exact BK316.out), (by repeat (first | (with_reducible first | exact HB.out | apply wA | apply wN_ | apply wD | refine wS ?_ GE312.out | refine wS ?_ GE313.out | refine wS ?_ GE316.out) | exact HB.out))⟩)
     ·skip
      refine Kd.R_lit_step k48 _ 48 ?hg (N:=51) ?hd (xs:=([(⟨a2,t314,(-1)⟩ : S48)] : List (S48))) (inner:=[.int .i64 a2,.int .i64 t314,.int .i64 (-1)]) (ok:=fun _ => True) (okp:=fun _ => True) ?hr ?hp (fun _ hk => hk) trivial (Below.refl _ _) (Nat.le_refl _) (by simp) ?_;(case hd => rfl);(case hg => rfl);(case hr => first|(go_simp;done)|(go_simp;rfl));(case hp => exact (Reps.c3 (show Kd.M k48 _ _ _ (⟨a2,t314,(-1)⟩ : S48) [.int .i64 a2,.int .i64 t314,.int .i64 (-1)] from (k48_mkM _ _ _ (⟨a2,t314,(-1)⟩ : S48) )) (Reps.none _ _)))
      intro v325 w43 ho44 hb hg_ hnew_
      clear hg_ hnew_
      (first | rw [← Ny324.out] at ho44 | (simp only [Int.reduceToNat] at ho44; rw [← Ny324.out] at ho44))
      have n0_ := aM (Kd.R_lower (Kd.R_newB ho44 (g := gb316) (o := .cells #[.int .i64 a2, .int .i64 t314, .int .i64 (-1)] 48 (0, 0)) (by (with_reducible repeat (first | refine bN ?_ _ | refine bD ?_ | refine bA ?_ _)); exact BK316.out)) (wZ (by repeat (first | (with_reducible first | exact HB.out | apply wA | apply wN_ | apply wD | refine wS ?_ GE312.out | refine wS ?_ GE313.out | refine wS ?_ GE316.out) | exact HB.out))))
      have n1_ := aM (bB (g := gb312) (o := .cells #[.int .i64 a0_0, .slice A0_1 l0_1.length c0_1] 41 (0, 0)) (by (with_reducible repeat (first | refine bN ?_ _ | refine bD ?_ | refine bA ?_ _)); exact BK312.out) hb)
      have n2_ := aM (bB (g := gb313) (o := .cells #[.int .i64 0, .slice none 0 0] 41 (0, 0)) (by (with_reducible repeat (first | refine bN ?_ _ | refine bD ?_ | refine bA ?_ _)); exact BK313.out) hb)
      have n3_ := aM (bB (g := gb316) (o := .cells #[.int .i64 a2, .int .i64 t314, .int .i64 (-1)] 48 (0, 0)) (by (with_reducible repeat (first | refine bN ?_ _ | refine bD ?_ | refine bA ?_ _)); exact BK316.out) hb)
      have n4_ := aM (wT (by repeat (first | (with_reducible first | exact HB.out | apply wA | apply wN_ | apply wD | refine wS ?_ GE312.out | refine wS ?_ GE313.out | refine wS ?_ GE316.out) | exact HB.out)) hb)
      clear BK312
      clear BK313
      clear BK316
      clear HB
      have HO326 := n0_
      have BK312 := n1_
      have BK313 := n2_
      have BK316 := n3_
      have HB := n4_
      clear n0_ n1_ n2_ n3_ n4_
      clear hb ho44
      refine hK.out _ _ ⟨(bC BK312.out 0).trans rfl, (bC BK312.out 1).trans rfl, (bC BK316.out 0).trans rfl, (bC BK316.out 1).trans rfl, (bC BK316.out 2).trans rfl⟩ (fun hHeld => ?_)
      clear hK K
      refine norm_ (a' := ?_) ?_ ?_
      rotate_left
      ·show Act.put _ (some 51) _ = _
       simp only [Act.put, lS, lZ, lU, i64_w, i32_w]
       rfl
      refine one_ (i := 4) (N := some 48) #[true, true, true, true, true, true, true, true, false, false, false, false] rfl rfl (one_of HT_.out (by kernel_rfl)) (by decide) (fun K hK => ?_)
      refine goes_ Try.func58 (by kernel_rfl) rfl #[.slice A0_1 l0_1.length c0_1] (by rfl) rfl rfl (by (try simp only [lM, lC, lN]); first | done | rfl | (simp only [lD, lT]; rfl)) ?_
      with_reducible refine (api_Live_58.calls _ _ l0_1 t321 _ ?side1 ?side2 A36.out).mono ?_
      (case side1 => repeat (first|exact (cB HR0_1.out HB.out)|(with_reducible refine cA ?_ _)|(with_reducible refine cN ?_ _)|(with_reducible refine cD ?_)))
      (case side2 => exact HC0_1.out)
      rintro e w45 ⟨v322, rfl, ho0, hb⟩
      refine ⟨_, rfl, ?_⟩
      have n0_ := aM (Kd.R_elder' (by (with_reducible repeat (first | apply rA | apply rN | apply rD)); exact HO326.out) (Kd.R_base ho0) hb)
      have n1_ := aM (Kd.R_lower (Kd.R_newB (Kd.R_new' ho0 (Kd.R_lt (by (with_reducible repeat (first | apply rA | apply rN | apply rD)); exact HO326.out))) (g := gb316) (o := .cells #[.int .i64 a2, .int .i64 t314, .int .i64 (-1)] 48 (0, 0)) (by (with_reducible repeat (first | refine bN ?_ _ | refine bD ?_ | refine bA ?_ _)); exact BK316.out)) (wZ (by repeat (first | (with_reducible first | exact HB.out | apply wA | apply wN_ | apply wD | refine wS ?_ GE312.out | refine wS ?_ GE313.out | refine wS ?_ GE316.out) | exact HB.out))))
      have n2_ := aM (bB (g := gb312) (o := .cells #[.int .i64 a0_0, .slice A0_1 l0_1.length c0_1] 41 (0, 0)) (by (with_reducible repeat (first | refine bN ?_ _ | refine bD ?_ | refine bA ?_ _)); exact BK312.out) hb)
      have n3_ := aM (bB (g := gb313) (o := .cells #[.int .i64 0, .slice none 0 0] 41 (0, 0)) (by (with_reducible repeat (first | refine bN ?_ _ | refine bD ?_ | refine bA ?_ _)); exact BK313.out) hb)
      have n4_ := aM (bB (g := gb316) (o := .cells #[.int .i64 a2, .int .i64 t314, .int .i64 (-1)] 48 (0, 0)) (by (with_reducible repeat (first | refine bN ?_ _ | refine bD ?_ | refine bA ?_ _)); exact BK316.out) hb)
      have n5_ := aM (wT (by repeat (first | (with_reducible first | exact HB.out | apply wA | apply wN_ | apply wD | refine wS ?_ GE312.out | refine wS ?_ GE313.out | refine wS ?_ GE316.out) | exact HB.out)) hb)
      clear HO326
      clear BK312
      clear BK313
      clear BK316
      clear HB
      have HO326 := n0_
      have HO323 := n1_
      have BK312 := n2_
      have BK313 := n3_
      have BK316 := n4_
      have HB := n5_
      clear n0_ n1_ n2_ n3_ n4_ n5_
      (try clear hb)
      (try clear hb2)
      (try clear hk)
      (try clear hi)
      (try clear ho0)
      refine hK.out _ _ ⟨(bC BK312.out 0).trans rfl, (bC BK312.out 1).trans rfl, (bC BK316.out 0).trans rfl, (bC BK316.out 1).trans rfl, (bC BK316.out 2).trans rfl⟩ (fun hHeld => ?_)
      clear hK K
      refine norm_ (a' := ?_) ?_ ?_
      rotate_left
      ·show Act.put _ (some 48) _ = _
       simp only [Act.put, lS, lZ, lU, i64_w, i32_w]
       rfl
      exact norm_ (by simp only [putAll, Act.put, lS, lZ, lU]) (hCont (v322, v325) _ ⟨hHeld, (by (with_reducible repeat (first | apply rA | apply rN | apply rD)); exact rM HO323.out (fun _ hk => ⟨hk.1.2, hk.2⟩)), (by (with_reducible repeat (first | apply rA | apply rN | apply rD)); exact rM HO326.out (fun _ hk => ⟨hk.2, hk.1.2⟩)), (by (with_reducible repeat (first | refine bN ?_ _ | refine bD ?_ | refine bA ?_ _)); exact BK312.out), (by (with_reducible repeat (first | refine bN ?_ _ | refine bD ?_ | refine bA ?_ _)); exact BK313.out), (by (with_reducible repeat (first | refine bN ?_ _ | refine bD ?_ | refine bA ?_ _)); exact BK316.out), (by repeat (first | (with_reducible first | exact HB.out | apply wA | apply wN_ | apply wD | refine wS ?_ GE312.out | refine wS ?_ GE313.out | refine wS ?_ GE316.out) | exact HB.out))⟩)
    rintro ⟨v322, v325⟩ w46 ⟨hS_, h0_, h1_, h2_, h3_, h4_, h5_⟩
    have n0_ : Aside0 (Kd.R k48 48 w46 w.heap.size (fun k_ => some k_ ≠ (v325 : Value).ownBlock ∧ k_ ≠ gb316) v322 t321) := ⟨h0_⟩
    have n1_ : Aside0 (Kd.R k48 48 w46 w.heap.size (fun k_ => some k_ ≠ (v322 : Value).ownBlock ∧ k_ ≠ gb316) v325 y324) := ⟨h1_⟩
    have n2_ : Aside0 (w46.heap[gb312]? = some (.cells #[.int .i64 a0_0, .slice A0_1 l0_1.length c0_1] 41 (0, 0))) := ⟨h2_⟩
    have n3_ : Aside0 (w46.heap[gb313]? = some (.cells #[.int .i64 0, .slice none 0 0] 41 (0, 0))) := ⟨h3_⟩
    have n4_ : Aside0 (w46.heap[gb316]? = some (.cells #[.int .i64 a2, .int .i64 t314, .int .i64 (-1)] 48 (0, 0))) := ⟨h4_⟩
    have n5_ : Aside0 (Below w.heap.size w w46) := ⟨h5_⟩
    clear BK312
    clear BK313
    clear BK316
    clear HB
    clear h0_ h1_ h2_ h3_ h4_ h5_
    have HO323 := n0_
    have HO326 := n1_
    have BK312 := n2_
    have BK313 := n3_
    have BK316 := n4_
    have HB := n5_
    clear n0_ n1_ n2_ n3_ n4_ n5_
    have hHeld : w46.cell? ⟨gb312, 0, none⟩ = some (.int .i64 a0_0) ∧ w46.cell? ⟨gb312, 1, none⟩ = some (.slice A0_1 l0_1.length c0_1) ∧ w46.cell? ⟨gb316, 0, none⟩ = some (.int .i64 a2) ∧ w46.cell? ⟨gb316, 1, none⟩ = some (.int .i64 t314) ∧ w46.cell? ⟨gb316, 2, none⟩ = some (.int .i64 (-1)) := hS_
    obtain ⟨Ao47, co47, eo47⟩ := Kd.R_slice HO323.out
    (first | subst eo47 | (injection eo47 with f1_ f2_ f3_; have f4_ := f1_.symm; have f5_ := f3_.symm; clear f1_ f2_ f3_; subst f4_; subst f5_))
    obtain ⟨Ao48, co48, eo48⟩ := Kd.R_slice HO326.out
    (first | subst eo48 | (injection eo48 with f1_ f2_ f3_; have f4_ := f1_.symm; have f5_ := f3_.symm; clear f1_ f2_ f3_; subst f4_; subst f5_))
    refine norm_ (a' := ?_) ?_ ?_
    rotate_left
    ·simp only [putAll, Act.put, lS, lZ, lU]
     rfl
    refine one_ (i := 8) (N := some 52) #[true, true, true, true, true, true, true, true, true, false, false, false] rfl rfl (one_of HT_.out (by kernel_rfl)) (by decide) (fun K hK => ?_)
    refine goes_ Try.func57 (by kernel_rfl) rfl #[.slice Ao47 t321.length co47, .int .i64 t319, .slice Ao48 y324.length co48] (by rfl) rfl rfl (by (try simp only [lM, lC, lN]); first | done | rfl | (simp only [lD, lT]; rfl)) ?_
    with_reducible refine (api_Live_57.calls (fun k_ => some k_ = (.slice Ao47 t321.length co47 : Value).ownBlock) (.slice Ao47 t321.length co47) t321 t319 (fun k_ => some k_ = (.slice Ao48 y324.length co48 : Value).ownBlock) (.slice Ao48 y324.length co48) y324 t327 w _ ?side1 ?side2 ?side3 ?side4 ?side5 A37.out).mono ?_
    (case side1 => repeat (first|(with_reducible first|exact HB.out|apply wA|apply wN_|apply wD|refine wS ?_ GE312.out|refine wS ?_ GE313.out|refine wS ?_ GE316.out)|exact HB.out))
    (case side2 => exact Kd.R_tight rfl HO323.out)
    (case side3 => exact fun k_ e_ => (HO323.out.1 k_ e_.symm).1)
    (case side4 => exact Kd.R_tight rfl HO326.out)
    (case side5 => exact fun k_ e_ => (HO326.out.1 k_ e_.symm).1)
    rintro e w49 ⟨v328, rfl, ho0, hb, hkp⟩
    refine ⟨_, rfl, ?_⟩
    have n0_ := aM (blk_kept (by (with_reducible repeat (first | refine bN ?_ _ | refine bD ?_ | refine bA ?_ _)); exact BK312.out) hkp (fun hs_ => Or.elim hs_ (fun e_ => (fun e_ => (Kd.R_ne HO323.out BK312.out (by decide)) e_) e_) (fun e_ => (fun e_ => (Kd.R_ne HO326.out BK312.out (by decide)) e_) e_)))
    have n1_ := aM (blk_kept (by (with_reducible repeat (first | refine bN ?_ _ | refine bD ?_ | refine bA ?_ _)); exact BK313.out) hkp (fun hs_ => Or.elim hs_ (fun e_ => (fun e_ => (Kd.R_ne HO323.out BK313.out (by decide)) e_) e_) (fun e_ => (fun e_ => (Kd.R_ne HO326.out BK313.out (by decide)) e_) e_)))
    have n2_ := aM (blk_kept (by (with_reducible repeat (first | refine bN ?_ _ | refine bD ?_ | refine bA ?_ _)); exact BK316.out) hkp (fun hs_ => Or.elim hs_ (fun e_ => (fun e_ => (Kd.R_away HO323.out (fun _ hk => hk.2)) e_) e_) (fun e_ => (fun e_ => (Kd.R_away HO326.out (fun _ hk => hk.2)) e_) e_)))
    have n3_ := aM (rM (ok' := fun k_ => k_ ≠ gb316) ho0 (fun k_ hk_ => Or.elim hk_ (fun hs_ => Or.elim hs_ (fun hs_ => fun e_ => (Kd.R_away HO323.out (fun _ hk => hk.2)) (by rw [← e_]; exact hs_)) (fun hs_ => fun e_ => (Kd.R_away HO326.out (fun _ hk => hk.2)) (by rw [← e_]; exact hs_))) (fun hn_ => (Kd.freshB (g := gb316) (o := .cells #[.int .i64 a2, .int .i64 t314, .int .i64 (-1)] 48 (0, 0)) (by (with_reducible repeat (first | refine bN ?_ _ | refine bD ?_ | refine bA ?_ _)); exact BK316.out) k_ hn_))))
    have n4_ := aM (hb)
    clear BK312
    clear BK313
    clear BK316
    clear HB
    clear HO323
    clear HO326
    have BK312 := n0_
    have BK313 := n1_
    have BK316 := n2_
    have HO329 := n3_
    have HB := n4_
    clear n0_ n1_ n2_ n3_ n4_
    (try clear hb)
    (try clear hkp)
    (try clear ho0)
    obtain ⟨Ao50, co50, eo50⟩ := Kd.R_slice HO329.out
    (first | subst eo50 | (injection eo50 with f1_ f2_ f3_; have f4_ := f1_.symm; have f5_ := f3_.symm; clear f1_ f2_ f3_; subst f4_; subst f5_))
    refine hK.out _ _ ⟨(bC BK312.out 0).trans rfl, (bC BK312.out 1).trans rfl, (bC BK316.out 0).trans rfl, (bC BK316.out 1).trans rfl, (bC BK316.out 2).trans rfl⟩ (fun hHeld => ?_)
    clear hK K
    refine norm_ (a' := ?_) ?_ ?_
    rotate_left
    ·show Act.put _ (some 52) _ = _
     simp only [Act.put, lS, lZ, lU, i64_w, i32_w]
     rfl
    refine pure_ (i := 9) (N := some 53) (v := ?_) (a' := ?_) #[true, true, true, true, true, true, true, true, true, true, false, false] rfl rfl (any_of HT_.out (by kernel_rfl)) (fun _ _ _ h => h) (Or.inl ⟨by rfl, ?_⟩) ?_ ?_
    rotate_left
    ·intro w'
     go_simp
     with_reducible rfl
    rotate_left
    ·simp only [Act.put, lS, lZ, lU, i64_w, i32_w]
     rfl
    refine one_ (i := 10) (N := none) #[true, true, true, true, true, true, true, true, true, true, true, false] rfl rfl (one_of HT_.out (by kernel_rfl)) (by decide) (fun K hK => ?_)
    have hs51 : w49.cell? ⟨gb313, 0, none⟩ = some (.int .i64 0) := (bC BK313.out 0).trans rfl
    have hfs51 := bF BK313.out 0
    have hns51_0 := NB312_313.out
    have hns51_2 := NB316_313.out
    have hms51_0 := NB313_312.out
    have hms51_2 := NB313_316.out
    have hs52 : w49.cell? ⟨gb313, 1, none⟩ = some (.slice none 0 0) := (bC BK313.out 1).trans rfl
    have hfs52 := bF BK313.out 1
    have hns52_0 := NB312_313.out
    have hns52_2 := NB316_313.out
    have hms52_0 := NB313_312.out
    have hms52_2 := NB313_316.out
    refine skip_ (w1 := ?_) (by rfl) rfl ?_ ?_
    rotate_left
    ·go_simp
     rfl
    refine hK.out _ _ ⟨((cell_far (p := ⟨gb313, _, none⟩) NB312_313.out _).trans (((cell_far (p := ⟨gb313, _, none⟩) NB312_313.out _).trans (hHeld.1)))), ((cell_far (p := ⟨gb313, _, none⟩) NB312_313.out _).trans (((cell_far (p := ⟨gb313, _, none⟩) NB312_313.out _).trans (hHeld.2.1)))), ((cell_far (p := ⟨gb313, _, none⟩) NB316_313.out _).trans (((cell_far (p := ⟨gb313, _, none⟩) NB316_313.out _).trans (hHeld.2.2.1)))), ((cell_far (p := ⟨gb313, _, none⟩) NB316_313.out _).trans (((cell_far (p := ⟨gb313, _, none⟩) NB316_313.out _).trans (hHeld.2.2.2.1)))), ((cell_far (p := ⟨gb313, _, none⟩) NB316_313.out _).trans (((cell_far (p := ⟨gb313, _, none⟩) NB316_313.out _).trans (hHeld.2.2.2.2))))⟩ (fun hHeld => ?_)
    clear hK K
    refine pure_ (i := 11) (N := some 7) (v := ?_) (a' := ?_) #[true, true, true, true, true, true, true, true, true, true, true, true] rfl rfl (any_of HT_.out (by kernel_rfl)) (fun _ _ _ h => h) (Or.inl ⟨by rfl, ?_⟩) ?_ ?_
    rotate_left
    ·intro w'
     go_simp
     with_reducible rfl
    rotate_left
    ·simp only [Act.put, lS, lZ, lU, i64_w, i32_w]
     rfl
    refine done_ (done_of HT_.out (by kernel_rfl)) ?_
    try go_wp2
    refine bodyPost_ret (results_ct rfl _ _ gb313 41 #[.int .i64 a0_0, .slice Ao50 t327.length co50] (0, 0) _ rfl (by (with_reducible repeat (first | refine bN ?_ _ | refine bD ?_ | refine bA ?_ _)); refine bP (cs := #[.int .i64 a0_0, .slice none 0 0]) ?_ 1 _ rfl; (with_reducible repeat (first | refine bN ?_ _ | refine bD ?_ | refine bA ?_ _)); refine bP (cs := #[.int .i64 0, .slice none 0 0]) ?_ 0 _ rfl; (with_reducible repeat (first | refine bN ?_ _ | refine bD ?_ | refine bA ?_ _)); exact BK313.out) Try.underlying41 rfl (by kernel_rfl)) rfl ?_
    exact ⟨_, by first | rfl | (simp [errW_none, errW_some] <;> rfl) | (simp [*, errW_none, errW_some] <;> rfl), by (with_reducible repeat (first | apply rA | apply rN | apply rD)); exact rM (rF_ (p := ⟨gb313, 1, none⟩) (rF_ (p := ⟨gb313, 0, none⟩) (Kd.R_types HO329.out BK313.out (by decide)) (fun _ hk => hk.2) (.int .i64 a0_0)) (fun _ hk => hk.2) (.slice Ao50 t327.length co50)) (fun _ hk => trivial), by repeat (first | (with_reducible first | exact HB.out | apply wA | apply wN_ | apply wD | refine wS ?_ GE312.out | refine wS ?_ GE313.out | refine wS ?_ GE316.out) | exact HB.out)⟩

/-! ### model_New: function 36 -/
def model_New.f (a0 : Int) : Option (Int × (List (S48))) := some (a0, ([] : List (S48)))
set_option maxHeartbeats 8000000 in
set_option maxRecDepth 100000 in
theorem model_New.calls (a0 : Int) (r1 : Int) (r2 : List (S48)) (w : World) (h : model_New.f a0 = some (r1, r2)) :
  Calls Try.prog 36 #[.int .i64 a0] w fun e w' => ∃ v1_ : Value, e = .returned (.agg #[.int .i64 r1, v1_]) ∧ Kd.R k48 48 w' w.heap.size (fun _ => True) v1_ r2 ∧ Below w.heap.size w w' := by
 have hu41 := Try.underlying41
 have HB := aM (Below.refl w.heap.size w)
 have H : (some (a0, ([] : List (S48)))) = some (r1, r2) := h
 clear h
 simp only [Option.some.injEq, Prod.mk.injEq] at H
 obtain ⟨rfl, rfl⟩ := H
 go_enter Try.func36, Try.ntmps36
 go_wp2_with (first|((with_reducible refine gate_dst (N:=2) rfl ?_);refine box_event ?hg (N:=2) ?hd (cs:=#[.int .i64 0,.slice none 0 0]) (t:=41) ?hr ?_;(case hd => rfl);(case hg => rfl);(case hr => first|(go_simp;done)|(go_simp;rfl));intro gb330 hg w2 hbox hb;have n0_:=aM (wT (by repeat (first|(with_reducible first|exact HB.out|apply wA|apply wN_|apply wD)|exact HB.out)) hb);have n1_:=aM (hbox);have n2_:=aM ((by rw [hg];exact (wZ (by repeat (first|(with_reducible first|exact HB.out|apply wA|apply wN_|apply wD)|exact HB.out))) : w.heap.size ≤ gb330));have n3_:=aM ((by rw [hg];exact (wZ (by repeat (first|(with_reducible first|exact HB.out|apply wA|apply wN_|apply wD)|exact HB.out))) : w.heap.size ≤ gb330));clear HB;have HB:=n0_;have BK330:=n1_;have GW330:=n2_;have GE330:=n3_;clear n0_ n1_ n2_ n3_;clear hb hbox hg;have hcz3_0 : w2.cell? ⟨gb330,0,none⟩ = some (.int .i64 0):=(bC BK330.out 0).trans rfl;have hcz3_1 : w2.cell? ⟨gb330,1,none⟩ = some (.slice none 0 0):=(bC BK330.out 1).trans rfl;have hfz3_0:=bF BK330.out 0;have hfz3_1:=bF BK330.out 1))
 refine bodyPost_ret (results_cell_row rfl _ _ gb330 41 #[.int .i64 a0, .slice none 0 0] (0, 0) _ rfl (by (with_reducible repeat (first | refine bN ?_ _ | refine bD ?_ | refine bA ?_ _)); refine bP (cs := #[.int .i64 a0, .slice none 0 0]) ?_ 1 _ rfl; (with_reducible repeat (first | refine bN ?_ _ | refine bD ?_ | refine bA ?_ _)); refine bP (cs := #[.int .i64 0, .slice none 0 0]) ?_ 0 _ rfl; (with_reducible repeat (first | refine bN ?_ _ | refine bD ?_ | refine bA ?_ _)); exact BK330.out) Try.underlying41 rfl (by kernel_rfl)) rfl ?_
 exact ⟨_, by first | rfl | (simp [errW_none, errW_some] <;> rfl) | (simp [*, errW_none, errW_some] <;> rfl), by first | exact Kd.R_nil _ _ _ _ _ | exact Kd.N_nil _ _ _ _ _ | exact Kd.V_nil _ _ _ _ _ | exact Kd.Q_nil _ _ _ _ _ | exact Kd.S_nil _ _ _ _ _, by repeat (first | (with_reducible first | exact HB.out | apply wA | apply wN_ | apply wD | refine wS ?_ GE330.out) | exact HB.out)⟩

/-! ### rickyardlaw13_awake: function 22 -/
def rickyardlaw13_awake.f (k : Nat)  : Option (Bool) := (model_New.f 64).bind fun bt331 => ((model_Alloc.f k bt331.1 bt331.2 32 0).bind fun bt335 => ((model_Alloc.f k bt335.1 bt335.2.1 32 32).bind fun bt341 => ((model_Alloc.f k bt341.1 bt341.2.1 1 0).bind fun bt347 => (if bt335.2.2 = true then (if bt341.2.2 = true then (if bt347.2.2 = true then (some false) else (some ((bt341.2.1.length : Int) == 2))) else (some false)) else (some false)))))
theorem rickyardlaw13_awake.mono : ∀ k, LeO (rickyardlaw13_awake.f k ) (rickyardlaw13_awake.f (k + 1) ) := by
 intro  k
 unfold rickyardlaw13_awake.f
 repeat' first
   | (with_reducible exact model_Alloc.mono _ _ _ _ _)
   | (with_reducible exact LeO.refl _)
   | (with_reducible exact LeO.none _)
   | (with_reducible refine LeO.ite ?_ ?_)
   | (with_reducible refine LeO.bind ?_ (fun _ => ?_))
   | exact model_Alloc.mono _ _ _ _ _
   | exact LeO.none _
   | refine LeO.ite ?_ ?_
   | refine LeO.bind ?_ (fun _ => ?_)
set_option maxHeartbeats 8000000 in
set_option maxRecDepth 100000 in
theorem rickyardlaw13_awake.calls (k : Nat)  (r : Bool) (w : World) (h : rickyardlaw13_awake.f k  = some r) :
  Calls Try.prog 22 #[] w fun e w' => e = .returned (.bool r) ∧ Below w.heap.size w w' := by
 have hu41 := Try.underlying41
 have HB := aM (Below.refl w.heap.size w)
 have H : ((model_New.f 64).bind fun bt331 => ((model_Alloc.f k bt331.1 bt331.2 32 0).bind fun bt335 => ((model_Alloc.f k bt335.1 bt335.2.1 32 32).bind fun bt341 => ((model_Alloc.f k bt341.1 bt341.2.1 1 0).bind fun bt347 => (if bt335.2.2 = true then (if bt341.2.2 = true then (if bt347.2.2 = true then (some false) else (some ((bt341.2.1.length : Int) == 2))) else (some false)) else (some false)))))) = some r := h
 clear h
 replace H := Option.bind_eq_some_iff.mp H
 obtain ⟨⟨t331, t332⟩, A10, H⟩ := H
 replace H : ((model_Alloc.f k t331 t332 32 0).bind fun bt335 => ((model_Alloc.f k bt335.1 bt335.2.1 32 32).bind fun bt341 => ((model_Alloc.f k bt341.1 bt341.2.1 1 0).bind fun bt347 => (if bt335.2.2 = true then (if bt341.2.2 = true then (if bt347.2.2 = true then (some false) else (some ((bt341.2.1.length : Int) == 2))) else (some false)) else (some false))))) = some r := H
 have A1 := aM A10
 clear A10
 replace H := Option.bind_eq_some_iff.mp H
 obtain ⟨⟨t335, t336, t339⟩, A20, H⟩ := H
 replace H : ((model_Alloc.f k t335 t336 32 32).bind fun bt341 => ((model_Alloc.f k bt341.1 bt341.2.1 1 0).bind fun bt347 => (if t339 = true then (if bt341.2.2 = true then (if bt347.2.2 = true then (some false) else (some ((bt341.2.1.length : Int) == 2))) else (some false)) else (some false)))) = some r := H
 have A2 := aM A20
 clear A20
 replace H := Option.bind_eq_some_iff.mp H
 obtain ⟨⟨t341, t342, t345⟩, A30, H⟩ := H
 replace H : ((model_Alloc.f k t341 t342 1 0).bind fun bt347 => (if t339 = true then (if t345 = true then (if bt347.2.2 = true then (some false) else (some ((t342.length : Int) == 2))) else (some false)) else (some false))) = some r := H
 have A3 := aM A30
 clear A30
 replace H := Option.bind_eq_some_iff.mp H
 obtain ⟨⟨t347, t348, t351⟩, A40, H⟩ := H
 replace H : (if t339 = true then (if t345 = true then (if t351 = true then (some false) else (some ((t342.length : Int) == 2))) else (some false)) else (some false)) = some r := H
 have A4 := aM A40
 clear A40
 by_cases c5 : t339 = true
 ·subst c5
  have H1 : (if t345 = true then (if t351 = true then (some false) else (some ((t342.length : Int) == 2))) else (some false)) = some r := by rw [if_pos rfl] at H; exact H
  clear H
  have H := H1
  clear H1
  by_cases c6 : t345 = true
  ·subst c6
   have H1 : (if t351 = true then (some false) else (some ((t342.length : Int) == 2))) = some r := by rw [if_pos rfl] at H; exact H
   clear H
   have H := H1
   clear H1
   by_cases c7 : t351 = true
   ·subst c7
    have H1 : (some false) = some r := by rw [if_pos rfl] at H; exact H
    clear H
    have H := H1
    clear H1
    obtain rfl := Option.some.inj H
    go_enter Try.func22, Try.ntmps22
    go_wp2_with (first|((with_reducible refine gate_callee (f:=36) rfl ?_);refine goesL_ (some 8) rfl rfl Try.func36 (by kernel_rfl) rfl #[.int .i64 64] rfl (by (try simp only [lM,lC,lN]);first|done|rfl|(simp only [lD,lT];rfl)) ?_;(with_reducible refine (model_New.calls 64 t331 t332 _ A1.out).mono ?_);rintro e w8 ⟨v333,rfl,ho0,hb⟩;refine ⟨_,rfl,?_⟩;have n0_:=aM (Kd.R_lower ho0 (wZ (by repeat (first|(with_reducible first|exact HB.out|apply wA|apply wN_|apply wD)|exact HB.out))));have n1_:=aM (wT (by repeat (first|(with_reducible first|exact HB.out|apply wA|apply wN_|apply wD)|exact HB.out)) hb);clear HB;have HO334:=n0_;have HB:=n1_;clear n0_ n1_;(try clear hb);(try clear hb2);(try clear hk);(try clear hi);(try clear ho0);obtain ⟨Ao9,co9,eo9⟩:=Kd.R_slice HO334.out;subst eo9)|((with_reducible refine gate_callee (f:=21) rfl ?_);refine goesL_ (some 9) rfl rfl Try.func21 (by kernel_rfl) rfl #[.agg #[.int .i64 t331,.slice Ao9 t332.length co9],.int .i64 32,.int .i64 0] rfl (by (try simp only [lM,lC,lN]);first|done|rfl|(simp only [lD,lT];rfl)) ?_;(with_reducible refine (model_Alloc.calls k t331 _ _ t332 32 0 t335 t336 true _ ?side1 ?side2 A2.out).mono ?_);(case side1 => repeat (first|exact (Kd.R_reads' HO334.out).2.2|(with_reducible refine cA ?_ _)|(with_reducible refine cN ?_ _)|(with_reducible refine cD ?_)));(case side2 => exact (Kd.R_reads' HO334.out).2.1);rintro e w10 ⟨v337,rfl,ho0,hb⟩;refine ⟨_,rfl,?_⟩;have n0_:=aM (Kd.R_elder' (by (with_reducible repeat (first|apply rA|apply rN|apply rD));exact HO334.out) (Kd.R_base ho0) hb);have n1_:=aM (Kd.R_lower (Kd.R_new' ho0 (Kd.R_lt (by (with_reducible repeat (first|apply rA|apply rN|apply rD));exact HO334.out))) (wZ (by repeat (first|(with_reducible first|exact HB.out|apply wA|apply wN_|apply wD)|exact HB.out))));have n2_:=aM (wT (by repeat (first|(with_reducible first|exact HB.out|apply wA|apply wN_|apply wD)|exact HB.out)) hb);clear HO334;clear HB;have HO334:=n0_;have HO338:=n1_;have HB:=n2_;clear n0_ n1_ n2_;(try clear hb);(try clear hb2);(try clear hk);(try clear hi);(try clear ho0))|((with_reducible refine gate_dst (N:=1) rfl ?_);(try (refine gate_guard (by rfl) ?_;dsimp only));refine box_event ?hg (N:=1) ?hd (cs:=#[.int .i64 0,.slice none 0 0]) (t:=41) ?hr ?_;(case hd => rfl);(case hg => rfl);(case hr => first|(go_simp;done)|(go_simp;rfl));intro gb340 hg w11 hbox hb;have n0_:=aM (rB (by (with_reducible repeat (first|apply rA|apply rN|apply rD));exact HO334.out) hb);have n1_:=aM (rB (by (with_reducible repeat (first|apply rA|apply rN|apply rD));exact HO338.out) hb);have n2_:=aM (wT (by repeat (first|(with_reducible first|exact HB.out|apply wA|apply wN_|apply wD)|exact HB.out)) hb);have n3_:=aM (hbox);have n4_:=aM ((by rw [hg];exact (wZ (by repeat (first|(with_reducible first|exact HB.out|apply wA|apply wN_|apply wD)|exact HB.out))) : w.heap.size ≤ gb340));have n5_:=aM ((by rw [hg];exact (wZ (by repeat (first|(with_reducible first|exact HB.out|apply wA|apply wN_|apply wD)|exact HB.out))) : w.heap.size ≤ gb340));clear HO334;clear HO338;clear HB;have HO334:=n0_;have HO338:=n1_;have HB:=n2_;have BK340:=n3_;have GW340:=n4_;have GE340:=n5_;clear n0_ n1_ n2_ n3_ n4_ n5_;clear hb hbox hg;have hcz12_0 : w11.cell? ⟨gb340,0,none⟩ = some (.int .i64 0):=(bC BK340.out 0).trans rfl;have hcz12_1 : w11.cell? ⟨gb340,1,none⟩ = some (.slice none 0 0):=(bC BK340.out 1).trans rfl;have hfz12_0:=bF BK340.out 0;have hfz12_1:=bF BK340.out 1;obtain ⟨Ao13,co13,eo13⟩:=Kd.R_slice HO338.out;subst eo13)|((with_reducible refine gate_callee (f:=21) rfl ?_);refine goesL_ (some 14) rfl rfl Try.func21 (by kernel_rfl) rfl #[.agg #[.int .i64 t335,.slice Ao13 t336.length co13],.int .i64 32,.int .i64 32] rfl (by (try simp only [lM,lC,lN]);first|done|rfl|(simp only [lD,lT];rfl)) ?_;(with_reducible refine (model_Alloc.calls k t335 _ _ t336 32 32 t341 t342 true _ ?side1 ?side2 A3.out).mono ?_);(case side1 => refine (Kd.R_reads' (e:=48) (base:=w.heap.size) (ok:=fun k_ => (True ∧ some k_ ≠ (.slice Ao9 t332.length co9 : Value).ownBlock)) (n:=t336.length) (c:=co13) ?_).2.2;exact (by (with_reducible repeat (first|apply rA|apply rN|apply rD));exact (rM (rF_ (p:=⟨gb340,1,none⟩) (rF_ (p:=⟨gb340,0,none⟩) (Kd.R_types HO338.out BK340.out (by decide)) (fun _ hk => hk.2) (.int .i64 t335)) (fun _ hk => hk.2) (.slice Ao13 t336.length co13)) (fun _ h_ => h_.1))));(case side2 => exact (Kd.R_reads' HO338.out).2.1);rintro e w14 ⟨v343,rfl,ho0,hb⟩;refine ⟨_,rfl,?_⟩;have n0_:=aM (Kd.R_elder' (by (with_reducible repeat (first|apply rA|apply rN|apply rD));exact (rM (rF_ (p:=⟨gb340,1,none⟩) (rF_ (p:=⟨gb340,0,none⟩) (Kd.R_types HO334.out BK340.out (by decide)) (fun _ hk => hk.2) (.int .i64 t335)) (fun _ hk => hk.2) (.slice Ao13 t336.length co13)) (fun _ h_ => h_.1))) (Kd.R_base ho0) hb);have n1_:=aM (Kd.R_elder' (by (with_reducible repeat (first|apply rA|apply rN|apply rD));exact (rM (rF_ (p:=⟨gb340,1,none⟩) (rF_ (p:=⟨gb340,0,none⟩) (Kd.R_types HO338.out BK340.out (by decide)) (fun _ hk => hk.2) (.int .i64 t335)) (fun _ hk => hk.2) (.slice Ao13 t336.length co13)) (fun _ h_ => h_.1))) (Kd.R_base ho0) hb);have n2_:=aM (Kd.R_lower (Kd.R_new' (Kd.R_new' ho0 (Kd.R_lt (by (with_reducible repeat (first|apply rA|apply rN|apply rD));exact (rM (rF_ (p:=⟨gb340,1,none⟩) (rF_ (p:=⟨gb340,0,none⟩) (Kd.R_types HO334.out BK340.out (by decide)) (fun _ hk => hk.2) (.int .i64 t335)) (fun _ hk => hk.2) (.slice Ao13 t336.length co13)) (fun _ h_ => h_.1))))) (Kd.R_lt (by (with_reducible repeat (first|apply rA|apply rN|apply rD));exact (rM (rF_ (p:=⟨gb340,1,none⟩) (rF_ (p:=⟨gb340,0,none⟩) (Kd.R_types HO338.out BK340.out (by decide)) (fun _ hk => hk.2) (.int .i64 t335)) (fun _ hk => hk.2) (.slice Ao13 t336.length co13)) (fun _ h_ => h_.1))))) (wZ (by repeat (first|(with_reducible first|exact HB.out|apply wA|apply wN_|apply wD|refine wS ?_ GE340.out)|exact HB.out))));have n3_:=aM (bB (g:=gb340) (o:=.cells #[.int .i64 t335,.slice Ao13 t336.length co13] 41 (0,0)) (by (with_reducible repeat (first|refine bN ?_ _|refine bD ?_|refine bA ?_ _));refine bP (cs:=#[.int .i64 t335,.slice none 0 0]) ?_ 1 _ rfl;(with_reducible repeat (first|refine bN ?_ _|refine bD ?_|refine bA ?_ _));refine bP (cs:=#[.int .i64 0,.slice none 0 0]) ?_ 0 _ rfl;(with_reducible repeat (first|refine bN ?_ _|refine bD ?_|refine bA ?_ _));exact BK340.out) hb);have n4_:=aM (wT (by repeat (first|(with_reducible first|exact HB.out|apply wA|apply wN_|apply wD|refine wS ?_ GE340.out)|exact HB.out)) hb);clear HO334;clear HO338;clear BK340;clear HB;have HO334:=n0_;have HO338:=n1_;have HO344:=n2_;have BK340:=n3_;have HB:=n4_;clear n0_ n1_ n2_ n3_ n4_;(try clear hb);(try clear hb2);(try clear hk);(try clear hi);(try clear ho0))|((with_reducible refine gate_dst (N:=3) rfl ?_);(try (refine gate_guard (by rfl) ?_;dsimp only));refine box_event ?hg (N:=3) ?hd (cs:=#[.int .i64 0,.slice none 0 0]) (t:=41) ?hr ?_;(case hd => rfl);(case hg => rfl);(case hr => first|(go_simp;done)|(go_simp;rfl));intro gb346 hg w15 hbox hb;have n0_:=aM (rB (by (with_reducible repeat (first|apply rA|apply rN|apply rD));exact HO334.out) hb);have n1_:=aM (rB (by (with_reducible repeat (first|apply rA|apply rN|apply rD));exact HO338.out) hb);have n2_:=aM (rB (by (with_reducible repeat (first|apply rA|apply rN|apply rD));exact HO344.out) hb);have n3_:=aM (bB (g:=gb340) (o:=.cells #[.int .i64 t335,.slice Ao13 t336.length co13] 41 (0,0)) (by (with_reducible repeat (first|refine bN ?_ _|refine bD ?_|refine bA ?_ _));exact BK340.out) hb);have n4_:=aM (wT (by repeat (first|(with_reducible first|exact HB.out|apply wA|apply wN_|apply wD|refine wS ?_ GE340.out)|exact HB.out)) hb);have n5_:=aM (hbox);have n6_:=aM ((by rw [hg];exact (wZ (by repeat (first|(with_reducible first|exact HB.out|apply wA|apply wN_|apply wD|refine wS ?_ GE340.out)|exact HB.out))) : w.heap.size ≤ gb346));have n7_:=aM ((by rw [hg];exact (wZ (by repeat (first|(with_reducible first|exact HB.out|apply wA|apply wN_|apply wD|refine wS ?_ GE340.out)|exact HB.out))) : w.heap.size ≤ gb346));have n8_:=aM ((by rw [hg];exact Nat.ne_of_lt (bL (g:=gb340) (o:=.cells #[.int .i64 t335,.slice Ao13 t336.length co13] 41 (0,0)) (by (with_reducible repeat (first|refine bN ?_ _|refine bD ?_|refine bA ?_ _));exact BK340.out)) : gb340 ≠ gb346));have n9_:=aM ((by rw [hg];exact Nat.ne_of_gt (bL (g:=gb340) (o:=.cells #[.int .i64 t335,.slice Ao13 t336.length co13] 41 (0,0)) (by (with_reducible repeat (first|refine bN ?_ _|refine bD ?_|refine bA ?_ _));exact BK340.out)) : gb346 ≠ gb340));clear HO334;clear HO338;clear HO344;clear BK340;clear HB;have HO334:=n0_;have HO338:=n1_;have HO344:=n2_;have BK340:=n3_;have HB:=n4_;have BK346:=n5_;have GW346:=n6_;have GE346:=n7_;have NB340_346:=n8_;have NB346_340:=n9_;clear n0_ n1_ n2_ n3_ n4_ n5_ n6_ n7_ n8_ n9_;clear hb hbox hg;have hnb16:=NB346_340.out;have hnc16:=NB340_346.out;have hcz17_0 : w15.cell? ⟨gb346,0,none⟩ = some (.int .i64 0):=(bC BK346.out 0).trans rfl;have hcz17_1 : w15.cell? ⟨gb346,1,none⟩ = some (.slice none 0 0):=(bC BK346.out 1).trans rfl;have hfz17_0:=bF BK346.out 0;have hfz17_1:=bF BK346.out 1;obtain ⟨Ao18,co18,eo18⟩:=Kd.R_slice HO344.out;subst eo18)|((with_reducible refine gate_callee (f:=21) rfl ?_);refine goesL_ (some 19) rfl rfl Try.func21 (by kernel_rfl) rfl #[.agg #[.int .i64 t341,.slice Ao18 t342.length co18],.int .i64 1,.int .i64 0] rfl (by (try simp only [lM,lC,lN]);first|done|rfl|(simp only [lD,lT];rfl)) ?_;(with_reducible refine (model_Alloc.calls k t341 _ _ t342 1 0 t347 t348 true _ ?side1 ?side2 A4.out).mono ?_);(case side1 => refine (Kd.R_reads' (e:=48) (base:=w.heap.size) (ok:=fun k_ => ((True ∧ some k_ ≠ (.slice Ao9 t332.length co9 : Value).ownBlock) ∧ some k_ ≠ (.slice Ao13 t336.length co13 : Value).ownBlock)) (n:=t342.length) (c:=co18) ?_).2.2;exact (by (with_reducible repeat (first|apply rA|apply rN|apply rD));exact (rM (rF_ (p:=⟨gb346,1,none⟩) (rF_ (p:=⟨gb346,0,none⟩) (Kd.R_types HO344.out BK346.out (by decide)) (fun _ hk => hk.2) (.int .i64 t341)) (fun _ hk => hk.2) (.slice Ao18 t342.length co18)) (fun _ h_ => h_.1))));(case side2 => exact (Kd.R_reads' HO344.out).2.1);rintro e w19 ⟨v349,rfl,ho0,hb⟩;refine ⟨_,rfl,?_⟩;have n0_:=aM (Kd.R_elder' (by (with_reducible repeat (first|apply rA|apply rN|apply rD));exact (rM (rF_ (p:=⟨gb346,1,none⟩) (rF_ (p:=⟨gb346,0,none⟩) (Kd.R_types HO334.out BK346.out (by decide)) (fun _ hk => hk.2) (.int .i64 t341)) (fun _ hk => hk.2) (.slice Ao18 t342.length co18)) (fun _ h_ => h_.1))) (Kd.R_base ho0) hb);have n1_:=aM (Kd.R_elder' (by (with_reducible repeat (first|apply rA|apply rN|apply rD));exact (rM (rF_ (p:=⟨gb346,1,none⟩) (rF_ (p:=⟨gb346,0,none⟩) (Kd.R_types HO338.out BK346.out (by decide)) (fun _ hk => hk.2) (.int .i64 t341)) (fun _ hk => hk.2) (.slice Ao18 t342.length co18)) (fun _ h_ => h_.1))) (Kd.R_base ho0) hb);have n2_:=aM (Kd.R_elder' (by (with_reducible repeat (first|apply rA|apply rN|apply rD));exact (rM (rF_ (p:=⟨gb346,1,none⟩) (rF_ (p:=⟨gb346,0,none⟩) (Kd.R_types HO344.out BK346.out (by decide)) (fun _ hk => hk.2) (.int .i64 t341)) (fun _ hk => hk.2) (.slice Ao18 t342.length co18)) (fun _ h_ => h_.1))) (Kd.R_base ho0) hb);have n3_:=aM (Kd.R_lower (Kd.R_new' (Kd.R_new' (Kd.R_new' ho0 (Kd.R_lt (by (with_reducible repeat (first|apply rA|apply rN|apply rD));exact (rM (rF_ (p:=⟨gb346,1,none⟩) (rF_ (p:=⟨gb346,0,none⟩) (Kd.R_types HO334.out BK346.out (by decide)) (fun _ hk => hk.2) (.int .i64 t341)) (fun _ hk => hk.2) (.slice Ao18 t342.length co18)) (fun _ h_ => h_.1))))) (Kd.R_lt (by (with_reducible repeat (first|apply rA|apply rN|apply rD));exact (rM (rF_ (p:=⟨gb346,1,none⟩) (rF_ (p:=⟨gb346,0,none⟩) (Kd.R_types HO338.out BK346.out (by decide)) (fun _ hk => hk.2) (.int .i64 t341)) (fun _ hk => hk.2) (.slice Ao18 t342.length co18)) (fun _ h_ => h_.1))))) (Kd.R_lt (by (with_reducible repeat (first|apply rA|apply rN|apply rD));exact (rM (rF_ (p:=⟨gb346,1,none⟩) (rF_ (p:=⟨gb346,0,none⟩) (Kd.R_types HO344.out BK346.out (by decide)) (fun _ hk => hk.2) (.int .i64 t341)) (fun _ hk => hk.2) (.slice Ao18 t342.length co18)) (fun _ h_ => h_.1))))) (wZ (by repeat (first|(with_reducible first|exact HB.out|apply wA|apply wN_|apply wD|refine wS ?_ GE340.out|refine wS ?_ GE346.out)|exact HB.out))));have n4_:=aM (bB (g:=gb340) (o:=.cells #[.int .i64 t335,.slice Ao13 t336.length co13] 41 (0,0)) (by (with_reducible repeat (first|refine bN ?_ _|refine bD ?_|refine bA ?_ _));refine bR ?_ NB340_346.out _;(with_reducible repeat (first|refine bN ?_ _|refine bD ?_|refine bA ?_ _));refine bR ?_ NB340_346.out _;(with_reducible repeat (first|refine bN ?_ _|refine bD ?_|refine bA ?_ _));exact BK340.out) hb);have n5_:=aM (bB (g:=gb346) (o:=.cells #[.int .i64 t341,.slice Ao18 t342.length co18] 41 (0,0)) (by (with_reducible repeat (first|refine bN ?_ _|refine bD ?_|refine bA ?_ _));refine bP (cs:=#[.int .i64 t341,.slice none 0 0]) ?_ 1 _ rfl;(with_reducible repeat (first|refine bN ?_ _|refine bD ?_|refine bA ?_ _));refine bP (cs:=#[.int .i64 0,.slice none 0 0]) ?_ 0 _ rfl;(with_reducible repeat (first|refine bN ?_ _|refine bD ?_|refine bA ?_ _));exact BK346.out) hb);have n6_:=aM (wT (by repeat (first|(with_reducible first|exact HB.out|apply wA|apply wN_|apply wD|refine wS ?_ GE340.out|refine wS ?_ GE346.out)|exact HB.out)) hb);clear HO334;clear HO338;clear HO344;clear BK340;clear BK346;clear HB;have HO334:=n0_;have HO338:=n1_;have HO344:=n2_;have HO350:=n3_;have BK340:=n4_;have BK346:=n5_;have HB:=n6_;clear n0_ n1_ n2_ n3_ n4_ n5_ n6_;(try clear hb);(try clear hb2);(try clear hk);(try clear hi);(try clear ho0))|((with_reducible refine gate_dst (N:=5) rfl ?_);(try (refine gate_guard (by rfl) ?_;dsimp only));refine box_event ?hg (N:=5) ?hd (cs:=#[.int .i64 0,.slice none 0 0]) (t:=41) ?hr ?_;(case hd => rfl);(case hg => rfl);(case hr => first|(go_simp;done)|(go_simp;rfl));intro gb352 hg w20 hbox hb;have n0_:=aM (rB (by (with_reducible repeat (first|apply rA|apply rN|apply rD));exact HO334.out) hb);have n1_:=aM (rB (by (with_reducible repeat (first|apply rA|apply rN|apply rD));exact HO338.out) hb);have n2_:=aM (rB (by (with_reducible repeat (first|apply rA|apply rN|apply rD));exact HO344.out) hb);have n3_:=aM (rB (by (with_reducible repeat (first|apply rA|apply rN|apply rD));exact HO350.out) hb);have n4_:=aM (bB (g:=gb340) (o:=.cells #[.int .i64 t335,.slice Ao13 t336.length co13] 41 (0,0)) (by (with_reducible repeat (first|refine bN ?_ _|refine bD ?_|refine bA ?_ _));exact BK340.out) hb);have n5_:=aM (bB (g:=gb346) (o:=.cells #[.int .i64 t341,.slice Ao18 t342.length co18] 41 (0,0)) (by (with_reducible repeat (first|refine bN ?_ _|refine bD ?_|refine bA ?_ _));exact BK346.out) hb);have n6_:=aM (wT (by repeat (first|(with_reducible first|exact HB.out|apply wA|apply wN_|apply wD|refine wS ?_ GE340.out|refine wS ?_ GE346.out)|exact HB.out)) hb);have n7_:=aM (hbox);have n8_:=aM ((by rw [hg];exact (wZ (by repeat (first|(with_reducible first|exact HB.out|apply wA|apply wN_|apply wD|refine wS ?_ GE340.out|refine wS ?_ GE346.out)|exact HB.out))) : w.heap.size ≤ gb352));have n9_:=aM ((by rw [hg];exact (wZ (by repeat (first|(with_reducible first|exact HB.out|apply wA|apply wN_|apply wD|refine wS ?_ GE340.out|refine wS ?_ GE346.out)|exact HB.out))) : w.heap.size ≤ gb352));have n10_:=aM ((by rw [hg];exact Nat.ne_of_lt (bL (g:=gb340) (o:=.cells #[.int .i64 t335,.slice Ao13 t336.length co13] 41 (0,0)) (by (with_reducible repeat (first|refine bN ?_ _|refine bD ?_|refine bA ?_ _));exact BK340.out)) : gb340 ≠ gb352));have n11_:=aM ((by rw [hg];exact Nat.ne_of_gt (bL (g:=gb340) (o:=.cells #[.int .i64 t335,.slice Ao13 t336.length co13] 41 (0,0)) (by (with_reducible repeat (first|refine bN ?_ _|refine bD ?_|refine bA ?_ _));exact BK340.out)) : gb352 ≠ gb340));have n12_:=aM ((by rw [hg];exact Nat.ne_of_lt (bL (g:=gb346) (o:=.cells #[.int .i64 t341,.slice Ao18 t342.length co18] 41 (0,0)) (by (with_reducible repeat (first|refine bN ?_ _|refine bD ?_|refine bA ?_ _));exact BK346.out)) : gb346 ≠ gb352));have n13_:=aM ((by rw [hg];exact Nat.ne_of_gt (bL (g:=gb346) (o:=.cells #[.int .i64 t341,.slice Ao18 t342.length co18] 41 (0,0)) (by (with_reducible repeat (first|refine bN ?_ _|refine bD ?_|refine bA ?_ _));exact BK346.out)) : gb352 ≠ gb346));clear HO334;clear HO338;clear HO344;clear HO350;clear BK340;clear BK346;clear HB;have HO334:=n0_;have HO338:=n1_;have HO344:=n2_;have HO350:=n3_;have BK340:=n4_;have BK346:=n5_;have HB:=n6_;have BK352:=n7_;have GW352:=n8_;have GE352:=n9_;have NB340_352:=n10_;have NB352_340:=n11_;have NB346_352:=n12_;have NB352_346:=n13_;clear n0_ n1_ n2_ n3_ n4_ n5_ n6_ n7_ n8_ n9_ n10_ n11_ n12_ n13_;clear hb hbox hg;have hnb21:=NB352_340.out;have hnc21:=NB340_352.out;have hnb22:=NB352_346.out;have hnc22:=NB346_352.out;have hcz23_0 : w20.cell? ⟨gb352,0,none⟩ = some (.int .i64 0):=(bC BK352.out 0).trans rfl;have hcz23_1 : w20.cell? ⟨gb352,1,none⟩ = some (.slice none 0 0):=(bC BK352.out 1).trans rfl;have hfz23_0:=bF BK352.out 0;have hfz23_1:=bF BK352.out 1;obtain ⟨Ao24,co24,eo24⟩:=Kd.R_slice HO350.out;subst eo24))
    go_ret
    exact ⟨by first | rfl | (simp [errW_none, errW_some] <;> rfl) | (simp [*, errW_none, errW_some] <;> rfl), by repeat (first | (with_reducible first | exact HB.out | apply wA | apply wN_ | apply wD | refine wS ?_ GE340.out | refine wS ?_ GE346.out | refine wS ?_ GE352.out) | exact HB.out)⟩
   ·replace c7 := Bool.eq_false_iff.mpr c7
    subst c7
    have H1 : (some ((t342.length : Int) == 2)) = some r := by rw [if_neg (show ¬ (false = true) by decide)] at H; exact H
    clear H
    have H := H1
    clear H1
    obtain rfl := Option.some.inj H
    go_enter Try.func22, Try.ntmps22
    go_wp2_with (first|((with_reducible refine gate_callee (f:=36) rfl ?_);refine goesL_ (some 8) rfl rfl Try.func36 (by kernel_rfl) rfl #[.int .i64 64] rfl (by (try simp only [lM,lC,lN]);first|done|rfl|(simp only [lD,lT];rfl)) ?_;(with_reducible refine (model_New.calls 64 t331 t332 _ A1.out).mono ?_);rintro e w25 ⟨v333,rfl,ho0,hb⟩;refine ⟨_,rfl,?_⟩;have n0_:=aM (Kd.R_lower ho0 (wZ (by repeat (first|(with_reducible first|exact HB.out|apply wA|apply wN_|apply wD)|exact HB.out))));have n1_:=aM (wT (by repeat (first|(with_reducible first|exact HB.out|apply wA|apply wN_|apply wD)|exact HB.out)) hb);clear HB;have HO334:=n0_;have HB:=n1_;clear n0_ n1_;(try clear hb);(try clear hb2);(try clear hk);(try clear hi);(try clear ho0);obtain ⟨Ao26,co26,eo26⟩:=Kd.R_slice HO334.out;subst eo26)|((with_reducible refine gate_callee (f:=21) rfl ?_);refine goesL_ (some 9) rfl rfl Try.func21 (by kernel_rfl) rfl #[.agg #[.int .i64 t331,.slice Ao26 t332.length co26],.int .i64 32,.int .i64 0] rfl (by (try simp only [lM,lC,lN]);first|done|rfl|(simp only [lD,lT];rfl)) ?_;(with_reducible refine (model_Alloc.calls k t331 _ _ t332 32 0 t335 t336 true _ ?side1 ?side2 A2.out).mono ?_);(case side1 => repeat (first|exact (Kd.R_reads' HO334.out).2.2|(with_reducible refine cA ?_ _)|(with_reducible refine cN ?_ _)|(with_reducible refine cD ?_)));(case side2 => exact (Kd.R_reads' HO334.out).2.1);rintro e w27 ⟨v337,rfl,ho0,hb⟩;refine ⟨_,rfl,?_⟩;have n0_:=aM (Kd.R_elder' (by (with_reducible repeat (first|apply rA|apply rN|apply rD));exact HO334.out) (Kd.R_base ho0) hb);have n1_:=aM (Kd.R_lower (Kd.R_new' ho0 (Kd.R_lt (by (with_reducible repeat (first|apply rA|apply rN|apply rD));exact HO334.out))) (wZ (by repeat (first|(with_reducible first|exact HB.out|apply wA|apply wN_|apply wD)|exact HB.out))));have n2_:=aM (wT (by repeat (first|(with_reducible first|exact HB.out|apply wA|apply wN_|apply wD)|exact HB.out)) hb);clear HO334;clear HB;have HO334:=n0_;have HO338:=n1_;have HB:=n2_;clear n0_ n1_ n2_;(try clear hb);(try clear hb2);(try clear hk);(try clear hi);(try clear ho0))|((with_reducible refine gate_dst (N:=1) rfl ?_);(try (refine gate_guard (by rfl) ?_;dsimp only));refine box_event ?hg (N:=1) ?hd (cs:=#[.int .i64 0,.slice none 0 0]) (t:=41) ?hr ?_;(case hd => rfl);(case hg => rfl);(case hr => first|(go_simp;done)|(go_simp;rfl));intro gb340 hg w28 hbox hb;have n0_:=aM (rB (by (with_reducible repeat (first|apply rA|apply rN|apply rD));exact HO334.out) hb);have n1_:=aM (rB (by (with_reducible repeat (first|apply rA|apply rN|apply rD));exact HO338.out) hb);have n2_:=aM (wT (by repeat (first|(with_reducible first|exact HB.out|apply wA|apply wN_|apply wD)|exact HB.out)) hb);have n3_:=aM (hbox);have n4_:=aM ((by rw [hg];exact (wZ (by repeat (first|(with_reducible first|exact HB.out|apply wA|apply wN_|apply wD)|exact HB.out))) : w.heap.size ≤ gb340));have n5_:=aM ((by rw [hg];exact (wZ (by repeat (first|(with_reducible first|exact HB.out|apply wA|apply wN_|apply wD)|exact HB.out))) : w.heap.size ≤ gb340));clear HO334;clear HO338;clear HB;have HO334:=n0_;have HO338:=n1_;have HB:=n2_;have BK340:=n3_;have GW340:=n4_;have GE340:=n5_;clear n0_ n1_ n2_ n3_ n4_ n5_;clear hb hbox hg;have hcz29_0 : w28.cell? ⟨gb340,0,none⟩ = some (.int .i64 0):=(bC BK340.out 0).trans rfl;have hcz29_1 : w28.cell? ⟨gb340,1,none⟩ = some (.slice none 0 0):=(bC BK340.out 1).trans rfl;have hfz29_0:=bF BK340.out 0;have hfz29_1:=bF BK340.out 1;obtain ⟨Ao30,co30,eo30⟩:=Kd.R_slice HO338.out;subst eo30)|((with_reducible refine gate_callee (f:=21) rfl ?_);refine goesL_ (some 14) rfl rfl Try.func21 (by kernel_rfl) rfl #[.agg #[.int .i64 t335,.slice Ao30 t336.length co30],.int .i64 32,.int .i64 32] rfl (by (try simp only [lM,lC,lN]);first|done|rfl|(simp only [lD,lT];rfl)) ?_;(with_reducible refine (model_Alloc.calls k t335 _ _ t336 32 32 t341 t342 true _ ?side1 ?side2 A3.out).mono ?_);(case side1 => refine (Kd.R_reads' (e:=48) (base:=w.heap.size) (ok:=fun k_ => (True ∧ some k_ ≠ (.slice Ao26 t332.length co26 : Value).ownBlock)) (n:=t336.length) (c:=co30) ?_).2.2;exact (by (with_reducible repeat (first|apply rA|apply rN|apply rD));exact (rM (rF_ (p:=⟨gb340,1,none⟩) (rF_ (p:=⟨gb340,0,none⟩) (Kd.R_types HO338.out BK340.out (by decide)) (fun _ hk => hk.2) (.int .i64 t335)) (fun _ hk => hk.2) (.slice Ao30 t336.length co30)) (fun _ h_ => h_.1))));(case side2 => exact (Kd.R_reads' HO338.out).2.1);rintro e w31 ⟨v343,rfl,ho0,hb⟩;refine ⟨_,rfl,?_⟩;have n0_:=aM (Kd.R_elder' (by (with_reducible repeat (first|apply rA|apply rN|apply rD));exact (rM (rF_ (p:=⟨gb340,1,none⟩) (rF_ (p:=⟨gb340,0,none⟩) (Kd.R_types HO334.out BK340.out (by decide)) (fun _ hk => hk.2) (.int .i64 t335)) (fun _ hk => hk.2) (.slice Ao30 t336.length co30)) (fun _ h_ => h_.1))) (Kd.R_base ho0) hb);have n1_:=aM (Kd.R_elder' (by (with_reducible repeat (first|apply rA|apply rN|apply rD));exact (rM (rF_ (p:=⟨gb340,1,none⟩) (rF_ (p:=⟨gb340,0,none⟩) (Kd.R_types HO338.out BK340.out (by decide)) (fun _ hk => hk.2) (.int .i64 t335)) (fun _ hk => hk.2) (.slice Ao30 t336.length co30)) (fun _ h_ => h_.1))) (Kd.R_base ho0) hb);have n2_:=aM (Kd.R_lower (Kd.R_new' (Kd.R_new' ho0 (Kd.R_lt (by (with_reducible repeat (first|apply rA|apply rN|apply rD));exact (rM (rF_ (p:=⟨gb340,1,none⟩) (rF_ (p:=⟨gb340,0,none⟩) (Kd.R_types HO334.out BK340.out (by decide)) (fun _ hk => hk.2) (.int .i64 t335)) (fun _ hk => hk.2) (.slice Ao30 t336.length co30)) (fun _ h_ => h_.1))))) (Kd.R_lt (by (with_reducible repeat (first|apply rA|apply rN|apply rD));exact (rM (rF_ (p:=⟨gb340,1,none⟩) (rF_ (p:=⟨gb340,0,none⟩) (Kd.R_types HO338.out BK340.out (by decide)) (fun _ hk => hk.2) (.int .i64 t335)) (fun _ hk => hk.2) (.slice Ao30 t336.length co30)) (fun _ h_ => h_.1))))) (wZ (by repeat (first|(with_reducible first|exact HB.out|apply wA|apply wN_|apply wD|refine wS ?_ GE340.out)|exact HB.out))));have n3_:=aM (bB (g:=gb340) (o:=.cells #[.int .i64 t335,.slice Ao30 t336.length co30] 41 (0,0)) (by (with_reducible repeat (first|refine bN ?_ _|refine bD ?_|refine bA ?_ _));refine bP (cs:=#[.int .i64 t335,.slice none 0 0]) ?_ 1 _ rfl;(with_reducible repeat (first|refine bN ?_ _|refine bD ?_|refine bA ?_ _));refine bP (cs:=#[.int .i64 0,.slice none 0 0]) ?_ 0 _ rfl;(with_reducible repeat (first|refine bN ?_ _|refine bD ?_|refine bA ?_ _));exact BK340.out) hb);have n4_:=aM (wT (by repeat (first|(with_reducible first|exact HB.out|apply wA|apply wN_|apply wD|refine wS ?_ GE340.out)|exact HB.out)) hb);clear HO334;clear HO338;clear BK340;clear HB;have HO334:=n0_;have HO338:=n1_;have HO344:=n2_;have BK340:=n3_;have HB:=n4_;clear n0_ n1_ n2_ n3_ n4_;(try clear hb);(try clear hb2);(try clear hk);(try clear hi);(try clear ho0))|((with_reducible refine gate_dst (N:=3) rfl ?_);(try (refine gate_guard (by rfl) ?_;dsimp only));refine box_event ?hg (N:=3) ?hd (cs:=#[.int .i64 0,.slice none 0 0]) (t:=41) ?hr ?_;(case hd => rfl);(case hg => rfl);(case hr => first|(go_simp;done)|(go_simp;rfl));intro gb346 hg w32 hbox hb;have n0_:=aM (rB (by (with_reducible repeat (first|apply rA|apply rN|apply rD));exact HO334.out) hb);have n1_:=aM (rB (by (with_reducible repeat (first|apply rA|apply rN|apply rD));exact HO338.out) hb);have n2_:=aM (rB (by (with_reducible repeat (first|apply rA|apply rN|apply rD));exact HO344.out) hb);have n3_:=aM (bB (g:=gb340) (o:=.cells #[.int .i64 t335,.slice Ao30 t336.length co30] 41 (0,0)) (by (with_reducible repeat (first|refine bN ?_ _|refine bD ?_|refine bA ?_ _));exact BK340.out) hb);have n4_:=aM (wT (by repeat (first|(with_reducible first|exact HB.out|apply wA|apply wN_|apply wD|refine wS ?_ GE340.out)|exact HB.out)) hb);have n5_:=aM (hbox);have n6_:=aM ((by rw [hg];exact (wZ (by repeat (first|(with_reducible first|exact HB.out|apply wA|apply wN_|apply wD|refine wS ?_ GE340.out)|exact HB.out))) : w.heap.size ≤ gb346));have n7_:=aM ((by rw [hg];exact (wZ (by repeat (first|(with_reducible first|exact HB.out|apply wA|apply wN_|apply wD|refine wS ?_ GE340.out)|exact HB.out))) : w.heap.size ≤ gb346));have n8_:=aM ((by rw [hg];exact Nat.ne_of_lt (bL (g:=gb340) (o:=.cells #[.int .i64 t335,.slice Ao30 t336.length co30] 41 (0,0)) (by (with_reducible repeat (first|refine bN ?_ _|refine bD ?_|refine bA ?_ _));exact BK340.out)) : gb340 ≠ gb346));have n9_:=aM ((by rw [hg];exact Nat.ne_of_gt (bL (g:=gb340) (o:=.cells #[.int .i64 t335,.slice Ao30 t336.length co30] 41 (0,0)) (by (with_reducible repeat (first|refine bN ?_ _|refine bD ?_|refine bA ?_ _));exact BK340.out)) : gb346 ≠ gb340));clear HO334;clear HO338;clear HO344;clear BK340;clear HB;have HO334:=n0_;have HO338:=n1_;have HO344:=n2_;have BK340:=n3_;have HB:=n4_;have BK346:=n5_;have GW346:=n6_;have GE346:=n7_;have NB340_346:=n8_;have NB346_340:=n9_;clear n0_ n1_ n2_ n3_ n4_ n5_ n6_ n7_ n8_ n9_;clear hb hbox hg;have hnb33:=NB346_340.out;have hnc33:=NB340_346.out;have hcz34_0 : w32.cell? ⟨gb346,0,none⟩ = some (.int .i64 0):=(bC BK346.out 0).trans rfl;have hcz34_1 : w32.cell? ⟨gb346,1,none⟩ = some (.slice none 0 0):=(bC BK346.out 1).trans rfl;have hfz34_0:=bF BK346.out 0;have hfz34_1:=bF BK346.out 1;obtain ⟨Ao35,co35,eo35⟩:=Kd.R_slice HO344.out;subst eo35)|((with_reducible refine gate_callee (f:=21) rfl ?_);refine goesL_ (some 19) rfl rfl Try.func21 (by kernel_rfl) rfl #[.agg #[.int .i64 t341,.slice Ao35 t342.length co35],.int .i64 1,.int .i64 0] rfl (by (try simp only [lM,lC,lN]);first|done|rfl|(simp only [lD,lT];rfl)) ?_;(with_reducible refine (model_Alloc.calls k t341 _ _ t342 1 0 t347 t348 false _ ?side1 ?side2 A4.out).mono ?_);(case side1 => refine (Kd.R_reads' (e:=48) (base:=w.heap.size) (ok:=fun k_ => ((True ∧ some k_ ≠ (.slice Ao26 t332.length co26 : Value).ownBlock) ∧ some k_ ≠ (.slice Ao30 t336.length co30 : Value).ownBlock)) (n:=t342.length) (c:=co35) ?_).2.2;exact (by (with_reducible repeat (first|apply rA|apply rN|apply rD));exact (rM (rF_ (p:=⟨gb346,1,none⟩) (rF_ (p:=⟨gb346,0,none⟩) (Kd.R_types HO344.out BK346.out (by decide)) (fun _ hk => hk.2) (.int .i64 t341)) (fun _ hk => hk.2) (.slice Ao35 t342.length co35)) (fun _ h_ => h_.1))));(case side2 => exact (Kd.R_reads' HO344.out).2.1);rintro e w36 ⟨v349,rfl,ho0,hb⟩;refine ⟨_,rfl,?_⟩;have n0_:=aM (Kd.R_elder' (by (with_reducible repeat (first|apply rA|apply rN|apply rD));exact (rM (rF_ (p:=⟨gb346,1,none⟩) (rF_ (p:=⟨gb346,0,none⟩) (Kd.R_types HO334.out BK346.out (by decide)) (fun _ hk => hk.2) (.int .i64 t341)) (fun _ hk => hk.2) (.slice Ao35 t342.length co35)) (fun _ h_ => h_.1))) (Kd.R_base ho0) hb);have n1_:=aM (Kd.R_elder' (by (with_reducible repeat (first|apply rA|apply rN|apply rD));exact (rM (rF_ (p:=⟨gb346,1,none⟩) (rF_ (p:=⟨gb346,0,none⟩) (Kd.R_types HO338.out BK346.out (by decide)) (fun _ hk => hk.2) (.int .i64 t341)) (fun _ hk => hk.2) (.slice Ao35 t342.length co35)) (fun _ h_ => h_.1))) (Kd.R_base ho0) hb);have n2_:=aM (Kd.R_elder' (by (with_reducible repeat (first|apply rA|apply rN|apply rD));exact (rM (rF_ (p:=⟨gb346,1,none⟩) (rF_ (p:=⟨gb346,0,none⟩) (Kd.R_types HO344.out BK346.out (by decide)) (fun _ hk => hk.2) (.int .i64 t341)) (fun _ hk => hk.2) (.slice Ao35 t342.length co35)) (fun _ h_ => h_.1))) (Kd.R_base ho0) hb);have n3_:=aM (Kd.R_lower (Kd.R_new' (Kd.R_new' (Kd.R_new' ho0 (Kd.R_lt (by (with_reducible repeat (first|apply rA|apply rN|apply rD));exact (rM (rF_ (p:=⟨gb346,1,none⟩) (rF_ (p:=⟨gb346,0,none⟩) (Kd.R_types HO334.out BK346.out (by decide)) (fun _ hk => hk.2) (.int .i64 t341)) (fun _ hk => hk.2) (.slice Ao35 t342.length co35)) (fun _ h_ => h_.1))))) (Kd.R_lt (by (with_reducible repeat (first|apply rA|apply rN|apply rD));exact (rM (rF_ (p:=⟨gb346,1,none⟩) (rF_ (p:=⟨gb346,0,none⟩) (Kd.R_types HO338.out BK346.out (by decide)) (fun _ hk => hk.2) (.int .i64 t341)) (fun _ hk => hk.2) (.slice Ao35 t342.length co35)) (fun _ h_ => h_.1))))) (Kd.R_lt (by (with_reducible repeat (first|apply rA|apply rN|apply rD));exact (rM (rF_ (p:=⟨gb346,1,none⟩) (rF_ (p:=⟨gb346,0,none⟩) (Kd.R_types HO344.out BK346.out (by decide)) (fun _ hk => hk.2) (.int .i64 t341)) (fun _ hk => hk.2) (.slice Ao35 t342.length co35)) (fun _ h_ => h_.1))))) (wZ (by repeat (first|(with_reducible first|exact HB.out|apply wA|apply wN_|apply wD|refine wS ?_ GE340.out|refine wS ?_ GE346.out)|exact HB.out))));have n4_:=aM (bB (g:=gb340) (o:=.cells #[.int .i64 t335,.slice Ao30 t336.length co30] 41 (0,0)) (by (with_reducible repeat (first|refine bN ?_ _|refine bD ?_|refine bA ?_ _));refine bR ?_ NB340_346.out _;(with_reducible repeat (first|refine bN ?_ _|refine bD ?_|refine bA ?_ _));refine bR ?_ NB340_346.out _;(with_reducible repeat (first|refine bN ?_ _|refine bD ?_|refine bA ?_ _));exact BK340.out) hb);have n5_:=aM (bB (g:=gb346) (o:=.cells #[.int .i64 t341,.slice Ao35 t342.length co35] 41 (0,0)) (by (with_reducible repeat (first|refine bN ?_ _|refine bD ?_|refine bA ?_ _));refine bP (cs:=#[.int .i64 t341,.slice none 0 0]) ?_ 1 _ rfl;(with_reducible repeat (first|refine bN ?_ _|refine bD ?_|refine bA ?_ _));refine bP (cs:=#[.int .i64 0,.slice none 0 0]) ?_ 0 _ rfl;(with_reducible repeat (first|refine bN ?_ _|refine bD ?_|refine bA ?_ _));exact BK346.out) hb);have n6_:=aM (wT (by repeat (first|(with_reducible first|exact HB.out|apply wA|apply wN_|apply wD|refine wS ?_ GE340.out|refine wS ?_ GE346.out)|exact HB.out)) hb);clear HO334;clear HO338;clear HO344;clear BK340;clear BK346;clear HB;have HO334:=n0_;have HO338:=n1_;have HO344:=n2_;have HO350:=n3_;have BK340:=n4_;have BK346:=n5_;have HB:=n6_;clear n0_ n1_ n2_ n3_ n4_ n5_ n6_;(try clear hb);(try clear hb2);(try clear hk);(try clear hi);(try clear ho0))|((with_reducible refine gate_dst (N:=5) rfl ?_);(try (refine gate_guard (by rfl) ?_;dsimp only));refine box_event ?hg (N:=5) ?hd (cs:=#[.int .i64 0,.slice none 0 0]) (t:=41) ?hr ?_;(case hd => rfl);(case hg => rfl);(case hr => first|(go_simp;done)|(go_simp;rfl));intro gb352 hg w37 hbox hb;have n0_:=aM (rB (by (with_reducible repeat (first|apply rA|apply rN|apply rD));exact HO334.out) hb);have n1_:=aM (rB (by (with_reducible repeat (first|apply rA|apply rN|apply rD));exact HO338.out) hb);have n2_:=aM (rB (by (with_reducible repeat (first|apply rA|apply rN|apply rD));exact HO344.out) hb);have n3_:=aM (rB (by (with_reducible repeat (first|apply rA|apply rN|apply rD));exact HO350.out) hb);have n4_:=aM (bB (g:=gb340) (o:=.cells #[.int .i64 t335,.slice Ao30 t336.length co30] 41 (0,0)) (by (with_reducible repeat (first|refine bN ?_ _|refine bD ?_|refine bA ?_ _));exact BK340.out) hb);have n5_:=aM (bB (g:=gb346) (o:=.cells #[.int .i64 t341,.slice Ao35 t342.length co35] 41 (0,0)) (by (with_reducible repeat (first|refine bN ?_ _|refine bD ?_|refine bA ?_ _));exact BK346.out) hb);have n6_:=aM (wT (by repeat (first|(with_reducible first|exact HB.out|apply wA|apply wN_|apply wD|refine wS ?_ GE340.out|refine wS ?_ GE346.out)|exact HB.out)) hb);have n7_:=aM (hbox);have n8_:=aM ((by rw [hg];exact (wZ (by repeat (first|(with_reducible first|exact HB.out|apply wA|apply wN_|apply wD|refine wS ?_ GE340.out|refine wS ?_ GE346.out)|exact HB.out))) : w.heap.size ≤ gb352));have n9_:=aM ((by rw [hg];exact (wZ (by repeat (first|(with_reducible first|exact HB.out|apply wA|apply wN_|apply wD|refine wS ?_ GE340.out|refine wS ?_ GE346.out)|exact HB.out))) : w.heap.size ≤ gb352));have n10_:=aM ((by rw [hg];exact Nat.ne_of_lt (bL (g:=gb340) (o:=.cells #[.int .i64 t335,.slice Ao30 t336.length co30] 41 (0,0)) (by (with_reducible repeat (first|refine bN ?_ _|refine bD ?_|refine bA ?_ _));exact BK340.out)) : gb340 ≠ gb352));have n11_:=aM ((by rw [hg];exact Nat.ne_of_gt (bL (g:=gb340) (o:=.cells #[.int .i64 t335,.slice Ao30 t336.length co30] 41 (0,0)) (by (with_reducible repeat (first|refine bN ?_ _|refine bD ?_|refine bA ?_ _));exact BK340.out)) : gb352 ≠ gb340));have n12_:=aM ((by rw [hg];exact Nat.ne_of_lt (bL (g:=gb346) (o:=.cells #[.int .i64 t341,.slice Ao35 t342.length co35] 41 (0,0)) (by (with_reducible repeat (first|refine bN ?_ _|refine bD ?_|refine bA ?_ _));exact BK346.out)) : gb346 ≠ gb352));have n13_:=aM ((by rw [hg];exact Nat.ne_of_gt (bL (g:=gb346) (o:=.cells #[.int .i64 t341,.slice Ao35 t342.length co35] 41 (0,0)) (by (with_reducible repeat (first|refine bN ?_ _|refine bD ?_|refine bA ?_ _));exact BK346.out)) : gb352 ≠ gb346));clear HO334;clear HO338;clear HO344;clear HO350;clear BK340;clear BK346;clear HB;have HO334:=n0_;have HO338:=n1_;have HO344:=n2_;have HO350:=n3_;have BK340:=n4_;have BK346:=n5_;have HB:=n6_;have BK352:=n7_;have GW352:=n8_;have GE352:=n9_;have NB340_352:=n10_;have NB352_340:=n11_;have NB346_352:=n12_;have NB352_346:=n13_;clear n0_ n1_ n2_ n3_ n4_ n5_ n6_ n7_ n8_ n9_ n10_ n11_ n12_ n13_;clear hb hbox hg;have hnb38:=NB352_340.out;have hnc38:=NB340_352.out;have hnb39:=NB352_346.out;have hnc39:=NB346_352.out;have hcz40_0 : w37.cell? ⟨gb352,0,none⟩ = some (.int .i64 0):=(bC BK352.out 0).trans rfl;have hcz40_1 : w37.cell? ⟨gb352,1,none⟩ = some (.slice none 0 0):=(bC BK352.out 1).trans rfl;have hfz40_0:=bF BK352.out 0;have hfz40_1:=bF BK352.out 1;obtain ⟨Ao41,co41,eo41⟩:=Kd.R_slice HO350.out;subst eo41;have hcz42_0 : w37.cell? ⟨gb346,0,none⟩ = some (.int .i64 t341):=(bC BK346.out 0).trans rfl;have hcz42_1 : w37.cell? ⟨gb346,1,none⟩ = some (.slice Ao35 t342.length co35):=(bC BK346.out 1).trans rfl;have hfz42_0:=bF BK346.out 0;have hfz42_1:=bF BK346.out 1))
    go_ret
    exact ⟨by first | rfl | (simp [errW_none, errW_some] <;> rfl) | (simp [*, errW_none, errW_some] <;> rfl), by repeat (first | (with_reducible first | exact HB.out | apply wA | apply wN_ | apply wD | refine wS ?_ GE340.out | refine wS ?_ GE346.out | refine wS ?_ GE352.out) | exact HB.out)⟩
  ·replace c6 := Bool.eq_false_iff.mpr c6
   subst c6
   have H1 : (some false) = some r := by rw [if_neg (show ¬ (false = true) by decide)] at H; exact H
   clear H
   have H := H1
   clear H1
   obtain rfl := Option.some.inj H
   go_enter Try.func22, Try.ntmps22
   go_wp2_with (first|((with_reducible refine gate_callee (f:=36) rfl ?_);refine goesL_ (some 8) rfl rfl Try.func36 (by kernel_rfl) rfl #[.int .i64 64] rfl (by (try simp only [lM,lC,lN]);first|done|rfl|(simp only [lD,lT];rfl)) ?_;(with_reducible refine (model_New.calls 64 t331 t332 _ A1.out).mono ?_);rintro e w43 ⟨v333,rfl,ho0,hb⟩;refine ⟨_,rfl,?_⟩;have n0_:=aM (Kd.R_lower ho0 (wZ (by repeat (first|(with_reducible first|exact HB.out|apply wA|apply wN_|apply wD)|exact HB.out))));have n1_:=aM (wT (by repeat (first|(with_reducible first|exact HB.out|apply wA|apply wN_|apply wD)|exact HB.out)) hb);clear HB;have HO334:=n0_;have HB:=n1_;clear n0_ n1_;(try clear hb);(try clear hb2);(try clear hk);(try clear hi);(try clear ho0);obtain ⟨Ao44,co44,eo44⟩:=Kd.R_slice HO334.out;subst eo44)|((with_reducible refine gate_callee (f:=21) rfl ?_);refine goesL_ (some 9) rfl rfl Try.func21 (by kernel_rfl) rfl #[.agg #[.int .i64 t331,.slice Ao44 t332.length co44],.int .i64 32,.int .i64 0] rfl (by (try simp only [lM,lC,lN]);first|done|rfl|(simp only [lD,lT];rfl)) ?_;(with_reducible refine (model_Alloc.calls k t331 _ _ t332 32 0 t335 t336 true _ ?side1 ?side2 A2.out).mono ?_);(case side1 => repeat (first|exact (Kd.R_reads' HO334.out).2.2|(with_reducible refine cA ?_ _)|(with_reducible refine cN ?_ _)|(with_reducible refine cD ?_)));(case side2 => exact (Kd.R_reads' HO334.out).2.1);rintro e w45 ⟨v337,rfl,ho0,hb⟩;refine ⟨_,rfl,?_⟩;have n0_:=aM (Kd.R_elder' (by (with_reducible repeat (first|apply rA|apply rN|apply rD));exact HO334.out) (Kd.R_base ho0) hb);have n1_:=aM (Kd.R_lower (Kd.R_new' ho0 (Kd.R_lt (by (with_reducible repeat (first|apply rA|apply rN|apply rD));exact HO334.out))) (wZ (by repeat (first|(with_reducible first|exact HB.out|apply wA|apply wN_|apply wD)|exact HB.out))));have n2_:=aM (wT (by repeat (first|(with_reducible first|exact HB.out|apply wA|apply wN_|apply wD)|exact HB.out)) hb);clear HO334;clear HB;have HO334:=n0_;have HO338:=n1_;have HB:=n2_;clear n0_ n1_ n2_;(try clear hb);(try clear hb2);(try clear hk);(try clear hi);(try clear ho0))|((with_reducible refine gate_dst (N:=1) rfl ?_);(try (refine gate_guard (by rfl) ?_;dsimp only));refine box_event ?hg (N:=1) ?hd (cs:=#[.int .i64 0,.slice none 0 0]) (t:=41) ?hr ?_;(case hd => rfl);(case hg => rfl);(case hr => first|(go_simp;done)|(go_simp;rfl));intro gb340 hg w46 hbox hb;have n0_:=aM (rB (by (with_reducible repeat (first|apply rA|apply rN|apply rD));exact HO334.out) hb);have n1_:=aM (rB (by (with_reducible repeat (first|apply rA|apply rN|apply rD));exact HO338.out) hb);have n2_:=aM (wT (by repeat (first|(with_reducible first|exact HB.out|apply wA|apply wN_|apply wD)|exact HB.out)) hb);have n3_:=aM (hbox);have n4_:=aM ((by rw [hg];exact (wZ (by repeat (first|(with_reducible first|exact HB.out|apply wA|apply wN_|apply wD)|exact HB.out))) : w.heap.size ≤ gb340));have n5_:=aM ((by rw [hg];exact (wZ (by repeat (first|(with_reducible first|exact HB.out|apply wA|apply wN_|apply wD)|exact HB.out))) : w.heap.size ≤ gb340));clear HO334;clear HO338;clear HB;have HO334:=n0_;have HO338:=n1_;have HB:=n2_;have BK340:=n3_;have GW340:=n4_;have GE340:=n5_;clear n0_ n1_ n2_ n3_ n4_ n5_;clear hb hbox hg;have hcz47_0 : w46.cell? ⟨gb340,0,none⟩ = some (.int .i64 0):=(bC BK340.out 0).trans rfl;have hcz47_1 : w46.cell? ⟨gb340,1,none⟩ = some (.slice none 0 0):=(bC BK340.out 1).trans rfl;have hfz47_0:=bF BK340.out 0;have hfz47_1:=bF BK340.out 1;obtain ⟨Ao48,co48,eo48⟩:=Kd.R_slice HO338.out;subst eo48)|((with_reducible refine gate_callee (f:=21) rfl ?_);refine goesL_ (some 14) rfl rfl Try.func21 (by kernel_rfl) rfl #[.agg #[.int .i64 t335,.slice Ao48 t336.length co48],.int .i64 32,.int .i64 32] rfl (by (try simp only [lM,lC,lN]);first|done|rfl|(simp only [lD,lT];rfl)) ?_;(with_reducible refine (model_Alloc.calls k t335 _ _ t336 32 32 t341 t342 false _ ?side1 ?side2 A3.out).mono ?_);(case side1 => refine (Kd.R_reads' (e:=48) (base:=w.heap.size) (ok:=fun k_ => (True ∧ some k_ ≠ (.slice Ao44 t332.length co44 : Value).ownBlock)) (n:=t336.length) (c:=co48) ?_).2.2;exact (by (with_reducible repeat (first|apply rA|apply rN|apply rD));exact (rM (rF_ (p:=⟨gb340,1,none⟩) (rF_ (p:=⟨gb340,0,none⟩) (Kd.R_types HO338.out BK340.out (by decide)) (fun _ hk => hk.2) (.int .i64 t335)) (fun _ hk => hk.2) (.slice Ao48 t336.length co48)) (fun _ h_ => h_.1))));(case side2 => exact (Kd.R_reads' HO338.out).2.1);rintro e w49 ⟨v343,rfl,ho0,hb⟩;refine ⟨_,rfl,?_⟩;have n0_:=aM (Kd.R_elder' (by (with_reducible repeat (first|apply rA|apply rN|apply rD));exact (rM (rF_ (p:=⟨gb340,1,none⟩) (rF_ (p:=⟨gb340,0,none⟩) (Kd.R_types HO334.out BK340.out (by decide)) (fun _ hk => hk.2) (.int .i64 t335)) (fun _ hk => hk.2) (.slice Ao48 t336.length co48)) (fun _ h_ => h_.1))) (Kd.R_base ho0) hb);have n1_:=aM (Kd.R_elder' (by (with_reducible repeat (first|apply rA|apply rN|apply rD));exact (rM (rF_ (p:=⟨gb340,1,none⟩) (rF_ (p:=⟨gb340,0,none⟩) (Kd.R_types HO338.out BK340.out (by decide)) (fun _ hk => hk.2) (.int .i64 t335)) (fun _ hk => hk.2) (.slice Ao48 t336.length co48)) (fun _ h_ => h_.1))) (Kd.R_base ho0) hb);have n2_:=aM (Kd.R_lower (Kd.R_new' (Kd.R_new' ho0 (Kd.R_lt (by (with_reducible repeat (first|apply rA|apply rN|apply rD));exact (rM (rF_ (p:=⟨gb340,1,none⟩) (rF_ (p:=⟨gb340,0,none⟩) (Kd.R_types HO334.out BK340.out (by decide)) (fun _ hk => hk.2) (.int .i64 t335)) (fun _ hk => hk.2) (.slice Ao48 t336.length co48)) (fun _ h_ => h_.1))))) (Kd.R_lt (by (with_reducible repeat (first|apply rA|apply rN|apply rD));exact (rM (rF_ (p:=⟨gb340,1,none⟩) (rF_ (p:=⟨gb340,0,none⟩) (Kd.R_types HO338.out BK340.out (by decide)) (fun _ hk => hk.2) (.int .i64 t335)) (fun _ hk => hk.2) (.slice Ao48 t336.length co48)) (fun _ h_ => h_.1))))) (wZ (by repeat (first|(with_reducible first|exact HB.out|apply wA|apply wN_|apply wD|refine wS ?_ GE340.out)|exact HB.out))));have n3_:=aM (bB (g:=gb340) (o:=.cells #[.int .i64 t335,.slice Ao48 t336.length co48] 41 (0,0)) (by (with_reducible repeat (first|refine bN ?_ _|refine bD ?_|refine bA ?_ _));refine bP (cs:=#[.int .i64 t335,.slice none 0 0]) ?_ 1 _ rfl;(with_reducible repeat (first|refine bN ?_ _|refine bD ?_|refine bA ?_ _));refine bP (cs:=#[.int .i64 0,.slice none 0 0]) ?_ 0 _ rfl;(with_reducible repeat (first|refine bN ?_ _|refine bD ?_|refine bA ?_ _));exact BK340.out) hb);have n4_:=aM (wT (by repeat (first|(with_reducible first|exact HB.out|apply wA|apply wN_|apply wD|refine wS ?_ GE340.out)|exact HB.out)) hb);clear HO334;clear HO338;clear BK340;clear HB;have HO334:=n0_;have HO338:=n1_;have HO344:=n2_;have BK340:=n3_;have HB:=n4_;clear n0_ n1_ n2_ n3_ n4_;(try clear hb);(try clear hb2);(try clear hk);(try clear hi);(try clear ho0))|((with_reducible refine gate_dst (N:=3) rfl ?_);(try (refine gate_guard (by rfl) ?_;dsimp only));refine box_event ?hg (N:=3) ?hd (cs:=#[.int .i64 0,.slice none 0 0]) (t:=41) ?hr ?_;(case hd => rfl);(case hg => rfl);(case hr => first|(go_simp;done)|(go_simp;rfl));intro gb346 hg w50 hbox hb;have n0_:=aM (rB (by (with_reducible repeat (first|apply rA|apply rN|apply rD));exact HO334.out) hb);have n1_:=aM (rB (by (with_reducible repeat (first|apply rA|apply rN|apply rD));exact HO338.out) hb);have n2_:=aM (rB (by (with_reducible repeat (first|apply rA|apply rN|apply rD));exact HO344.out) hb);have n3_:=aM (bB (g:=gb340) (o:=.cells #[.int .i64 t335,.slice Ao48 t336.length co48] 41 (0,0)) (by (with_reducible repeat (first|refine bN ?_ _|refine bD ?_|refine bA ?_ _));exact BK340.out) hb);have n4_:=aM (wT (by repeat (first|(with_reducible first|exact HB.out|apply wA|apply wN_|apply wD|refine wS ?_ GE340.out)|exact HB.out)) hb);have n5_:=aM (hbox);have n6_:=aM ((by rw [hg];exact (wZ (by repeat (first|(with_reducible first|exact HB.out|apply wA|apply wN_|apply wD|refine wS ?_ GE340.out)|exact HB.out))) : w.heap.size ≤ gb346));have n7_:=aM ((by rw [hg];exact (wZ (by repeat (first|(with_reducible first|exact HB.out|apply wA|apply wN_|apply wD|refine wS ?_ GE340.out)|exact HB.out))) : w.heap.size ≤ gb346));have n8_:=aM ((by rw [hg];exact Nat.ne_of_lt (bL (g:=gb340) (o:=.cells #[.int .i64 t335,.slice Ao48 t336.length co48] 41 (0,0)) (by (with_reducible repeat (first|refine bN ?_ _|refine bD ?_|refine bA ?_ _));exact BK340.out)) : gb340 ≠ gb346));have n9_:=aM ((by rw [hg];exact Nat.ne_of_gt (bL (g:=gb340) (o:=.cells #[.int .i64 t335,.slice Ao48 t336.length co48] 41 (0,0)) (by (with_reducible repeat (first|refine bN ?_ _|refine bD ?_|refine bA ?_ _));exact BK340.out)) : gb346 ≠ gb340));clear HO334;clear HO338;clear HO344;clear BK340;clear HB;have HO334:=n0_;have HO338:=n1_;have HO344:=n2_;have BK340:=n3_;have HB:=n4_;have BK346:=n5_;have GW346:=n6_;have GE346:=n7_;have NB340_346:=n8_;have NB346_340:=n9_;clear n0_ n1_ n2_ n3_ n4_ n5_ n6_ n7_ n8_ n9_;clear hb hbox hg;have hnb51:=NB346_340.out;have hnc51:=NB340_346.out;have hcz52_0 : w50.cell? ⟨gb346,0,none⟩ = some (.int .i64 0):=(bC BK346.out 0).trans rfl;have hcz52_1 : w50.cell? ⟨gb346,1,none⟩ = some (.slice none 0 0):=(bC BK346.out 1).trans rfl;have hfz52_0:=bF BK346.out 0;have hfz52_1:=bF BK346.out 1;obtain ⟨Ao53,co53,eo53⟩:=Kd.R_slice HO344.out;subst eo53)|((with_reducible refine gate_callee (f:=21) rfl ?_);refine goesL_ (some 19) rfl rfl Try.func21 (by kernel_rfl) rfl #[.agg #[.int .i64 t341,.slice Ao53 t342.length co53],.int .i64 1,.int .i64 0] rfl (by (try simp only [lM,lC,lN]);first|done|rfl|(simp only [lD,lT];rfl)) ?_;(with_reducible refine (model_Alloc.calls k t341 _ _ t342 1 0 t347 t348 t351 _ ?side1 ?side2 A4.out).mono ?_);(case side1 => refine (Kd.R_reads' (e:=48) (base:=w.heap.size) (ok:=fun k_ => ((True ∧ some k_ ≠ (.slice Ao44 t332.length co44 : Value).ownBlock) ∧ some k_ ≠ (.slice Ao48 t336.length co48 : Value).ownBlock)) (n:=t342.length) (c:=co53) ?_).2.2;exact (by (with_reducible repeat (first|apply rA|apply rN|apply rD));exact (rM (rF_ (p:=⟨gb346,1,none⟩) (rF_ (p:=⟨gb346,0,none⟩) (Kd.R_types HO344.out BK346.out (by decide)) (fun _ hk => hk.2) (.int .i64 t341)) (fun _ hk => hk.2) (.slice Ao53 t342.length co53)) (fun _ h_ => h_.1))));(case side2 => exact (Kd.R_reads' HO344.out).2.1);rintro e w54 ⟨v349,rfl,ho0,hb⟩;refine ⟨_,rfl,?_⟩;have n0_:=aM (Kd.R_elder' (by (with_reducible repeat (first|apply rA|apply rN|apply rD));exact (rM (rF_ (p:=⟨gb346,1,none⟩) (rF_ (p:=⟨gb346,0,none⟩) (Kd.R_types HO334.out BK346.out (by decide)) (fun _ hk => hk.2) (.int .i64 t341)) (fun _ hk => hk.2) (.slice Ao53 t342.length co53)) (fun _ h_ => h_.1))) (Kd.R_base ho0) hb);have n1_:=aM (Kd.R_elder' (by (with_reducible repeat (first|apply rA|apply rN|apply rD));exact (rM (rF_ (p:=⟨gb346,1,none⟩) (rF_ (p:=⟨gb346,0,none⟩) (Kd.R_types HO338.out BK346.out (by decide)) (fun _ hk => hk.2) (.int .i64 t341)) (fun _ hk => hk.2) (.slice Ao53 t342.length co53)) (fun _ h_ => h_.1))) (Kd.R_base ho0) hb);have n2_:=aM (Kd.R_elder' (by (with_reducible repeat (first|apply rA|apply rN|apply rD));exact (rM (rF_ (p:=⟨gb346,1,none⟩) (rF_ (p:=⟨gb346,0,none⟩) (Kd.R_types HO344.out BK346.out (by decide)) (fun _ hk => hk.2) (.int .i64 t341)) (fun _ hk => hk.2) (.slice Ao53 t342.length co53)) (fun _ h_ => h_.1))) (Kd.R_base ho0) hb);have n3_:=aM (Kd.R_lower (Kd.R_new' (Kd.R_new' (Kd.R_new' ho0 (Kd.R_lt (by (with_reducible repeat (first|apply rA|apply rN|apply rD));exact (rM (rF_ (p:=⟨gb346,1,none⟩) (rF_ (p:=⟨gb346,0,none⟩) (Kd.R_types HO334.out BK346.out (by decide)) (fun _ hk => hk.2) (.int .i64 t341)) (fun _ hk => hk.2) (.slice Ao53 t342.length co53)) (fun _ h_ => h_.1))))) (Kd.R_lt (by (with_reducible repeat (first|apply rA|apply rN|apply rD));exact (rM (rF_ (p:=⟨gb346,1,none⟩) (rF_ (p:=⟨gb346,0,none⟩) (Kd.R_types HO338.out BK346.out (by decide)) (fun _ hk => hk.2) (.int .i64 t341)) (fun _ hk => hk.2) (.slice Ao53 t342.length co53)) (fun _ h_ => h_.1))))) (Kd.R_lt (by (with_reducible repeat (first|apply rA|apply rN|apply rD));exact (rM (rF_ (p:=⟨gb346,1,none⟩) (rF_ (p:=⟨gb346,0,none⟩) (Kd.R_types HO344.out BK346.out (by decide)) (fun _ hk => hk.2) (.int .i64 t341)) (fun _ hk => hk.2) (.slice Ao53 t342.length co53)) (fun _ h_ => h_.1))))) (wZ (by repeat (first|(with_reducible first|exact HB.out|apply wA|apply wN_|apply wD|refine wS ?_ GE340.out|refine wS ?_ GE346.out)|exact HB.out))));have n4_:=aM (bB (g:=gb340) (o:=.cells #[.int .i64 t335,.slice Ao48 t336.length co48] 41 (0,0)) (by (with_reducible repeat (first|refine bN ?_ _|refine bD ?_|refine bA ?_ _));refine bR ?_ NB340_346.out _;(with_reducible repeat (first|refine bN ?_ _|refine bD ?_|refine bA ?_ _));refine bR ?_ NB340_346.out _;(with_reducible repeat (first|refine bN ?_ _|refine bD ?_|refine bA ?_ _));exact BK340.out) hb);have n5_:=aM (bB (g:=gb346) (o:=.cells #[.int .i64 t341,.slice Ao53 t342.length co53] 41 (0,0)) (by (with_reducible repeat (first|refine bN ?_ _|refine bD ?_|refine bA ?_ _));refine bP (cs:=#[.int .i64 t341,.slice none 0 0]) ?_ 1 _ rfl;(with_reducible repeat (first|refine bN ?_ _|refine bD ?_|refine bA ?_ _));refine bP (cs:=#[.int .i64 0,.slice none 0 0]) ?_ 0 _ rfl;(with_reducible repeat (first|refine bN ?_ _|refine bD ?_|refine bA ?_ _));exact BK346.out) hb);have n6_:=aM (wT (by repeat (first|(with_reducible first|exact HB.out|apply wA|apply wN_|apply wD|refine wS ?_ GE340.out|refine wS ?_ GE346.out)|exact HB.out)) hb);clear HO334;clear HO338;clear HO344;clear BK340;clear BK346;clear HB;have HO334:=n0_;have HO338:=n1_;have HO344:=n2_;have HO350:=n3_;have BK340:=n4_;have BK346:=n5_;have HB:=n6_;clear n0_ n1_ n2_ n3_ n4_ n5_ n6_;(try clear hb);(try clear hb2);(try clear hk);(try clear hi);(try clear ho0))|((with_reducible refine gate_dst (N:=5) rfl ?_);(try (refine gate_guard (by rfl) ?_;dsimp only));refine box_event ?hg (N:=5) ?hd (cs:=#[.int .i64 0,.slice none 0 0]) (t:=41) ?hr ?_;(case hd => rfl);(case hg => rfl);(case hr => first|(go_simp;done)|(go_simp;rfl));intro gb352 hg w55 hbox hb;have n0_:=aM (rB (by (with_reducible repeat (first|apply rA|apply rN|apply rD));exact HO334.out) hb);have n1_:=aM (rB (by (with_reducible repeat (first|apply rA|apply rN|apply rD));exact HO338.out) hb);have n2_:=aM (rB (by (with_reducible repeat (first|apply rA|apply rN|apply rD));exact HO344.out) hb);have n3_:=aM (rB (by (with_reducible repeat (first|apply rA|apply rN|apply rD));exact HO350.out) hb);have n4_:=aM (bB (g:=gb340) (o:=.cells #[.int .i64 t335,.slice Ao48 t336.length co48] 41 (0,0)) (by (with_reducible repeat (first|refine bN ?_ _|refine bD ?_|refine bA ?_ _));exact BK340.out) hb);have n5_:=aM (bB (g:=gb346) (o:=.cells #[.int .i64 t341,.slice Ao53 t342.length co53] 41 (0,0)) (by (with_reducible repeat (first|refine bN ?_ _|refine bD ?_|refine bA ?_ _));exact BK346.out) hb);have n6_:=aM (wT (by repeat (first|(with_reducible first|exact HB.out|apply wA|apply wN_|apply wD|refine wS ?_ GE340.out|refine wS ?_ GE346.out)|exact HB.out)) hb);have n7_:=aM (hbox);have n8_:=aM ((by rw [hg];exact (wZ (by repeat (first|(with_reducible first|exact HB.out|apply wA|apply wN_|apply wD|refine wS ?_ GE340.out|refine wS ?_ GE346.out)|exact HB.out))) : w.heap.size ≤ gb352));have n9_:=aM ((by rw [hg];exact (wZ (by repeat (first|(with_reducible first|exact HB.out|apply wA|apply wN_|apply wD|refine wS ?_ GE340.out|refine wS ?_ GE346.out)|exact HB.out))) : w.heap.size ≤ gb352));have n10_:=aM ((by rw [hg];exact Nat.ne_of_lt (bL (g:=gb340) (o:=.cells #[.int .i64 t335,.slice Ao48 t336.length co48] 41 (0,0)) (by (with_reducible repeat (first|refine bN ?_ _|refine bD ?_|refine bA ?_ _));exact BK340.out)) : gb340 ≠ gb352));have n11_:=aM ((by rw [hg];exact Nat.ne_of_gt (bL (g:=gb340) (o:=.cells #[.int .i64 t335,.slice Ao48 t336.length co48] 41 (0,0)) (by (with_reducible repeat (first|refine bN ?_ _|refine bD ?_|refine bA ?_ _));exact BK340.out)) : gb352 ≠ gb340));have n12_:=aM ((by rw [hg];exact Nat.ne_of_lt (bL (g:=gb346) (o:=.cells #[.int .i64 t341,.slice Ao53 t342.length co53] 41 (0,0)) (by (with_reducible repeat (first|refine bN ?_ _|refine bD ?_|refine bA ?_ _));exact BK346.out)) : gb346 ≠ gb352));have n13_:=aM ((by rw [hg];exact Nat.ne_of_gt (bL (g:=gb346) (o:=.cells #[.int .i64 t341,.slice Ao53 t342.length co53] 41 (0,0)) (by (with_reducible repeat (first|refine bN ?_ _|refine bD ?_|refine bA ?_ _));exact BK346.out)) : gb352 ≠ gb346));clear HO334;clear HO338;clear HO344;clear HO350;clear BK340;clear BK346;clear HB;have HO334:=n0_;have HO338:=n1_;have HO344:=n2_;have HO350:=n3_;have BK340:=n4_;have BK346:=n5_;have HB:=n6_;have BK352:=n7_;have GW352:=n8_;have GE352:=n9_;have NB340_352:=n10_;have NB352_340:=n11_;have NB346_352:=n12_;have NB352_346:=n13_;clear n0_ n1_ n2_ n3_ n4_ n5_ n6_ n7_ n8_ n9_ n10_ n11_ n12_ n13_;clear hb hbox hg;have hnb56:=NB352_340.out;have hnc56:=NB340_352.out;have hnb57:=NB352_346.out;have hnc57:=NB346_352.out;have hcz58_0 : w55.cell? ⟨gb352,0,none⟩ = some (.int .i64 0):=(bC BK352.out 0).trans rfl;have hcz58_1 : w55.cell? ⟨gb352,1,none⟩ = some (.slice none 0 0):=(bC BK352.out 1).trans rfl;have hfz58_0:=bF BK352.out 0;have hfz58_1:=bF BK352.out 1;obtain ⟨Ao59,co59,eo59⟩:=Kd.R_slice HO350.out;subst eo59))
   go_ret
   exact ⟨by first | rfl | (simp [errW_none, errW_some] <;> rfl) | (simp [*, errW_none, errW_some] <;> rfl), by repeat (first | (with_reducible first | exact HB.out | apply wA | apply wN_ | apply wD | refine wS ?_ GE340.out | refine wS ?_ GE346.out | refine wS ?_ GE352.out) | exact HB.out)⟩
 ·replace c5 := Bool.eq_false_iff.mpr c5
  subst c5
  have H1 : (some false) = some r := by rw [if_neg (show ¬ (false = true) by decide)] at H; exact H
  clear H
  have H := H1
  clear H1
  obtain rfl := Option.some.inj H
  go_enter Try.func22, Try.ntmps22
  go_wp2_with (first|((with_reducible refine gate_callee (f:=36) rfl ?_);refine goesL_ (some 8) rfl rfl Try.func36 (by kernel_rfl) rfl #[.int .i64 64] rfl (by (try simp only [lM,lC,lN]);first|done|rfl|(simp only [lD,lT];rfl)) ?_;(with_reducible refine (model_New.calls 64 t331 t332 _ A1.out).mono ?_);rintro e w60 ⟨v333,rfl,ho0,hb⟩;refine ⟨_,rfl,?_⟩;have n0_:=aM (Kd.R_lower ho0 (wZ (by repeat (first|(with_reducible first|exact HB.out|apply wA|apply wN_|apply wD)|exact HB.out))));have n1_:=aM (wT (by repeat (first|(with_reducible first|exact HB.out|apply wA|apply wN_|apply wD)|exact HB.out)) hb);clear HB;have HO334:=n0_;have HB:=n1_;clear n0_ n1_;(try clear hb);(try clear hb2);(try clear hk);(try clear hi);(try clear ho0);obtain ⟨Ao61,co61,eo61⟩:=Kd.R_slice HO334.out;subst eo61)|((with_reducible refine gate_callee (f:=21) rfl ?_);refine goesL_ (some 9) rfl rfl Try.func21 (by kernel_rfl) rfl #[.agg #[.int .i64 t331,.slice Ao61 t332.length co61],.int .i64 32,.int .i64 0] rfl (by (try simp only [lM,lC,lN]);first|done|rfl|(simp only [lD,lT];rfl)) ?_;(with_reducible refine (model_Alloc.calls k t331 _ _ t332 32 0 t335 t336 false _ ?side1 ?side2 A2.out).mono ?_);(case side1 => repeat (first|exact (Kd.R_reads' HO334.out).2.2|(with_reducible refine cA ?_ _)|(with_reducible refine cN ?_ _)|(with_reducible refine cD ?_)));(case side2 => exact (Kd.R_reads' HO334.out).2.1);rintro e w62 ⟨v337,rfl,ho0,hb⟩;refine ⟨_,rfl,?_⟩;have n0_:=aM (Kd.R_elder' (by (with_reducible repeat (first|apply rA|apply rN|apply rD));exact HO334.out) (Kd.R_base ho0) hb);have n1_:=aM (Kd.R_lower (Kd.R_new' ho0 (Kd.R_lt (by (with_reducible repeat (first|apply rA|apply rN|apply rD));exact HO334.out))) (wZ (by repeat (first|(with_reducible first|exact HB.out|apply wA|apply wN_|apply wD)|exact HB.out))));have n2_:=aM (wT (by repeat (first|(with_reducible first|exact HB.out|apply wA|apply wN_|apply wD)|exact HB.out)) hb);clear HO334;clear HB;have HO334:=n0_;have HO338:=n1_;have HB:=n2_;clear n0_ n1_ n2_;(try clear hb);(try clear hb2);(try clear hk);(try clear hi);(try clear ho0))|((with_reducible refine gate_dst (N:=1) rfl ?_);(try (refine gate_guard (by rfl) ?_;dsimp only));refine box_event ?hg (N:=1) ?hd (cs:=#[.int .i64 0,.slice none 0 0]) (t:=41) ?hr ?_;(case hd => rfl);(case hg => rfl);(case hr => first|(go_simp;done)|(go_simp;rfl));intro gb340 hg w63 hbox hb;have n0_:=aM (rB (by (with_reducible repeat (first|apply rA|apply rN|apply rD));exact HO334.out) hb);have n1_:=aM (rB (by (with_reducible repeat (first|apply rA|apply rN|apply rD));exact HO338.out) hb);have n2_:=aM (wT (by repeat (first|(with_reducible first|exact HB.out|apply wA|apply wN_|apply wD)|exact HB.out)) hb);have n3_:=aM (hbox);have n4_:=aM ((by rw [hg];exact (wZ (by repeat (first|(with_reducible first|exact HB.out|apply wA|apply wN_|apply wD)|exact HB.out))) : w.heap.size ≤ gb340));have n5_:=aM ((by rw [hg];exact (wZ (by repeat (first|(with_reducible first|exact HB.out|apply wA|apply wN_|apply wD)|exact HB.out))) : w.heap.size ≤ gb340));clear HO334;clear HO338;clear HB;have HO334:=n0_;have HO338:=n1_;have HB:=n2_;have BK340:=n3_;have GW340:=n4_;have GE340:=n5_;clear n0_ n1_ n2_ n3_ n4_ n5_;clear hb hbox hg;have hcz64_0 : w63.cell? ⟨gb340,0,none⟩ = some (.int .i64 0):=(bC BK340.out 0).trans rfl;have hcz64_1 : w63.cell? ⟨gb340,1,none⟩ = some (.slice none 0 0):=(bC BK340.out 1).trans rfl;have hfz64_0:=bF BK340.out 0;have hfz64_1:=bF BK340.out 1;obtain ⟨Ao65,co65,eo65⟩:=Kd.R_slice HO338.out;subst eo65)|((with_reducible refine gate_callee (f:=21) rfl ?_);refine goesL_ (some 14) rfl rfl Try.func21 (by kernel_rfl) rfl #[.agg #[.int .i64 t335,.slice Ao65 t336.length co65],.int .i64 32,.int .i64 32] rfl (by (try simp only [lM,lC,lN]);first|done|rfl|(simp only [lD,lT];rfl)) ?_;(with_reducible refine (model_Alloc.calls k t335 _ _ t336 32 32 t341 t342 t345 _ ?side1 ?side2 A3.out).mono ?_);(case side1 => refine (Kd.R_reads' (e:=48) (base:=w.heap.size) (ok:=fun k_ => (True ∧ some k_ ≠ (.slice Ao61 t332.length co61 : Value).ownBlock)) (n:=t336.length) (c:=co65) ?_).2.2;exact (by (with_reducible repeat (first|apply rA|apply rN|apply rD));exact (rM (rF_ (p:=⟨gb340,1,none⟩) (rF_ (p:=⟨gb340,0,none⟩) (Kd.R_types HO338.out BK340.out (by decide)) (fun _ hk => hk.2) (.int .i64 t335)) (fun _ hk => hk.2) (.slice Ao65 t336.length co65)) (fun _ h_ => h_.1))));(case side2 => exact (Kd.R_reads' HO338.out).2.1);rintro e w66 ⟨v343,rfl,ho0,hb⟩;refine ⟨_,rfl,?_⟩;have n0_:=aM (Kd.R_elder' (by (with_reducible repeat (first|apply rA|apply rN|apply rD));exact (rM (rF_ (p:=⟨gb340,1,none⟩) (rF_ (p:=⟨gb340,0,none⟩) (Kd.R_types HO334.out BK340.out (by decide)) (fun _ hk => hk.2) (.int .i64 t335)) (fun _ hk => hk.2) (.slice Ao65 t336.length co65)) (fun _ h_ => h_.1))) (Kd.R_base ho0) hb);have n1_:=aM (Kd.R_elder' (by (with_reducible repeat (first|apply rA|apply rN|apply rD));exact (rM (rF_ (p:=⟨gb340,1,none⟩) (rF_ (p:=⟨gb340,0,none⟩) (Kd.R_types HO338.out BK340.out (by decide)) (fun _ hk => hk.2) (.int .i64 t335)) (fun _ hk => hk.2) (.slice Ao65 t336.length co65)) (fun _ h_ => h_.1))) (Kd.R_base ho0) hb);have n2_:=aM (Kd.R_lower (Kd.R_new' (Kd.R_new' ho0 (Kd.R_lt (by (with_reducible repeat (first|apply rA|apply rN|apply rD));exact (rM (rF_ (p:=⟨gb340,1,none⟩) (rF_ (p:=⟨gb340,0,none⟩) (Kd.R_types HO334.out BK340.out (by decide)) (fun _ hk => hk.2) (.int .i64 t335)) (fun _ hk => hk.2) (.slice Ao65 t336.length co65)) (fun _ h_ => h_.1))))) (Kd.R_lt (by (with_reducible repeat (first|apply rA|apply rN|apply rD));exact (rM (rF_ (p:=⟨gb340,1,none⟩) (rF_ (p:=⟨gb340,0,none⟩) (Kd.R_types HO338.out BK340.out (by decide)) (fun _ hk => hk.2) (.int .i64 t335)) (fun _ hk => hk.2) (.slice Ao65 t336.length co65)) (fun _ h_ => h_.1))))) (wZ (by repeat (first|(with_reducible first|exact HB.out|apply wA|apply wN_|apply wD|refine wS ?_ GE340.out)|exact HB.out))));have n3_:=aM (bB (g:=gb340) (o:=.cells #[.int .i64 t335,.slice Ao65 t336.length co65] 41 (0,0)) (by (with_reducible repeat (first|refine bN ?_ _|refine bD ?_|refine bA ?_ _));refine bP (cs:=#[.int .i64 t335,.slice none 0 0]) ?_ 1 _ rfl;(with_reducible repeat (first|refine bN ?_ _|refine bD ?_|refine bA ?_ _));refine bP (cs:=#[.int .i64 0,.slice none 0 0]) ?_ 0 _ rfl;(with_reducible repeat (first|refine bN ?_ _|refine bD ?_|refine bA ?_ _));exact BK340.out) hb);have n4_:=aM (wT (by repeat (first|(with_reducible first|exact HB.out|apply wA|apply wN_|apply wD|refine wS ?_ GE340.out)|exact HB.out)) hb);clear HO334;clear HO338;clear BK340;clear HB;have HO334:=n0_;have HO338:=n1_;have HO344:=n2_;have BK340:=n3_;have HB:=n4_;clear n0_ n1_ n2_ n3_ n4_;(try clear hb);(try clear hb2);(try clear hk);(try clear hi);(try clear ho0))|((with_reducible refine gate_dst (N:=3) rfl ?_);(try (refine gate_guard (by rfl) ?_;dsimp only));refine box_event ?hg (N:=3) ?hd (cs:=#[.int .i64 0,.slice none 0 0]) (t:=41) ?hr ?_;(case hd => rfl);(case hg => rfl);(case hr => first|(go_simp;done)|(go_simp;rfl));intro gb346 hg w67 hbox hb;have n0_:=aM (rB (by (with_reducible repeat (first|apply rA|apply rN|apply rD));exact HO334.out) hb);have n1_:=aM (rB (by (with_reducible repeat (first|apply rA|apply rN|apply rD));exact HO338.out) hb);have n2_:=aM (rB (by (with_reducible repeat (first|apply rA|apply rN|apply rD));exact HO344.out) hb);have n3_:=aM (bB (g:=gb340) (o:=.cells #[.int .i64 t335,.slice Ao65 t336.length co65] 41 (0,0)) (by (with_reducible repeat (first|refine bN ?_ _|refine bD ?_|refine bA ?_ _));exact BK340.out) hb);have n4_:=aM (wT (by repeat (first|(with_reducible first|exact HB.out|apply wA|apply wN_|apply wD|refine wS ?_ GE340.out)|exact HB.out)) hb);have n5_:=aM (hbox);have n6_:=aM ((by rw [hg];exact (wZ (by repeat (first|(with_reducible first|exact HB.out|apply wA|apply wN_|apply wD|refine wS ?_ GE340.out)|exact HB.out))) : w.heap.size ≤ gb346));have n7_:=aM ((by rw [hg];exact (wZ (by repeat (first|(with_reducible first|exact HB.out|apply wA|apply wN_|apply wD|refine wS ?_ GE340.out)|exact HB.out))) : w.heap.size ≤ gb346));have n8_:=aM ((by rw [hg];exact Nat.ne_of_lt (bL (g:=gb340) (o:=.cells #[.int .i64 t335,.slice Ao65 t336.length co65] 41 (0,0)) (by (with_reducible repeat (first|refine bN ?_ _|refine bD ?_|refine bA ?_ _));exact BK340.out)) : gb340 ≠ gb346));have n9_:=aM ((by rw [hg];exact Nat.ne_of_gt (bL (g:=gb340) (o:=.cells #[.int .i64 t335,.slice Ao65 t336.length co65] 41 (0,0)) (by (with_reducible repeat (first|refine bN ?_ _|refine bD ?_|refine bA ?_ _));exact BK340.out)) : gb346 ≠ gb340));clear HO334;clear HO338;clear HO344;clear BK340;clear HB;have HO334:=n0_;have HO338:=n1_;have HO344:=n2_;have BK340:=n3_;have HB:=n4_;have BK346:=n5_;have GW346:=n6_;have GE346:=n7_;have NB340_346:=n8_;have NB346_340:=n9_;clear n0_ n1_ n2_ n3_ n4_ n5_ n6_ n7_ n8_ n9_;clear hb hbox hg;have hnb68:=NB346_340.out;have hnc68:=NB340_346.out;have hcz69_0 : w67.cell? ⟨gb346,0,none⟩ = some (.int .i64 0):=(bC BK346.out 0).trans rfl;have hcz69_1 : w67.cell? ⟨gb346,1,none⟩ = some (.slice none 0 0):=(bC BK346.out 1).trans rfl;have hfz69_0:=bF BK346.out 0;have hfz69_1:=bF BK346.out 1;obtain ⟨Ao70,co70,eo70⟩:=Kd.R_slice HO344.out;subst eo70)|((with_reducible refine gate_callee (f:=21) rfl ?_);refine goesL_ (some 19) rfl rfl Try.func21 (by kernel_rfl) rfl #[.agg #[.int .i64 t341,.slice Ao70 t342.length co70],.int .i64 1,.int .i64 0] rfl (by (try simp only [lM,lC,lN]);first|done|rfl|(simp only [lD,lT];rfl)) ?_;(with_reducible refine (model_Alloc.calls k t341 _ _ t342 1 0 t347 t348 t351 _ ?side1 ?side2 A4.out).mono ?_);(case side1 => refine (Kd.R_reads' (e:=48) (base:=w.heap.size) (ok:=fun k_ => ((True ∧ some k_ ≠ (.slice Ao61 t332.length co61 : Value).ownBlock) ∧ some k_ ≠ (.slice Ao65 t336.length co65 : Value).ownBlock)) (n:=t342.length) (c:=co70) ?_).2.2;exact (by (with_reducible repeat (first|apply rA|apply rN|apply rD));exact (rM (rF_ (p:=⟨gb346,1,none⟩) (rF_ (p:=⟨gb346,0,none⟩) (Kd.R_types HO344.out BK346.out (by decide)) (fun _ hk => hk.2) (.int .i64 t341)) (fun _ hk => hk.2) (.slice Ao70 t342.length co70)) (fun _ h_ => h_.1))));(case side2 => exact (Kd.R_reads' HO344.out).2.1);rintro e w71 ⟨v349,rfl,ho0,hb⟩;refine ⟨_,rfl,?_⟩;have n0_:=aM (Kd.R_elder' (by (with_reducible repeat (first|apply rA|apply rN|apply rD));exact (rM (rF_ (p:=⟨gb346,1,none⟩) (rF_ (p:=⟨gb346,0,none⟩) (Kd.R_types HO334.out BK346.out (by decide)) (fun _ hk => hk.2) (.int .i64 t341)) (fun _ hk => hk.2) (.slice Ao70 t342.length co70)) (fun _ h_ => h_.1))) (Kd.R_base ho0) hb);have n1_:=aM (Kd.R_elder' (by (with_reducible repeat (first|apply rA|apply rN|apply rD));exact (rM (rF_ (p:=⟨gb346,1,none⟩) (rF_ (p:=⟨gb346,0,none⟩) (Kd.R_types HO338.out BK346.out (by decide)) (fun _ hk => hk.2) (.int .i64 t341)) (fun _ hk => hk.2) (.slice Ao70 t342.length co70)) (fun _ h_ => h_.1))) (Kd.R_base ho0) hb);have n2_:=aM (Kd.R_elder' (by (with_reducible repeat (first|apply rA|apply rN|apply rD));exact (rM (rF_ (p:=⟨gb346,1,none⟩) (rF_ (p:=⟨gb346,0,none⟩) (Kd.R_types HO344.out BK346.out (by decide)) (fun _ hk => hk.2) (.int .i64 t341)) (fun _ hk => hk.2) (.slice Ao70 t342.length co70)) (fun _ h_ => h_.1))) (Kd.R_base ho0) hb);have n3_:=aM (Kd.R_lower (Kd.R_new' (Kd.R_new' (Kd.R_new' ho0 (Kd.R_lt (by (with_reducible repeat (first|apply rA|apply rN|apply rD));exact (rM (rF_ (p:=⟨gb346,1,none⟩) (rF_ (p:=⟨gb346,0,none⟩) (Kd.R_types HO334.out BK346.out (by decide)) (fun _ hk => hk.2) (.int .i64 t341)) (fun _ hk => hk.2) (.slice Ao70 t342.length co70)) (fun _ h_ => h_.1))))) (Kd.R_lt (by (with_reducible repeat (first|apply rA|apply rN|apply rD));exact (rM (rF_ (p:=⟨gb346,1,none⟩) (rF_ (p:=⟨gb346,0,none⟩) (Kd.R_types HO338.out BK346.out (by decide)) (fun _ hk => hk.2) (.int .i64 t341)) (fun _ hk => hk.2) (.slice Ao70 t342.length co70)) (fun _ h_ => h_.1))))) (Kd.R_lt (by (with_reducible repeat (first|apply rA|apply rN|apply rD));exact (rM (rF_ (p:=⟨gb346,1,none⟩) (rF_ (p:=⟨gb346,0,none⟩) (Kd.R_types HO344.out BK346.out (by decide)) (fun _ hk => hk.2) (.int .i64 t341)) (fun _ hk => hk.2) (.slice Ao70 t342.length co70)) (fun _ h_ => h_.1))))) (wZ (by repeat (first|(with_reducible first|exact HB.out|apply wA|apply wN_|apply wD|refine wS ?_ GE340.out|refine wS ?_ GE346.out)|exact HB.out))));have n4_:=aM (bB (g:=gb340) (o:=.cells #[.int .i64 t335,.slice Ao65 t336.length co65] 41 (0,0)) (by (with_reducible repeat (first|refine bN ?_ _|refine bD ?_|refine bA ?_ _));refine bR ?_ NB340_346.out _;(with_reducible repeat (first|refine bN ?_ _|refine bD ?_|refine bA ?_ _));refine bR ?_ NB340_346.out _;(with_reducible repeat (first|refine bN ?_ _|refine bD ?_|refine bA ?_ _));exact BK340.out) hb);have n5_:=aM (bB (g:=gb346) (o:=.cells #[.int .i64 t341,.slice Ao70 t342.length co70] 41 (0,0)) (by (with_reducible repeat (first|refine bN ?_ _|refine bD ?_|refine bA ?_ _));refine bP (cs:=#[.int .i64 t341,.slice none 0 0]) ?_ 1 _ rfl;(with_reducible repeat (first|refine bN ?_ _|refine bD ?_|refine bA ?_ _));refine bP (cs:=#[.int .i64 0,.slice none 0 0]) ?_ 0 _ rfl;(with_reducible repeat (first|refine bN ?_ _|refine bD ?_|refine bA ?_ _));exact BK346.out) hb);have n6_:=aM (wT (by repeat (first|(with_reducible first|exact HB.out|apply wA|apply wN_|apply wD|refine wS ?_ GE340.out|refine wS ?_ GE346.out)|exact HB.out)) hb);clear HO334;clear HO338;clear HO344;clear BK340;clear BK346;clear HB;have HO334:=n0_;have HO338:=n1_;have HO344:=n2_;have HO350:=n3_;have BK340:=n4_;have BK346:=n5_;have HB:=n6_;clear n0_ n1_ n2_ n3_ n4_ n5_ n6_;(try clear hb);(try clear hb2);(try clear hk);(try clear hi);(try clear ho0))|((with_reducible refine gate_dst (N:=5) rfl ?_);(try (refine gate_guard (by rfl) ?_;dsimp only));refine box_event ?hg (N:=5) ?hd (cs:=#[.int .i64 0,.slice none 0 0]) (t:=41) ?hr ?_;(case hd => rfl);(case hg => rfl);(case hr => first|(go_simp;done)|(go_simp;rfl));intro gb352 hg w72 hbox hb;have n0_:=aM (rB (by (with_reducible repeat (first|apply rA|apply rN|apply rD));exact HO334.out) hb);have n1_:=aM (rB (by (with_reducible repeat (first|apply rA|apply rN|apply rD));exact HO338.out) hb);have n2_:=aM (rB (by (with_reducible repeat (first|apply rA|apply rN|apply rD));exact HO344.out) hb);have n3_:=aM (rB (by (with_reducible repeat (first|apply rA|apply rN|apply rD));exact HO350.out) hb);have n4_:=aM (bB (g:=gb340) (o:=.cells #[.int .i64 t335,.slice Ao65 t336.length co65] 41 (0,0)) (by (with_reducible repeat (first|refine bN ?_ _|refine bD ?_|refine bA ?_ _));exact BK340.out) hb);have n5_:=aM (bB (g:=gb346) (o:=.cells #[.int .i64 t341,.slice Ao70 t342.length co70] 41 (0,0)) (by (with_reducible repeat (first|refine bN ?_ _|refine bD ?_|refine bA ?_ _));exact BK346.out) hb);have n6_:=aM (wT (by repeat (first|(with_reducible first|exact HB.out|apply wA|apply wN_|apply wD|refine wS ?_ GE340.out|refine wS ?_ GE346.out)|exact HB.out)) hb);have n7_:=aM (hbox);have n8_:=aM ((by rw [hg];exact (wZ (by repeat (first|(with_reducible first|exact HB.out|apply wA|apply wN_|apply wD|refine wS ?_ GE340.out|refine wS ?_ GE346.out)|exact HB.out))) : w.heap.size ≤ gb352));have n9_:=aM ((by rw [hg];exact (wZ (by repeat (first|(with_reducible first|exact HB.out|apply wA|apply wN_|apply wD|refine wS ?_ GE340.out|refine wS ?_ GE346.out)|exact HB.out))) : w.heap.size ≤ gb352));have n10_:=aM ((by rw [hg];exact Nat.ne_of_lt (bL (g:=gb340) (o:=.cells #[.int .i64 t335,.slice Ao65 t336.length co65] 41 (0,0)) (by (with_reducible repeat (first|refine bN ?_ _|refine bD ?_|refine bA ?_ _));exact BK340.out)) : gb340 ≠ gb352));have n11_:=aM ((by rw [hg];exact Nat.ne_of_gt (bL (g:=gb340) (o:=.cells #[.int .i64 t335,.slice Ao65 t336.length co65] 41 (0,0)) (by (with_reducible repeat (first|refine bN ?_ _|refine bD ?_|refine bA ?_ _));exact BK340.out)) : gb352 ≠ gb340));have n12_:=aM ((by rw [hg];exact Nat.ne_of_lt (bL (g:=gb346) (o:=.cells #[.int .i64 t341,.slice Ao70 t342.length co70] 41 (0,0)) (by (with_reducible repeat (first|refine bN ?_ _|refine bD ?_|refine bA ?_ _));exact BK346.out)) : gb346 ≠ gb352));have n13_:=aM ((by rw [hg];exact Nat.ne_of_gt (bL (g:=gb346) (o:=.cells #[.int .i64 t341,.slice Ao70 t342.length co70] 41 (0,0)) (by (with_reducible repeat (first|refine bN ?_ _|refine bD ?_|refine bA ?_ _));exact BK346.out)) : gb352 ≠ gb346));clear HO334;clear HO338;clear HO344;clear HO350;clear BK340;clear BK346;clear HB;have HO334:=n0_;have HO338:=n1_;have HO344:=n2_;have HO350:=n3_;have BK340:=n4_;have BK346:=n5_;have HB:=n6_;have BK352:=n7_;have GW352:=n8_;have GE352:=n9_;have NB340_352:=n10_;have NB352_340:=n11_;have NB346_352:=n12_;have NB352_346:=n13_;clear n0_ n1_ n2_ n3_ n4_ n5_ n6_ n7_ n8_ n9_ n10_ n11_ n12_ n13_;clear hb hbox hg;have hnb73:=NB352_340.out;have hnc73:=NB340_352.out;have hnb74:=NB352_346.out;have hnc74:=NB346_352.out;have hcz75_0 : w72.cell? ⟨gb352,0,none⟩ = some (.int .i64 0):=(bC BK352.out 0).trans rfl;have hcz75_1 : w72.cell? ⟨gb352,1,none⟩ = some (.slice none 0 0):=(bC BK352.out 1).trans rfl;have hfz75_0:=bF BK352.out 0;have hfz75_1:=bF BK352.out 1;obtain ⟨Ao76,co76,eo76⟩:=Kd.R_slice HO350.out;subst eo76))
  go_ret
  exact ⟨by first | rfl | (simp [errW_none, errW_some] <;> rfl) | (simp [*, errW_none, errW_some] <;> rfl), by repeat (first | (with_reducible first | exact HB.out | apply wA | apply wN_ | apply wD | refine wS ?_ GE340.out | refine wS ?_ GE346.out | refine wS ?_ GE352.out) | exact HB.out)⟩

/-! ### model_Find: function 24 -/
def model_Find.f (a0_0 : Int) (l0_1 : List (S48)) (a1 : Int) : Option (Int × Int × Int × Bool) := (model_place.f l0_1 a1).bind fun bt355 => (if bt355.2 = true then (if 0 ≤ bt355.1 then (if bt355.1 < (l0_1.length : Int) then (some ((rd_T48 l0_1 bt355.1).f0, (rd_T48 l0_1 bt355.1).f1, (rd_T48 l0_1 bt355.1).f2, true)) else (none)) else (none)) else (some (0, 0, 0, false)))
set_option maxHeartbeats 8000000 in
set_option maxRecDepth 100000 in
theorem model_Find.calls (a0_0 : Int) (A0_1 : Option Addr) (c0_1 : Nat) (l0_1 : List (S48)) (a1 : Int) (r1 : Int) (r2 : Int) (r3 : Int) (r4 : Bool) (w : World) (hr0_1 : Kd.C k48 w A0_1 l0_1.length l0_1) (hc0_1 : l0_1.length ≤ c0_1) (h : model_Find.f a0_0 l0_1 a1 = some (r1, r2, r3, r4)) :
  Calls Try.prog 24 #[.agg #[.int .i64 a0_0, .slice A0_1 l0_1.length c0_1], .int .i64 a1] w fun e w' => e = .returned (.tuple #[.agg #[.int .i64 r1, .int .i64 r2, .int .i64 r3], .bool r4]) ∧ Below w.heap.size w w' := by
 have hu41 := Try.underlying41
 have hu48 := Try.underlying48
 have HR0_1 := aM hr0_1
 have HC0_1 := aM hc0_1
 clear hr0_1 hc0_1
 have HB := aM (Below.refl w.heap.size w)
 have H : ((model_place.f l0_1 a1).bind fun bt355 => (if bt355.2 = true then (if 0 ≤ bt355.1 then (if bt355.1 < (l0_1.length : Int) then (some ((rd_T48 l0_1 bt355.1).f0, (rd_T48 l0_1 bt355.1).f1, (rd_T48 l0_1 bt355.1).f2, true)) else (none)) else (none)) else (some (0, 0, 0, false)))) = some (r1, r2, r3, r4) := h
 clear h
 replace H := Option.bind_eq_some_iff.mp H
 obtain ⟨⟨t355, t356⟩, A30, H⟩ := H
 replace H : (if t356 = true then (if 0 ≤ t355 then (if t355 < (l0_1.length : Int) then (some ((rd_T48 l0_1 t355).f0, (rd_T48 l0_1 t355).f1, (rd_T48 l0_1 t355).f2, true)) else (none)) else (none)) else (some (0, 0, 0, false))) = some (r1, r2, r3, r4) := H
 have A3 := aM A30
 clear A30
 by_cases c4 : t356 = true
 ·subst c4
  have H1 : (if 0 ≤ t355 then (if t355 < (l0_1.length : Int) then (some ((rd_T48 l0_1 t355).f0, (rd_T48 l0_1 t355).f1, (rd_T48 l0_1 t355).f2, true)) else (none)) else (none)) = some (r1, r2, r3, r4) := by rw [if_pos rfl] at H; exact H
  clear H
  have H := H1
  clear H1
  by_cases c5 : 0 ≤ t355
  ·rw [if_pos c5] at H
   have c5b0 : decide (0 ≤ t355) = true := decide_eq_true c5
   clear c5
   by_cases c6 : t355 < (l0_1.length : Int)
   ·rw [if_pos c6] at H
    have c6b0 : decide (t355 < (l0_1.length : Int)) = true := decide_eq_true c6
    clear c6
    simp only [Option.some.injEq, Prod.mk.injEq] at H
    obtain ⟨rfl, rfl, rfl, rfl⟩ := H
    go_enter Try.func24, Try.ntmps24
    go_wp2_with (first|((with_reducible refine gate_dst (N:=2) rfl ?_);refine box_event ?hg (N:=2) ?hd (cs:=#[.int .i64 a0_0,.slice A0_1 l0_1.length c0_1]) (t:=41) ?hr ?_;(case hd => rfl);(case hg => rfl);(case hr => first|(go_simp;done)|(go_simp;rfl));intro gb353 hg w7 hbox hb;have n0_:=aM (wT (by repeat (first|(with_reducible first|exact HB.out|apply wA|apply wN_|apply wD)|exact HB.out)) hb);have n1_:=aM (hbox);have n2_:=aM ((by rw [hg];exact (wZ (by repeat (first|(with_reducible first|exact HB.out|apply wA|apply wN_|apply wD)|exact HB.out))) : w.heap.size ≤ gb353));have n3_:=aM ((by rw [hg];exact (wZ (by repeat (first|(with_reducible first|exact HB.out|apply wA|apply wN_|apply wD)|exact HB.out))) : w.heap.size ≤ gb353));clear HB;have HB:=n0_;have BK353:=n1_;have GW353:=n2_;have GE353:=n3_;clear n0_ n1_ n2_ n3_;clear hb hbox hg)|((with_reducible refine gate_dst (N:=4) rfl ?_);refine box_event ?hg (N:=4) ?hd (cs:=#[.int .i64 0,.int .i64 0,.int .i64 0]) (t:=48) ?hr ?_;(case hd => rfl);(case hg => rfl);(case hr => first|(go_simp;done)|(go_simp;rfl));intro gb354 hg w8 hbox hb;have n0_:=aM (bB (g:=gb353) (o:=.cells #[.int .i64 a0_0,.slice A0_1 l0_1.length c0_1] 41 (0,0)) (by (with_reducible repeat (first|refine bN ?_ _|refine bD ?_|refine bA ?_ _));exact BK353.out) hb);have n1_:=aM (wT (by repeat (first|(with_reducible first|exact HB.out|apply wA|apply wN_|apply wD|refine wS ?_ GE353.out)|exact HB.out)) hb);have n2_:=aM (hbox);have n3_:=aM ((by rw [hg];exact (wZ (by repeat (first|(with_reducible first|exact HB.out|apply wA|apply wN_|apply wD|refine wS ?_ GE353.out)|exact HB.out))) : w.heap.size ≤ gb354));have n4_:=aM ((by rw [hg];exact (wZ (by repeat (first|(with_reducible first|exact HB.out|apply wA|apply wN_|apply wD|refine wS ?_ GE353.out)|exact HB.out))) : w.heap.size ≤ gb354));have n5_:=aM ((by rw [hg];exact Nat.ne_of_lt (bL (g:=gb353) (o:=.cells #[.int .i64 a0_0,.slice A0_1 l0_1.length c0_1] 41 (0,0)) (by (with_reducible repeat (first|refine bN ?_ _|refine bD ?_|refine bA ?_ _));exact BK353.out)) : gb353 ≠ gb354));have n6_:=aM ((by rw [hg];exact Nat.ne_of_gt (bL (g:=gb353) (o:=.cells #[.int .i64 a0_0,.slice A0_1 l0_1.length c0_1] 41 (0,0)) (by (with_reducible repeat (first|refine bN ?_ _|refine bD ?_|refine bA ?_ _));exact BK353.out)) : gb354 ≠ gb353));clear BK353;clear HB;have BK353:=n0_;have HB:=n1_;have BK354:=n2_;have GW354:=n3_;have GE354:=n4_;have NB353_354:=n5_;have NB354_353:=n6_;clear n0_ n1_ n2_ n3_ n4_ n5_ n6_;clear hb hbox hg;have hnb9:=NB353_354.out;have hnc9:=NB354_353.out;have hcz10_0 : w8.cell? ⟨gb353,0,none⟩ = some (.int .i64 a0_0):=(bC BK353.out 0).trans rfl;have hcz10_1 : w8.cell? ⟨gb353,1,none⟩ = some (.slice A0_1 l0_1.length c0_1):=(bC BK353.out 1).trans rfl;have hfz10_0:=bF BK353.out 0;have hfz10_1:=bF BK353.out 1)|((with_reducible refine gate_callee (f:=56) rfl ?_);refine goesL_ (some 12) rfl rfl Try.func56 (by kernel_rfl) rfl #[.slice A0_1 l0_1.length c0_1,.int .i64 a1] rfl (by (try simp only [lM,lC,lN]);first|done|rfl|(simp only [lD,lT];rfl)) ?_;(with_reducible refine (model_place.calls _ _ l0_1 a1 t355 true _ ?side1 ?side2 A3.out).mono ?_);(case side1 => repeat (first|exact (cB HR0_1.out HB.out)|(with_reducible refine cA ?_ _)|(with_reducible refine cN ?_ _)|(with_reducible refine cD ?_)));(case side2 => exact HC0_1.out);rintro e w11 ⟨rfl,hb⟩;refine ⟨_,rfl,?_⟩;have n0_:=aM (bB (g:=gb353) (o:=.cells #[.int .i64 a0_0,.slice A0_1 l0_1.length c0_1] 41 (0,0)) (by (with_reducible repeat (first|refine bN ?_ _|refine bD ?_|refine bA ?_ _));exact BK353.out) hb);have n1_:=aM (bB (g:=gb354) (o:=.cells #[.int .i64 0,.int .i64 0,.int .i64 0] 48 (0,0)) (by (with_reducible repeat (first|refine bN ?_ _|refine bD ?_|refine bA ?_ _));exact BK354.out) hb);have n2_:=aM (wT (by repeat (first|(with_reducible first|exact HB.out|apply wA|apply wN_|apply wD|refine wS ?_ GE353.out|refine wS ?_ GE354.out)|exact HB.out)) hb);clear BK353;clear BK354;clear HB;have BK353:=n0_;have BK354:=n1_;have HB:=n2_;clear n0_ n1_ n2_;(try clear hb);(try clear hb2);(try clear hk);(try clear hi);have hcz12_0 : w11.cell? ⟨gb353,0,none⟩ = some (.int .i64 a0_0):=(bC BK353.out 0).trans rfl;have hcz12_1 : w11.cell? ⟨gb353,1,none⟩ = some (.slice A0_1 l0_1.length c0_1):=(bC BK353.out 1).trans rfl;have hfz12_0:=bF BK353.out 0;have hfz12_1:=bF BK353.out 1;have p357 : 0 ≤ (t355 : Int):=oD (by first|(with_reducible assumption)|assumption);have q357 : t355 < (l0_1.length : Int):=oD (by first|(with_reducible assumption)|assumption);obtain ⟨ad357,e357,hx357_0,hx357_1,hx357_2⟩:=at_T48 HR0_1.out t355 p357 q357;cases e357;replace hx357_0:=(HB.out.cell (wL w _ hx357_0)).trans hx357_0;replace hx357_1:=(HB.out.cell (wL w _ hx357_1)).trans hx357_1;replace hx357_2:=(HB.out.cell (wL w _ hx357_2)).trans hx357_2;replace p357:=eq_true p357;replace q357:=eq_true q357;have hcz13_0 : w11.cell? ⟨gb354,0,none⟩ = some (.int .i64 0):=(bC BK354.out 0).trans rfl;have hcz13_1 : w11.cell? ⟨gb354,1,none⟩ = some (.int .i64 0):=(bC BK354.out 1).trans rfl;have hcz13_2 : w11.cell? ⟨gb354,2,none⟩ = some (.int .i64 0):=(bC BK354.out 2).trans rfl;have hfz13_0:=bF BK354.out 0;have hfz13_1:=bF BK354.out 1;have hfz13_2:=bF BK354.out 2))
    refine bodyPost_ret (results_ct rfl _ _ gb354 48 #[.int .i64 ((rd_T48 l0_1 t355).f0), .int .i64 ((rd_T48 l0_1 t355).f1), .int .i64 ((rd_T48 l0_1 t355).f2)] (0, 0) _ rfl (by (with_reducible repeat (first | refine bN ?_ _ | refine bD ?_ | refine bA ?_ _)); refine bP (cs := #[.int .i64 ((rd_T48 l0_1 t355).f0), .int .i64 ((rd_T48 l0_1 t355).f1), .int .i64 0]) ?_ 2 _ rfl; (with_reducible repeat (first | refine bN ?_ _ | refine bD ?_ | refine bA ?_ _)); refine bP (cs := #[.int .i64 ((rd_T48 l0_1 t355).f0), .int .i64 0, .int .i64 0]) ?_ 1 _ rfl; (with_reducible repeat (first | refine bN ?_ _ | refine bD ?_ | refine bA ?_ _)); refine bP (cs := #[.int .i64 0, .int .i64 0, .int .i64 0]) ?_ 0 _ rfl; (with_reducible repeat (first | refine bN ?_ _ | refine bD ?_ | refine bA ?_ _)); exact BK354.out) Try.underlying48 rfl (by kernel_rfl)) rfl ?_
    exact ⟨by first | rfl | (simp [errW_none, errW_some] <;> rfl) | (simp [*, errW_none, errW_some] <;> rfl), by repeat (first | (with_reducible first | exact HB.out | apply wA | apply wN_ | apply wD | refine wS ?_ GE353.out | refine wS ?_ GE354.out) | exact HB.out)⟩
   ·rw [if_neg c6] at H
    exact absurd H (by simp)
  ·rw [if_neg c5] at H
   exact absurd H (by simp)
 ·replace c4 := Bool.eq_false_iff.mpr c4
  subst c4
  have H1 : (some (0, 0, 0, false)) = some (r1, r2, r3, r4) := by rw [if_neg (show ¬ (false = true) by decide)] at H; exact H
  clear H
  have H := H1
  clear H1
  simp only [Option.some.injEq, Prod.mk.injEq] at H
  obtain ⟨rfl, rfl, rfl, rfl⟩ := H
  go_enter Try.func24, Try.ntmps24
  go_wp2_with (first|((with_reducible refine gate_dst (N:=2) rfl ?_);refine box_event ?hg (N:=2) ?hd (cs:=#[.int .i64 a0_0,.slice A0_1 l0_1.length c0_1]) (t:=41) ?hr ?_;(case hd => rfl);(case hg => rfl);(case hr => first|(go_simp;done)|(go_simp;rfl));intro gb353 hg w14 hbox hb;have n0_:=aM (wT (by repeat (first|(with_reducible first|exact HB.out|apply wA|apply wN_|apply wD)|exact HB.out)) hb);have n1_:=aM (hbox);have n2_:=aM ((by rw [hg];exact (wZ (by repeat (first|(with_reducible first|exact HB.out|apply wA|apply wN_|apply wD)|exact HB.out))) : w.heap.size ≤ gb353));have n3_:=aM ((by rw [hg];exact (wZ (by repeat (first|(with_reducible first|exact HB.out|apply wA|apply wN_|apply wD)|exact HB.out))) : w.heap.size ≤ gb353));clear HB;have HB:=n0_;have BK353:=n1_;have GW353:=n2_;have GE353:=n3_;clear n0_ n1_ n2_ n3_;clear hb hbox hg)|((with_reducible refine gate_dst (N:=4) rfl ?_);refine box_event ?hg (N:=4) ?hd (cs:=#[.int .i64 0,.int .i64 0,.int .i64 0]) (t:=48) ?hr ?_;(case hd => rfl);(case hg => rfl);(case hr => first|(go_simp;done)|(go_simp;rfl));intro gb354 hg w15 hbox hb;have n0_:=aM (bB (g:=gb353) (o:=.cells #[.int .i64 a0_0,.slice A0_1 l0_1.length c0_1] 41 (0,0)) (by (with_reducible repeat (first|refine bN ?_ _|refine bD ?_|refine bA ?_ _));exact BK353.out) hb);have n1_:=aM (wT (by repeat (first|(with_reducible first|exact HB.out|apply wA|apply wN_|apply wD|refine wS ?_ GE353.out)|exact HB.out)) hb);have n2_:=aM (hbox);have n3_:=aM ((by rw [hg];exact (wZ (by repeat (first|(with_reducible first|exact HB.out|apply wA|apply wN_|apply wD|refine wS ?_ GE353.out)|exact HB.out))) : w.heap.size ≤ gb354));have n4_:=aM ((by rw [hg];exact (wZ (by repeat (first|(with_reducible first|exact HB.out|apply wA|apply wN_|apply wD|refine wS ?_ GE353.out)|exact HB.out))) : w.heap.size ≤ gb354));have n5_:=aM ((by rw [hg];exact Nat.ne_of_lt (bL (g:=gb353) (o:=.cells #[.int .i64 a0_0,.slice A0_1 l0_1.length c0_1] 41 (0,0)) (by (with_reducible repeat (first|refine bN ?_ _|refine bD ?_|refine bA ?_ _));exact BK353.out)) : gb353 ≠ gb354));have n6_:=aM ((by rw [hg];exact Nat.ne_of_gt (bL (g:=gb353) (o:=.cells #[.int .i64 a0_0,.slice A0_1 l0_1.length c0_1] 41 (0,0)) (by (with_reducible repeat (first|refine bN ?_ _|refine bD ?_|refine bA ?_ _));exact BK353.out)) : gb354 ≠ gb353));clear BK353;clear HB;have BK353:=n0_;have HB:=n1_;have BK354:=n2_;have GW354:=n3_;have GE354:=n4_;have NB353_354:=n5_;have NB354_353:=n6_;clear n0_ n1_ n2_ n3_ n4_ n5_ n6_;clear hb hbox hg;have hnb16:=NB353_354.out;have hnc16:=NB354_353.out;have hcz17_0 : w15.cell? ⟨gb353,0,none⟩ = some (.int .i64 a0_0):=(bC BK353.out 0).trans rfl;have hcz17_1 : w15.cell? ⟨gb353,1,none⟩ = some (.slice A0_1 l0_1.length c0_1):=(bC BK353.out 1).trans rfl;have hfz17_0:=bF BK353.out 0;have hfz17_1:=bF BK353.out 1)|((with_reducible refine gate_callee (f:=56) rfl ?_);refine goesL_ (some 12) rfl rfl Try.func56 (by kernel_rfl) rfl #[.slice A0_1 l0_1.length c0_1,.int .i64 a1] rfl (by (try simp only [lM,lC,lN]);first|done|rfl|(simp only [lD,lT];rfl)) ?_;(with_reducible refine (model_place.calls _ _ l0_1 a1 t355 false _ ?side1 ?side2 A3.out).mono ?_);(case side1 => repeat (first|exact (cB HR0_1.out HB.out)|(with_reducible refine cA ?_ _)|(with_reducible refine cN ?_ _)|(with_reducible refine cD ?_)));(case side2 => exact HC0_1.out);rintro e w18 ⟨rfl,hb⟩;refine ⟨_,rfl,?_⟩;have n0_:=aM (bB (g:=gb353) (o:=.cells #[.int .i64 a0_0,.slice A0_1 l0_1.length c0_1] 41 (0,0)) (by (with_reducible repeat (first|refine bN ?_ _|refine bD ?_|refine bA ?_ _));exact BK353.out) hb);have n1_:=aM (bB (g:=gb354) (o:=.cells #[.int .i64 0,.int .i64 0,.int .i64 0] 48 (0,0)) (by (with_reducible repeat (first|refine bN ?_ _|refine bD ?_|refine bA ?_ _));exact BK354.out) hb);have n2_:=aM (wT (by repeat (first|(with_reducible first|exact HB.out|apply wA|apply wN_|apply wD|refine wS ?_ GE353.out|refine wS ?_ GE354.out)|exact HB.out)) hb);clear BK353;clear BK354;clear HB;have BK353:=n0_;have BK354:=n1_;have HB:=n2_;clear n0_ n1_ n2_;(try clear hb);(try clear hb2);(try clear hk);(try clear hi);have hcz19_0 : w18.cell? ⟨gb354,0,none⟩ = some (.int .i64 0):=(bC BK354.out 0).trans rfl;have hcz19_1 : w18.cell? ⟨gb354,1,none⟩ = some (.int .i64 0):=(bC BK354.out 1).trans rfl;have hcz19_2 : w18.cell? ⟨gb354,2,none⟩ = some (.int .i64 0):=(bC BK354.out 2).trans rfl;have hfz19_0:=bF BK354.out 0;have hfz19_1:=bF BK354.out 1;have hfz19_2:=bF BK354.out 2))
  refine bodyPost_ret (results_ct rfl _ _ gb354 48 #[.int .i64 0, .int .i64 0, .int .i64 0] (0, 0) _ rfl (by (with_reducible repeat (first | refine bN ?_ _ | refine bD ?_ | refine bA ?_ _)); refine bP (cs := #[.int .i64 0, .int .i64 0, .int .i64 0]) ?_ 2 _ rfl; (with_reducible repeat (first | refine bN ?_ _ | refine bD ?_ | refine bA ?_ _)); refine bP (cs := #[.int .i64 0, .int .i64 0, .int .i64 0]) ?_ 1 _ rfl; (with_reducible repeat (first | refine bN ?_ _ | refine bD ?_ | refine bA ?_ _)); refine bP (cs := #[.int .i64 0, .int .i64 0, .int .i64 0]) ?_ 0 _ rfl; (with_reducible repeat (first | refine bN ?_ _ | refine bD ?_ | refine bA ?_ _)); exact BK354.out) Try.underlying48 rfl (by kernel_rfl)) rfl ?_
  exact ⟨by first | rfl | (simp [errW_none, errW_some] <;> rfl) | (simp [*, errW_none, errW_some] <;> rfl), by repeat (first | (with_reducible first | exact HB.out | apply wA | apply wN_ | apply wD | refine wS ?_ GE353.out | refine wS ?_ GE354.out) | exact HB.out)⟩

end Go.Proofs.Ytflhbakjlbmfbaa.Pr
