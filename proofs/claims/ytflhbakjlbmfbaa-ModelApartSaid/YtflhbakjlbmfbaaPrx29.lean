-- Printed by a program of this session (wip/tools/myprint.py) that runs the kit's print with contracts of this session's own.
import Derived.Test.YtflhbakjlbmfbaaPrx0
import Derived.Test.YtflhbakjlbmfbaaShort
import Derived.Test.YtflhbakjlbmfbaaWTab
import Derived.Test.YtflhbakjlbmfbaaPrx24
import Derived.Test.YtflhbakjlbmfbaaPrx23
namespace Go.Proofs.Ytflhbakjlbmfbaa.Pr
open Go.RowKit Go.Proofs.YtflhbakjlbmfbaaW.PrintWords Go.Proofs.YtflhbakjlbmfbaaW.PrintLast Go.Proofs.YtflhbakjlbmfbaaW.PrintMore
attribute [local go_sem] max2_int min2_int max_two min_two max_three min_three max_four min_four   -- for this text's walks alone
set_option linter.unusedVariables false
set_option linter.unusedSimpArgs false

attribute [local go_sem high] eqA48
/-! ### model_Free: function 25 -/
def model_Free.f (a0_0 : Int) (l0_1 : List (S48)) (a1 : Int) : Option (Int × (List (S48)) × Int) := (model_place.f l0_1 a1).bind fun bt360 => (if bt360.2 = true then ((api_Live_58.f l0_1).bind fun t362 => ((api_Live_59.f t362 bt360.1 (wrap64 (bt360.1 + 1))).bind fun t365 => (some (a0_0, t365, 0)))) else (some (0, ([] : List (S48)), 2)))
def model_Free.T4 : Bool × List (List Nat × List Nat) := (true, [([], []), ([0], [0]), ([], []), ([2], [2]), ([3], [3]), ([], []), ([], []), ([6], [6]), ([4, 5, 7, 4], [4, 5, 7]), ([1, 8], [1, 8]), ([9, 8, 0, 1, 2, 3, 4, 5, 6, 7, 8, 9], [9]), ([10, 0, 1, 2, 3, 4, 5, 6, 7, 8, 9, 10], [])])
def model_Free.B4 : List Nat := [0, 1, 0, 4, 12, 0, 0, 64, 252, 511, 1023, 2047]
theorem model_Free.tab4 : rtab .any (opsOf Try.f25 4) = model_Free.T4 := by kernel_rfl
theorem model_Free.bits4 : waitsOk model_Free.T4.2 model_Free.B4 = true := by kernel_rfl
set_option maxHeartbeats 8000000 in
set_option maxRecDepth 100000 in
theorem model_Free.calls (a0_0 : Int) (A0_1 : Option Addr) (c0_1 : Nat) (l0_1 : List (S48)) (a1 : Int) (r1 : Int) (r2 : List (S48)) (r3 : Int) (w : World) (hr0_1 : Kd.C k48 w A0_1 l0_1.length l0_1) (hc0_1 : l0_1.length ≤ c0_1) (h : model_Free.f a0_0 l0_1 a1 = some (r1, r2, r3)) :
  Calls Try.prog 25 #[.agg #[.int .i64 a0_0, .slice A0_1 l0_1.length c0_1], .int .i64 a1] w fun e w' => ∃ v1_ : Value, e = .returned (.tuple #[.agg #[.int .i64 r1, v1_], .int .i64 r3]) ∧ Kd.R k48 48 w' w.heap.size (fun _ => True) v1_ r2 ∧ Below w.heap.size w w' := by
 have hu41 := Try.underlying41
 have HR0_1 := aM hr0_1
 have HC0_1 := aM hc0_1
 clear hr0_1 hc0_1
 have HB := aM (Below.refl w.heap.size w)
 have H : ((model_place.f l0_1 a1).bind fun bt360 => (if bt360.2 = true then ((api_Live_58.f l0_1).bind fun t362 => ((api_Live_59.f t362 bt360.1 (wrap64 (bt360.1 + 1))).bind fun t365 => (some (a0_0, t365, 0)))) else (some (0, ([] : List (S48)), 2)))) = some (r1, r2, r3) := h
 clear h
 replace H := Option.bind_eq_some_iff.mp H
 obtain ⟨⟨t360, t361⟩, A30, H⟩ := H
 replace H : (if t361 = true then ((api_Live_58.f l0_1).bind fun t362 => ((api_Live_59.f t362 t360 (wrap64 (t360 + 1))).bind fun t365 => (some (a0_0, t365, 0)))) else (some (0, ([] : List (S48)), 2))) = some (r1, r2, r3) := H
 have A3 := aM A30
 clear A30
 by_cases c4 : t361 = true
 ·subst c4
  have H1 : ((api_Live_58.f l0_1).bind fun t362 => ((api_Live_59.f t362 t360 (wrap64 (t360 + 1))).bind fun t365 => (some (a0_0, t365, 0)))) = some (r1, r2, r3) := by rw [if_pos rfl] at H; exact H
  clear H
  have H := H1
  clear H1
  replace H := Option.bind_eq_some_iff.mp H
  obtain ⟨t362, A50, H⟩ := H
  replace H : ((api_Live_59.f t362 t360 (wrap64 (t360 + 1))).bind fun t365 => (some (a0_0, t365, 0))) = some (r1, r2, r3) := H
  have A5 := aM A50
  clear A50
  replace H := Option.bind_eq_some_iff.mp H
  obtain ⟨t365, A60, H⟩ := H
  replace H : (some (a0_0, t365, 0)) = some (r1, r2, r3) := H
  have A6 := aM A60
  clear A60
  simp only [Option.some.injEq, Prod.mk.injEq] at H
  obtain ⟨rfl, rfl, rfl⟩ := H
  go_enter Try.func25, Try.ntmps25
  try go_wp2_with (first|((with_reducible refine gate_dst (N:=2) rfl ?_);refine box_event ?hg (N:=2) ?hd (cs:=#[.int .i64 a0_0,.slice A0_1 l0_1.length c0_1]) (t:=41) ?hr ?_;(case hd => rfl);(case hg => rfl);(case hr => first|(go_simp;done)|(go_simp;rfl));intro gb358 hg w7 hbox hb;have n0_:=aM (wT (by repeat (first|(with_reducible first|exact HB.out|apply wA|apply wN_|apply wD)|exact HB.out)) hb);have n1_:=aM (hbox);have n2_:=aM ((by rw [hg];exact (wZ (by repeat (first|(with_reducible first|exact HB.out|apply wA|apply wN_|apply wD)|exact HB.out))) : w.heap.size ≤ gb358));have n3_:=aM ((by rw [hg];exact (wZ (by repeat (first|(with_reducible first|exact HB.out|apply wA|apply wN_|apply wD)|exact HB.out))) : w.heap.size ≤ gb358));clear HB;have HB:=n0_;have BK358:=n1_;have GW358:=n2_;have GE358:=n3_;clear n0_ n1_ n2_ n3_;clear hb hbox hg)|((with_reducible refine gate_dst (N:=4) rfl ?_);refine box_event ?hg (N:=4) ?hd (cs:=#[.int .i64 0,.slice none 0 0]) (t:=41) ?hr ?_;(case hd => rfl);(case hg => rfl);(case hr => first|(go_simp;done)|(go_simp;rfl));intro gb359 hg w8 hbox hb;have n0_:=aM (bB (g:=gb358) (o:=.cells #[.int .i64 a0_0,.slice A0_1 l0_1.length c0_1] 41 (0,0)) (by (with_reducible repeat (first|refine bN ?_ _|refine bD ?_|refine bA ?_ _));exact BK358.out) hb);have n1_:=aM (wT (by repeat (first|(with_reducible first|exact HB.out|apply wA|apply wN_|apply wD|refine wS ?_ GE358.out)|exact HB.out)) hb);have n2_:=aM (hbox);have n3_:=aM ((by rw [hg];exact (wZ (by repeat (first|(with_reducible first|exact HB.out|apply wA|apply wN_|apply wD|refine wS ?_ GE358.out)|exact HB.out))) : w.heap.size ≤ gb359));have n4_:=aM ((by rw [hg];exact (wZ (by repeat (first|(with_reducible first|exact HB.out|apply wA|apply wN_|apply wD|refine wS ?_ GE358.out)|exact HB.out))) : w.heap.size ≤ gb359));have n5_:=aM ((by rw [hg];exact Nat.ne_of_lt (bL (g:=gb358) (o:=.cells #[.int .i64 a0_0,.slice A0_1 l0_1.length c0_1] 41 (0,0)) (by (with_reducible repeat (first|refine bN ?_ _|refine bD ?_|refine bA ?_ _));exact BK358.out)) : gb358 ≠ gb359));have n6_:=aM ((by rw [hg];exact Nat.ne_of_gt (bL (g:=gb358) (o:=.cells #[.int .i64 a0_0,.slice A0_1 l0_1.length c0_1] 41 (0,0)) (by (with_reducible repeat (first|refine bN ?_ _|refine bD ?_|refine bA ?_ _));exact BK358.out)) : gb359 ≠ gb358));clear BK358;clear HB;have BK358:=n0_;have HB:=n1_;have BK359:=n2_;have GW359:=n3_;have GE359:=n4_;have NB358_359:=n5_;have NB359_358:=n6_;clear n0_ n1_ n2_ n3_ n4_ n5_ n6_;clear hb hbox hg;have hnb9:=NB358_359.out;have hnc9:=NB359_358.out;have hcz10_0 : w8.cell? ⟨gb358,0,none⟩ = some (.int .i64 a0_0):=(bC BK358.out 0).trans rfl;have hcz10_1 : w8.cell? ⟨gb358,1,none⟩ = some (.slice A0_1 l0_1.length c0_1):=(bC BK358.out 1).trans rfl;have hfz10_0:=bF BK358.out 0;have hfz10_1:=bF BK358.out 1)|((with_reducible refine gate_callee (f:=56) rfl ?_);refine goesL_ (some 12) rfl rfl Try.func56 (by kernel_rfl) rfl #[.slice A0_1 l0_1.length c0_1,.int .i64 a1] rfl (by (try simp only [lM,lC,lN]);first|done|rfl|(simp only [lD,lT];rfl)) ?_;(with_reducible refine (model_place.calls _ _ l0_1 a1 t360 true _ ?side1 ?side2 A3.out).mono ?_);(case side1 => repeat (first|exact (cB HR0_1.out HB.out)|(with_reducible refine cA ?_ _)|(with_reducible refine cN ?_ _)|(with_reducible refine cD ?_)));(case side2 => exact HC0_1.out);rintro e w11 ⟨rfl,hb⟩;refine ⟨_,rfl,?_⟩;have n0_:=aM (bB (g:=gb358) (o:=.cells #[.int .i64 a0_0,.slice A0_1 l0_1.length c0_1] 41 (0,0)) (by (with_reducible repeat (first|refine bN ?_ _|refine bD ?_|refine bA ?_ _));exact BK358.out) hb);have n1_:=aM (bB (g:=gb359) (o:=.cells #[.int .i64 0,.slice none 0 0] 41 (0,0)) (by (with_reducible repeat (first|refine bN ?_ _|refine bD ?_|refine bA ?_ _));exact BK359.out) hb);have n2_:=aM (wT (by repeat (first|(with_reducible first|exact HB.out|apply wA|apply wN_|apply wD|refine wS ?_ GE358.out|refine wS ?_ GE359.out)|exact HB.out)) hb);clear BK358;clear BK359;clear HB;have BK358:=n0_;have BK359:=n1_;have HB:=n2_;clear n0_ n1_ n2_;(try clear hb);(try clear hb2);(try clear hk);(try clear hi)))
  have n0_ := aM (bD BK358.out)
  have n1_ := aM (bD BK359.out)
  have n2_ := aM (wD HB.out)
  clear BK358
  clear BK359
  clear HB
  have BK358 := n0_
  have BK359 := n1_
  have HB := n2_
  clear n0_ n1_ n2_
  refine start_ (n := 12) (S := fun w' => w'.cell? ⟨gb358, 0, none⟩ = some (.int .i64 a0_0) ∧ w'.cell? ⟨gb358, 1, none⟩ = some (.slice A0_1 l0_1.length c0_1)) (ds := []) #[false, false, false, false, false, false, false, false, false, false, false, false] (by kernel_rfl) rfl rfl ⟨(bC BK358.out 0).trans rfl, (bC BK358.out 1).trans rfl⟩ (fun hHeld => ?_); refine with_tabW model_Free.tab4 model_Free.bits4 (fun HT_ HW_ => ?_)
  generalize w11.drew = w12 at BK358 BK359 HB hHeld ⊢
  refine pure_ (i := 0) (N := some 18) (v := ?_) (a' := ?_) #[true, false, false, false, false, false, false, false, false, false, false, false] rfl rfl (any_of HT_.out (by kernel_rfl)) (fun _ _ _ h => h) (Or.inl ⟨by rfl, ?_⟩) ?_ ?_
  rotate_left
  ·intro w'
   go_simp
   with_reducible rfl
  rotate_left
  ·simp only [Act.put, lS, lZ, lU, i64_w, i32_w]
   rfl
  refine pure_ (i := 2) (N := some 20) (v := ?_) (a' := ?_) #[true, false, true, false, false, false, false, false, false, false, false, false] rfl rfl (any_of HT_.out (by kernel_rfl)) (fun _ _ _ h => h) (Or.inl ⟨by rfl, ?_⟩) ?_ ?_
  rotate_left
  ·intro w'
   go_simp
   with_reducible rfl
  rotate_left
  ·simp only [Act.put, lS, lZ, lU, i64_w, i32_w]
   rfl
  refine pure_ (i := 5) (N := some 23) (v := ?_) (a' := ?_) #[true, false, true, false, false, true, false, false, false, false, false, false] rfl rfl (any_of HT_.out (by kernel_rfl)) (fun _ _ _ h => h) (Or.inl ⟨by rfl, ?_⟩) ?_ ?_
  rotate_left
  ·intro w'
   go_simp
   with_reducible rfl
  rotate_left
  ·simp only [Act.put, lS, lZ, lU, i64_w, i32_w]
   rfl
  refine pure_ (i := 6) (N := some 24) (v := ?_) (a' := ?_) #[true, false, true, false, false, true, true, false, false, false, false, false] rfl rfl (any_of HT_.out (by kernel_rfl)) (fun _ _ _ h => h) (Or.inl ⟨by rfl, ?_⟩) ?_ ?_
  rotate_left
  ·intro w'
   go_simp
   with_reducible rfl
  rotate_left
  ·simp only [Act.put, lS, lZ, lU, i64_w, i32_w]
   rfl
  refine pure_ (i := 7) (N := some 25) (v := ?_) (a' := ?_) #[true, false, true, false, false, true, true, true, false, false, false, false] rfl rfl (any_of HT_.out (by kernel_rfl)) (fun _ _ _ h => h) (Or.inl ⟨by rfl, ?_⟩) ?_ ?_
  rotate_left
  ·intro w'
   go_simp
   with_reducible rfl
  rotate_left
  ·simp only [Act.put, lS, lZ, lU, i64_w, i32_w]
   rfl
  refine take_ (i := 1) (N := some 19) (v := ?_) (a' := ?_) #[true, true, true, false, false, true, true, true, false, false, false, false] rfl rfl (take_ofW HT_.out HW_.out (by kernel_rfl)) (fun _ _ _ h => h) (Or.inl ⟨by rfl, ?_⟩) hHeld ?_ ?_
  rotate_left
  ·rintro w' ⟨s0, s1⟩
   go_simp
   with_reducible rfl
  rotate_left
  ·simp only [Act.put, lS, lZ, lU, i64_w, i32_w]
   rfl
  refine take_ (i := 3) (N := some 21) (v := ?_) (a' := ?_) #[true, true, true, true, false, true, true, true, false, false, false, false] rfl rfl (take_ofW HT_.out HW_.out (by kernel_rfl)) (fun _ _ _ h => h) (Or.inl ⟨by rfl, ?_⟩) hHeld ?_ ?_
  rotate_left
  ·rintro w' ⟨s0, s1⟩
   go_simp
   with_reducible rfl
  rotate_left
  ·simp only [Act.put, lS, lZ, lU, i64_w, i32_w]
   rfl
  refine one_ (i := 4) (N := some 22) #[true, true, true, true, true, true, true, true, false, false, false, false] rfl rfl (one_of HT_.out (by kernel_rfl)) (by decide) (fun K hK => ?_)
  refine goes_ Try.func58 (by kernel_rfl) rfl #[.slice A0_1 l0_1.length c0_1] (by rfl) rfl rfl (by (try simp only [lM, lC, lN]); first | done | rfl | (simp only [lD, lT]; rfl)) ?_
  with_reducible refine (api_Live_58.calls _ _ l0_1 t362 _ ?side1 ?side2 A5.out).mono ?_
  (case side1 => repeat (first|exact (cB HR0_1.out HB.out)|(with_reducible refine cA ?_ _)|(with_reducible refine cN ?_ _)|(with_reducible refine cD ?_)))
  (case side2 => exact HC0_1.out)
  rintro e w13 ⟨v363, rfl, ho0, hb⟩
  refine ⟨_, rfl, ?_⟩
  have n0_ := aM (Kd.R_lower ho0 (wZ (by repeat (first | (with_reducible first | exact HB.out | apply wA | apply wN_ | apply wD | refine wS ?_ GE358.out | refine wS ?_ GE359.out) | exact HB.out))))
  have n1_ := aM (bB (g := gb358) (o := .cells #[.int .i64 a0_0, .slice A0_1 l0_1.length c0_1] 41 (0, 0)) (by (with_reducible repeat (first | refine bN ?_ _ | refine bD ?_ | refine bA ?_ _)); exact BK358.out) hb)
  have n2_ := aM (bB (g := gb359) (o := .cells #[.int .i64 0, .slice none 0 0] 41 (0, 0)) (by (with_reducible repeat (first | refine bN ?_ _ | refine bD ?_ | refine bA ?_ _)); exact BK359.out) hb)
  have n3_ := aM (wT (by repeat (first | (with_reducible first | exact HB.out | apply wA | apply wN_ | apply wD | refine wS ?_ GE358.out | refine wS ?_ GE359.out) | exact HB.out)) hb)
  clear BK358
  clear BK359
  clear HB
  have HO364 := n0_
  have BK358 := n1_
  have BK359 := n2_
  have HB := n3_
  clear n0_ n1_ n2_ n3_
  (try clear hb)
  (try clear hb2)
  (try clear hk)
  (try clear hi)
  (try clear ho0)
  obtain ⟨Ao14, co14, eo14⟩ := Kd.R_slice HO364.out
  (first | subst eo14 | (injection eo14 with f1_ f2_ f3_; have f4_ := f1_.symm; have f5_ := f3_.symm; clear f1_ f2_ f3_; subst f4_; subst f5_))
  refine hK.out _ _ ⟨(bC BK358.out 0).trans rfl, (bC BK358.out 1).trans rfl⟩ (fun hHeld => ?_)
  clear hK K
  refine norm_ (a' := ?_) ?_ ?_
  rotate_left
  ·show Act.put _ (some 22) _ = _
   simp only [Act.put, lS, lZ, lU, i64_w, i32_w]
   rfl
  refine one_ (i := 8) (N := some 26) #[true, true, true, true, true, true, true, true, true, false, false, false] rfl rfl (one_of HT_.out (by kernel_rfl)) (by decide) (fun K hK => ?_)
  refine goes_ Try.func59 (by kernel_rfl) rfl #[.slice Ao14 t362.length co14, .int .i64 t360, .int .i64 (wrap64 (t360 + 1))] (by rfl) rfl rfl (by (try simp only [lM, lC, lN]); first | done | rfl | (simp only [lD, lT]; rfl)) ?_
  with_reducible refine (api_Live_59.calls (fun k_ => some k_ = (.slice Ao14 t362.length co14 : Value).ownBlock) (.slice Ao14 t362.length co14) t362 t360 (wrap64 (t360 + 1)) t365 w _ ?side1 ?side2 A6.out).mono ?_
  (case side1 => repeat (first|(with_reducible first|exact HB.out|apply wA|apply wN_|apply wD|refine wS ?_ GE358.out|refine wS ?_ GE359.out)|exact HB.out))
  (case side2 => exact Kd.R_tight rfl HO364.out)
  rintro e w15 ⟨v366, rfl, ho0, hb, hkp⟩
  refine ⟨_, rfl, ?_⟩
  have n0_ := aM (blk_kept (by (with_reducible repeat (first | refine bN ?_ _ | refine bD ?_ | refine bA ?_ _)); exact BK358.out) hkp (fun hs_ => (fun e_ => (Kd.R_ne HO364.out BK358.out (by decide)) e_) hs_))
  have n1_ := aM (blk_kept (by (with_reducible repeat (first | refine bN ?_ _ | refine bD ?_ | refine bA ?_ _)); exact BK359.out) hkp (fun hs_ => (fun e_ => (Kd.R_ne HO364.out BK359.out (by decide)) e_) hs_))
  have n2_ := aM (rM (ok' := fun k_ => True) ho0 (fun k_ hk_ => trivial))
  have n3_ := aM (hb)
  clear BK358
  clear BK359
  clear HB
  clear HO364
  have BK358 := n0_
  have BK359 := n1_
  have HO367 := n2_
  have HB := n3_
  clear n0_ n1_ n2_ n3_
  (try clear hb)
  (try clear hkp)
  (try clear ho0)
  obtain ⟨Ao16, co16, eo16⟩ := Kd.R_slice HO367.out
  (first | subst eo16 | (injection eo16 with f1_ f2_ f3_; have f4_ := f1_.symm; have f5_ := f3_.symm; clear f1_ f2_ f3_; subst f4_; subst f5_))
  refine hK.out _ _ ⟨(bC BK358.out 0).trans rfl, (bC BK358.out 1).trans rfl⟩ (fun hHeld => ?_)
  clear hK K
  refine norm_ (a' := ?_) ?_ ?_
  rotate_left
  ·show Act.put _ (some 26) _ = _
   simp only [Act.put, lS, lZ, lU, i64_w, i32_w]
   rfl
  refine pure_ (i := 9) (N := some 27) (v := ?_) (a' := ?_) #[true, true, true, true, true, true, true, true, true, true, false, false] rfl rfl (any_of HT_.out (by kernel_rfl)) (fun _ _ _ h => h) (Or.inl ⟨by rfl, ?_⟩) ?_ ?_
  rotate_left
  ·intro w'
   go_simp
   with_reducible rfl
  rotate_left
  ·simp only [Act.put, lS, lZ, lU, i64_w, i32_w]
   rfl
  refine one_ (i := 10) (N := none) #[true, true, true, true, true, true, true, true, true, true, true, false] rfl rfl (one_of HT_.out (by kernel_rfl)) (by decide) (fun K hK => ?_)
  have hs17 : w15.cell? ⟨gb359, 0, none⟩ = some (.int .i64 0) := (bC BK359.out 0).trans rfl
  have hfs17 := bF BK359.out 0
  have hns17_0 := NB358_359.out
  have hms17_0 := NB359_358.out
  have hs18 : w15.cell? ⟨gb359, 1, none⟩ = some (.slice none 0 0) := (bC BK359.out 1).trans rfl
  have hfs18 := bF BK359.out 1
  have hns18_0 := NB358_359.out
  have hms18_0 := NB359_358.out
  refine skip_ (w1 := ?_) (by rfl) rfl ?_ ?_
  rotate_left
  ·go_simp
   rfl
  refine hK.out _ _ ⟨((cell_far (p := ⟨gb359, _, none⟩) NB358_359.out _).trans (((cell_far (p := ⟨gb359, _, none⟩) NB358_359.out _).trans (hHeld.1)))), ((cell_far (p := ⟨gb359, _, none⟩) NB358_359.out _).trans (((cell_far (p := ⟨gb359, _, none⟩) NB358_359.out _).trans (hHeld.2))))⟩ (fun hHeld => ?_)
  clear hK K
  refine pure_ (i := 11) (N := some 5) (v := ?_) (a' := ?_) #[true, true, true, true, true, true, true, true, true, true, true, true] rfl rfl (any_of HT_.out (by kernel_rfl)) (fun _ _ _ h => h) (Or.inl ⟨by rfl, ?_⟩) ?_ ?_
  rotate_left
  ·intro w'
   go_simp
   with_reducible rfl
  rotate_left
  ·simp only [Act.put, lS, lZ, lU, i64_w, i32_w]
   rfl
  refine done_ (done_of HT_.out (by kernel_rfl)) ?_
  try go_wp2
  refine bodyPost_ret (results_ct rfl _ _ gb359 41 #[.int .i64 a0_0, .slice Ao16 t365.length co16] (0, 0) _ rfl (by (with_reducible repeat (first | refine bN ?_ _ | refine bD ?_ | refine bA ?_ _)); refine bP (cs := #[.int .i64 a0_0, .slice none 0 0]) ?_ 1 _ rfl; (with_reducible repeat (first | refine bN ?_ _ | refine bD ?_ | refine bA ?_ _)); refine bP (cs := #[.int .i64 0, .slice none 0 0]) ?_ 0 _ rfl; (with_reducible repeat (first | refine bN ?_ _ | refine bD ?_ | refine bA ?_ _)); exact BK359.out) Try.underlying41 rfl (by kernel_rfl)) rfl ?_
  exact ⟨_, by first | rfl | (simp [errW_none, errW_some] <;> rfl) | (simp [*, errW_none, errW_some] <;> rfl), by (with_reducible repeat (first | apply rA | apply rN | apply rD)); exact rM (rF_ (p := ⟨gb359, 1, none⟩) (rF_ (p := ⟨gb359, 0, none⟩) (Kd.R_types HO367.out BK359.out (by decide)) (fun _ hk => hk.2) (.int .i64 a0_0)) (fun _ hk => hk.2) (.slice Ao16 t365.length co16)) (fun _ hk => trivial), by repeat (first | (with_reducible first | exact HB.out | apply wA | apply wN_ | apply wD | refine wS ?_ GE358.out | refine wS ?_ GE359.out) | exact HB.out)⟩
 ·replace c4 := Bool.eq_false_iff.mpr c4
  subst c4
  have H1 : (some (0, ([] : List (S48)), 2)) = some (r1, r2, r3) := by rw [if_neg (show ¬ (false = true) by decide)] at H; exact H
  clear H
  have H := H1
  clear H1
  simp only [Option.some.injEq, Prod.mk.injEq] at H
  obtain ⟨rfl, rfl, rfl⟩ := H
  go_enter Try.func25, Try.ntmps25
  go_wp2_with (first|((with_reducible refine gate_dst (N:=2) rfl ?_);refine box_event ?hg (N:=2) ?hd (cs:=#[.int .i64 a0_0,.slice A0_1 l0_1.length c0_1]) (t:=41) ?hr ?_;(case hd => rfl);(case hg => rfl);(case hr => first|(go_simp;done)|(go_simp;rfl));intro gb358 hg w19 hbox hb;have n0_:=aM (wT (by repeat (first|(with_reducible first|exact HB.out|apply wA|apply wN_|apply wD)|exact HB.out)) hb);have n1_:=aM (hbox);have n2_:=aM ((by rw [hg];exact (wZ (by repeat (first|(with_reducible first|exact HB.out|apply wA|apply wN_|apply wD)|exact HB.out))) : w.heap.size ≤ gb358));have n3_:=aM ((by rw [hg];exact (wZ (by repeat (first|(with_reducible first|exact HB.out|apply wA|apply wN_|apply wD)|exact HB.out))) : w.heap.size ≤ gb358));clear HB;have HB:=n0_;have BK358:=n1_;have GW358:=n2_;have GE358:=n3_;clear n0_ n1_ n2_ n3_;clear hb hbox hg)|((with_reducible refine gate_dst (N:=4) rfl ?_);refine box_event ?hg (N:=4) ?hd (cs:=#[.int .i64 0,.slice none 0 0]) (t:=41) ?hr ?_;(case hd => rfl);(case hg => rfl);(case hr => first|(go_simp;done)|(go_simp;rfl));intro gb359 hg w20 hbox hb;have n0_:=aM (bB (g:=gb358) (o:=.cells #[.int .i64 a0_0,.slice A0_1 l0_1.length c0_1] 41 (0,0)) (by (with_reducible repeat (first|refine bN ?_ _|refine bD ?_|refine bA ?_ _));exact BK358.out) hb);have n1_:=aM (wT (by repeat (first|(with_reducible first|exact HB.out|apply wA|apply wN_|apply wD|refine wS ?_ GE358.out)|exact HB.out)) hb);have n2_:=aM (hbox);have n3_:=aM ((by rw [hg];exact (wZ (by repeat (first|(with_reducible first|exact HB.out|apply wA|apply wN_|apply wD|refine wS ?_ GE358.out)|exact HB.out))) : w.heap.size ≤ gb359));have n4_:=aM ((by rw [hg];exact (wZ (by repeat (first|(with_reducible first|exact HB.out|apply wA|apply wN_|apply wD|refine wS ?_ GE358.out)|exact HB.out))) : w.heap.size ≤ gb359));have n5_:=aM ((by rw [hg];exact Nat.ne_of_lt (bL (g:=gb358) (o:=.cells #[.int .i64 a0_0,.slice A0_1 l0_1.length c0_1] 41 (0,0)) (by (with_reducible repeat (first|refine bN ?_ _|refine bD ?_|refine bA ?_ _));exact BK358.out)) : gb358 ≠ gb359));have n6_:=aM ((by rw [hg];exact Nat.ne_of_gt (bL (g:=gb358) (o:=.cells #[.int .i64 a0_0,.slice A0_1 l0_1.length c0_1] 41 (0,0)) (by (with_reducible repeat (first|refine bN ?_ _|refine bD ?_|refine bA ?_ _));exact BK358.out)) : gb359 ≠ gb358));clear BK358;clear HB;have BK358:=n0_;have HB:=n1_;have BK359:=n2_;have GW359:=n3_;have GE359:=n4_;have NB358_359:=n5_;have NB359_358:=n6_;clear n0_ n1_ n2_ n3_ n4_ n5_ n6_;clear hb hbox hg;have hnb21:=NB358_359.out;have hnc21:=NB359_358.out;have hcz22_0 : w20.cell? ⟨gb358,0,none⟩ = some (.int .i64 a0_0):=(bC BK358.out 0).trans rfl;have hcz22_1 : w20.cell? ⟨gb358,1,none⟩ = some (.slice A0_1 l0_1.length c0_1):=(bC BK358.out 1).trans rfl;have hfz22_0:=bF BK358.out 0;have hfz22_1:=bF BK358.out 1)|((with_reducible refine gate_callee (f:=56) rfl ?_);refine goesL_ (some 12) rfl rfl Try.func56 (by kernel_rfl) rfl #[.slice A0_1 l0_1.length c0_1,.int .i64 a1] rfl (by (try simp only [lM,lC,lN]);first|done|rfl|(simp only [lD,lT];rfl)) ?_;(with_reducible refine (model_place.calls _ _ l0_1 a1 t360 false _ ?side1 ?side2 A3.out).mono ?_);(case side1 => repeat (first|exact (cB HR0_1.out HB.out)|(with_reducible refine cA ?_ _)|(with_reducible refine cN ?_ _)|(with_reducible refine cD ?_)));(case side2 => exact HC0_1.out);rintro e w23 ⟨rfl,hb⟩;refine ⟨_,rfl,?_⟩;have n0_:=aM (bB (g:=gb358) (o:=.cells #[.int .i64 a0_0,.slice A0_1 l0_1.length c0_1] 41 (0,0)) (by (with_reducible repeat (first|refine bN ?_ _|refine bD ?_|refine bA ?_ _));exact BK358.out) hb);have n1_:=aM (bB (g:=gb359) (o:=.cells #[.int .i64 0,.slice none 0 0] 41 (0,0)) (by (with_reducible repeat (first|refine bN ?_ _|refine bD ?_|refine bA ?_ _));exact BK359.out) hb);have n2_:=aM (wT (by repeat (first|(with_reducible first|exact HB.out|apply wA|apply wN_|apply wD|refine wS ?_ GE358.out|refine wS ?_ GE359.out)|exact HB.out)) hb);clear BK358;clear BK359;clear HB;have BK358:=n0_;have BK359:=n1_;have HB:=n2_;clear n0_ n1_ n2_;(try clear hb);(try clear hb2);(try clear hk);(try clear hi);have hcz24_0 : w23.cell? ⟨gb359,0,none⟩ = some (.int .i64 0):=(bC BK359.out 0).trans rfl;have hcz24_1 : w23.cell? ⟨gb359,1,none⟩ = some (.slice none 0 0):=(bC BK359.out 1).trans rfl;have hfz24_0:=bF BK359.out 0;have hfz24_1:=bF BK359.out 1))
  refine bodyPost_ret (results_ct rfl _ _ gb359 41 #[.int .i64 0, .slice none 0 0] (0, 0) _ rfl (by (with_reducible repeat (first | refine bN ?_ _ | refine bD ?_ | refine bA ?_ _)); refine bP (cs := #[.int .i64 0, .slice none 0 0]) ?_ 1 _ rfl; (with_reducible repeat (first | refine bN ?_ _ | refine bD ?_ | refine bA ?_ _)); refine bP (cs := #[.int .i64 0, .slice none 0 0]) ?_ 0 _ rfl; (with_reducible repeat (first | refine bN ?_ _ | refine bD ?_ | refine bA ?_ _)); exact BK359.out) Try.underlying41 rfl (by kernel_rfl)) rfl ?_
  exact ⟨_, by first | rfl | (simp [errW_none, errW_some] <;> rfl) | (simp [*, errW_none, errW_some] <;> rfl), by first | exact Kd.R_nil _ _ _ _ _ | exact Kd.N_nil _ _ _ _ _ | exact Kd.V_nil _ _ _ _ _ | exact Kd.Q_nil _ _ _ _ _ | exact Kd.S_nil _ _ _ _ _, by repeat (first | (with_reducible first | exact HB.out | apply wA | apply wN_ | apply wD | refine wS ?_ GE358.out | refine wS ?_ GE359.out) | exact HB.out)⟩

/-! ### rickyardref13_SameLive: function 60 -/
def rickyardref13_SameLive.l0 : Nat → List (S48) → List (S48) → Int → Option (Bool)
 | 0, _, _, _ => none
 | k + 1, x0, x1, x5 => if x5 < (x0.length : Int) then (if 0 ≤ x5 then (if x5 < (x1.length : Int) then (if (!(((rd_T48 x0 x5).f0) == ((rd_T48 x1 x5).f0)) || (!(((rd_T48 x0 x5).f1) == ((rd_T48 x1 x5).f1)) || (!(((rd_T48 x0 x5).f2) == ((rd_T48 x1 x5).f2))))) = true then (some false) else (rickyardref13_SameLive.l0 k x0 x1 (wrap64 (x5 + 1)))) else (none)) else (none)) else (some true)
def rickyardref13_SameLive.f (k : Nat) (l0 : List (S48)) (l1 : List (S48)) : Option (Bool) := if (l0.length : Int) = (l1.length : Int) then (rickyardref13_SameLive.l0 k l0 l1 0) else (some false)
theorem rickyardref13_SameLive.mono_l : ∀ k, (∀ y0 y1 y2, LeO (rickyardref13_SameLive.l0 k y0 y1 y2) (rickyardref13_SameLive.l0 (k + 1) y0 y1 y2))
 | 0 => fun _ _ _ r h => by simp [rickyardref13_SameLive.l0] at h
 | k + 1 => by
  have ih0 := rickyardref13_SameLive.mono_l k
  ·intro y0 y1 y2
   unfold rickyardref13_SameLive.l0
   repeat' first
   | (with_reducible exact ih0 _ _ _)
   | (with_reducible exact LeO.refl _)
   | (with_reducible exact LeO.none _)
   | (with_reducible refine LeO.ite ?_ ?_)
   | (with_reducible refine LeO.bind ?_ (fun _ => ?_))
   | exact ih0 _ _ _
   | exact LeO.none _
   | refine LeO.ite ?_ ?_
   | refine LeO.bind ?_ (fun _ => ?_)
theorem rickyardref13_SameLive.mono : ∀ a0 a1 k, LeO (rickyardref13_SameLive.f k a0 a1) (rickyardref13_SameLive.f (k + 1) a0 a1) := by
 intro a0 a1 k
 have ih0 := rickyardref13_SameLive.mono_l k
 unfold rickyardref13_SameLive.f
 repeat' first
   | (with_reducible exact ih0 _ _ _)
   | (with_reducible exact LeO.refl _)
   | (with_reducible exact LeO.none _)
   | (with_reducible refine LeO.ite ?_ ?_)
   | (with_reducible refine LeO.bind ?_ (fun _ => ?_))
   | exact ih0 _ _ _
   | exact LeO.none _
   | refine LeO.ite ?_ ?_
   | refine LeO.bind ?_ (fun _ => ?_)
set_option maxHeartbeats 8000000 in
set_option maxRecDepth 100000 in
theorem rickyardref13_SameLive.calls (k : Nat) (A0 : Option Addr) (c0 : Nat) (l0 : List (S48)) (A1 : Option Addr) (c1 : Nat) (l1 : List (S48)) (r : Bool) (w : World) (hr0 : Kd.C k48 w A0 l0.length l0) (hc0 : l0.length ≤ c0) (hr1 : Kd.C k48 w A1 l1.length l1) (hc1 : l1.length ≤ c1) (h : rickyardref13_SameLive.f k l0 l1 = some r) :
  Calls Try.prog 60 #[.slice A0 l0.length c0, .slice A1 l1.length c1] w fun e w' => e = .returned (.bool r) ∧ Drawn0 w w' := by
 have hu48 := Try.underlying48
 have HR0 := aM hr0
 have HC0 := aM hc0
 clear hr0 hc0
 have HR1 := aM hr1
 have HC1 := aM hc1
 clear hr1 hc1
 have H : (if (l0.length : Int) = (l1.length : Int) then (rickyardref13_SameLive.l0 k l0 l1 0) else (some false)) = some r := h
 clear h
 by_cases c3 : (l0.length : Int) = (l1.length : Int)
 ·rw [if_pos c3] at H
  have c3b0 : ((l0.length : Int) == (l1.length : Int)) = true := beq_iff_eq.mpr c3
  have c3b1 : ((l0.length : Int) != (l1.length : Int)) = false := bne_eq_false_iff_eq.mpr c3
  have c3b2 : (l0.length == l1.length) = true := by first | simpa using c3 | (simp at c3 ⊢; omega)
  clear c3
  have H' := aM H
  clear H
  go_enter Try.func60, Try.ntmps60
  go_wp2
  repeat (go_quiet (fail);try go_wp2)
  go_loopg [5] k (fun kq v5 w' => ∃ (x5_1 : Int), v5 = .int .i64 x5_1 ∧ Aside0 (rickyardref13_SameLive.l0 kq l0 l1 x5_1 = some r) ∧ Aside0 (kq ≤ k) ∧ Drawn0 w w')
  case atStart => exact ⟨(0),(by first|rfl|(simp;done)|(simp [*];done)),H',⟨Nat.le_refl _⟩,by repeat (first|exact Drawn0.refl _|apply Drawn0.step)⟩
  case round =>
   clear H'
   try clear c1
   try clear p2
   try clear c3
   try clear c3b0
   try clear c3b1
   try clear c3b2
   obtain ⟨x5_1, rfl, HA, HK1, ⟨m1, rfl⟩⟩ := hrel
   cases gk with
   | zero => exact absurd HA.out (by simp [rickyardref13_SameLive.l0])
   | succ k1 =>
    have H := HA.out
    clear HA
    simp only [rickyardref13_SameLive.l0] at H
    by_cases c4 : x5_1 < (l0.length : Int)
    ·rw [if_pos c4] at H
     have c4b0 : decide (x5_1 < (l0.length : Int)) = true := decide_eq_true c4
     clear c4
     by_cases c5 : 0 ≤ x5_1
     ·rw [if_pos c5] at H
      have c5b0 : decide (0 ≤ x5_1) = true := decide_eq_true c5
      clear c5
      by_cases c6 : x5_1 < (l1.length : Int)
      ·rw [if_pos c6] at H
       have c6b0 : decide (x5_1 < (l1.length : Int)) = true := decide_eq_true c6
       clear c6
       by_cases c7 : (!(((rd_T48 l0 x5_1).f0) == ((rd_T48 l1 x5_1).f0)) || (!(((rd_T48 l0 x5_1).f1) == ((rd_T48 l1 x5_1).f1)) || (!(((rd_T48 l0 x5_1).f2) == ((rd_T48 l1 x5_1).f2))))) = true
       ·rw [if_pos c7] at H
        have c7b0 : (!(((rd_T48 l0 x5_1).f0) == ((rd_T48 l1 x5_1).f0)) || (!(((rd_T48 l0 x5_1).f1) == ((rd_T48 l1 x5_1).f1)) || (!(((rd_T48 l0 x5_1).f2) == ((rd_T48 l1 x5_1).f2))))) = true := c7
        clear c7
        obtain rfl := Option.some.inj H
        have p368 : 0 ≤ (x5_1 : Int) := oD (by first | (with_reducible assumption) | assumption)
        have q368 : x5_1 < (l0.length : Int) := oD (by first | (with_reducible assumption) | assumption)
        obtain ⟨ad368, e368, hx368_0, hx368_1, hx368_2⟩ := at_T48 HR0.out x5_1 p368 q368
        cases e368
        replace p368 := eq_true p368
        replace q368 := eq_true q368
        have p369 : 0 ≤ (x5_1 : Int) := oD (by first | (with_reducible assumption) | assumption)
        have q369 : x5_1 < (l1.length : Int) := oD (by first | (with_reducible assumption) | assumption)
        obtain ⟨ad369, e369, hx369_0, hx369_1, hx369_2⟩ := at_T48 HR1.out x5_1 p369 q369
        cases e369
        replace p369 := eq_true p369
        replace q369 := eq_true q369
        go_wp2
        repeat (go_quiet (fail);try go_wp2)
        go_ret
        exact ⟨by first | rfl | (simp; done) | (simp [*]; done), by repeat (first | exact Drawn0.refl _ | apply Drawn0.step)⟩
       ·rw [if_neg c7] at H
        have c7b0 : (!(((rd_T48 l0 x5_1).f0) == ((rd_T48 l1 x5_1).f0)) || (!(((rd_T48 l0 x5_1).f1) == ((rd_T48 l1 x5_1).f1)) || (!(((rd_T48 l0 x5_1).f2) == ((rd_T48 l1 x5_1).f2))))) = false := by simpa using c7
        clear c7
        have H' := aM H
        clear H
        have p368 : 0 ≤ (x5_1 : Int) := oD (by first | (with_reducible assumption) | assumption)
        have q368 : x5_1 < (l0.length : Int) := oD (by first | (with_reducible assumption) | assumption)
        obtain ⟨ad368, e368, hx368_0, hx368_1, hx368_2⟩ := at_T48 HR0.out x5_1 p368 q368
        cases e368
        replace p368 := eq_true p368
        replace q368 := eq_true q368
        have p369 : 0 ≤ (x5_1 : Int) := oD (by first | (with_reducible assumption) | assumption)
        have q369 : x5_1 < (l1.length : Int) := oD (by first | (with_reducible assumption) | assumption)
        obtain ⟨ad369, e369, hx369_0, hx369_1, hx369_2⟩ := at_T48 HR1.out x5_1 p369 q369
        cases e369
        replace p369 := eq_true p369
        replace q369 := eq_true q369
        go_wp2
        repeat (go_quiet (fail);try go_wp2)
        go_roundg k1
        case measure => have:=HK1.out;omega
        case rel => exact ⟨(wrap64 (x5_1 + 1)),(by first|rfl|(simp;done)|(simp [*];done)),H',⟨by have:=HK1.out;omega⟩,by repeat (first|exact Drawn0.refl _|apply Drawn0.step)⟩
      ·rw [if_neg c6] at H
       exact absurd H (by simp)
     ·rw [if_neg c5] at H
      exact absurd H (by simp)
    ·rw [if_neg c4] at H
     have c4b0 : decide (x5_1 < (l0.length : Int)) = false := decide_eq_false c4
     clear c4
     obtain rfl := Option.some.inj H
     go_wp2
     repeat (go_quiet (fail);try go_wp2)
     go_ret
     exact ⟨by first | rfl | (simp; done) | (simp [*]; done), by repeat (first | exact Drawn0.refl _ | apply Drawn0.step)⟩
 ·rw [if_neg c3] at H
  have c3b0 : ((l0.length : Int) == (l1.length : Int)) = false := beq_eq_false_iff_ne.mpr c3
  have c3b1 : ((l0.length : Int) != (l1.length : Int)) = true := bne_iff_ne.mpr c3
  have c3b2 : (l0.length == l1.length) = false := by first | simpa using c3 | (simp at c3 ⊢; omega)
  obtain rfl := Option.some.inj H
  go_enter Try.func60, Try.ntmps60
  go_wp2
  repeat (go_quiet (fail);try go_wp2)
  go_ret
  exact ⟨by first | rfl | (simp; done) | (simp [*]; done), by repeat (first | exact Drawn0.refl _ | apply Drawn0.step)⟩

/-! ### rickyardref13_SameModel: function 26 -/
def rickyardref13_SameModel.f (k : Nat) (a0_0 : Int) (l0_1 : List (S48)) (a1_0 : Int) (l1_1 : List (S48)) : Option (Bool) := if a0_0 = a1_0 then ((rickyardref13_SameLive.f k l0_1 l1_1).bind fun t372 => (some t372)) else (some false)
theorem rickyardref13_SameModel.mono : ∀ a0 a1 a2 a3 k, LeO (rickyardref13_SameModel.f k a0 a1 a2 a3) (rickyardref13_SameModel.f (k + 1) a0 a1 a2 a3) := by
 intro a0 a1 a2 a3 k
 unfold rickyardref13_SameModel.f
 repeat' first
   | (with_reducible exact rickyardref13_SameLive.mono _ _ _)
   | (with_reducible exact LeO.refl _)
   | (with_reducible exact LeO.none _)
   | (with_reducible refine LeO.ite ?_ ?_)
   | (with_reducible refine LeO.bind ?_ (fun _ => ?_))
   | exact rickyardref13_SameLive.mono _ _ _
   | exact LeO.none _
   | refine LeO.ite ?_ ?_
   | refine LeO.bind ?_ (fun _ => ?_)
set_option maxHeartbeats 8000000 in
set_option maxRecDepth 100000 in
theorem rickyardref13_SameModel.calls (k : Nat) (a0_0 : Int) (A0_1 : Option Addr) (c0_1 : Nat) (l0_1 : List (S48)) (a1_0 : Int) (A1_1 : Option Addr) (c1_1 : Nat) (l1_1 : List (S48)) (r : Bool) (w : World) (hr0_1 : Kd.C k48 w A0_1 l0_1.length l0_1) (hc0_1 : l0_1.length ≤ c0_1) (hr1_1 : Kd.C k48 w A1_1 l1_1.length l1_1) (hc1_1 : l1_1.length ≤ c1_1) (h : rickyardref13_SameModel.f k a0_0 l0_1 a1_0 l1_1 = some r) :
  Calls Try.prog 26 #[.agg #[.int .i64 a0_0, .slice A0_1 l0_1.length c0_1], .agg #[.int .i64 a1_0, .slice A1_1 l1_1.length c1_1]] w fun e w' => e = .returned (.bool r) ∧ Below w.heap.size w w' := by
 have hu41 := Try.underlying41
 have HR0_1 := aM hr0_1
 have HC0_1 := aM hc0_1
 clear hr0_1 hc0_1
 have HR1_1 := aM hr1_1
 have HC1_1 := aM hc1_1
 clear hr1_1 hc1_1
 have HB := aM (Below.refl w.heap.size w)
 have H : (if a0_0 = a1_0 then ((rickyardref13_SameLive.f k l0_1 l1_1).bind fun t372 => (some t372)) else (some false)) = some r := h
 clear h
 by_cases c3 : a0_0 = a1_0
 ·rw [if_pos c3] at H
  have c3b0 : (a0_0 == a1_0) = true := beq_iff_eq.mpr c3
  have c3b1 : (a0_0 != a1_0) = false := bne_eq_false_iff_eq.mpr c3
  clear c3
  replace H := Option.bind_eq_some_iff.mp H
  obtain ⟨t372, A40, H⟩ := H
  replace H : (some t372) = some r := H
  have A4 := aM A40
  clear A40
  obtain rfl := Option.some.inj H
  go_enter Try.func26, Try.ntmps26
  go_wp2_with (first|((with_reducible refine gate_dst (N:=2) rfl ?_);refine box_event ?hg (N:=2) ?hd (cs:=#[.int .i64 a0_0,.slice A0_1 l0_1.length c0_1]) (t:=41) ?hr ?_;(case hd => rfl);(case hg => rfl);(case hr => first|(go_simp;done)|(go_simp;rfl));intro gb370 hg w5 hbox hb;have n0_:=aM (wT (by repeat (first|(with_reducible first|exact HB.out|apply wA|apply wN_|apply wD)|exact HB.out)) hb);have n1_:=aM (hbox);have n2_:=aM ((by rw [hg];exact (wZ (by repeat (first|(with_reducible first|exact HB.out|apply wA|apply wN_|apply wD)|exact HB.out))) : w.heap.size ≤ gb370));have n3_:=aM ((by rw [hg];exact (wZ (by repeat (first|(with_reducible first|exact HB.out|apply wA|apply wN_|apply wD)|exact HB.out))) : w.heap.size ≤ gb370));clear HB;have HB:=n0_;have BK370:=n1_;have GW370:=n2_;have GE370:=n3_;clear n0_ n1_ n2_ n3_;clear hb hbox hg)|((with_reducible refine gate_dst (N:=3) rfl ?_);refine box_event ?hg (N:=3) ?hd (cs:=#[.int .i64 a1_0,.slice A1_1 l1_1.length c1_1]) (t:=41) ?hr ?_;(case hd => rfl);(case hg => rfl);(case hr => first|(go_simp;done)|(go_simp;rfl));intro gb371 hg w6 hbox hb;have n0_:=aM (bB (g:=gb370) (o:=.cells #[.int .i64 a0_0,.slice A0_1 l0_1.length c0_1] 41 (0,0)) (by (with_reducible repeat (first|refine bN ?_ _|refine bD ?_|refine bA ?_ _));exact BK370.out) hb);have n1_:=aM (wT (by repeat (first|(with_reducible first|exact HB.out|apply wA|apply wN_|apply wD|refine wS ?_ GE370.out)|exact HB.out)) hb);have n2_:=aM (hbox);have n3_:=aM ((by rw [hg];exact (wZ (by repeat (first|(with_reducible first|exact HB.out|apply wA|apply wN_|apply wD|refine wS ?_ GE370.out)|exact HB.out))) : w.heap.size ≤ gb371));have n4_:=aM ((by rw [hg];exact (wZ (by repeat (first|(with_reducible first|exact HB.out|apply wA|apply wN_|apply wD|refine wS ?_ GE370.out)|exact HB.out))) : w.heap.size ≤ gb371));have n5_:=aM ((by rw [hg];exact Nat.ne_of_lt (bL (g:=gb370) (o:=.cells #[.int .i64 a0_0,.slice A0_1 l0_1.length c0_1] 41 (0,0)) (by (with_reducible repeat (first|refine bN ?_ _|refine bD ?_|refine bA ?_ _));exact BK370.out)) : gb370 ≠ gb371));have n6_:=aM ((by rw [hg];exact Nat.ne_of_gt (bL (g:=gb370) (o:=.cells #[.int .i64 a0_0,.slice A0_1 l0_1.length c0_1] 41 (0,0)) (by (with_reducible repeat (first|refine bN ?_ _|refine bD ?_|refine bA ?_ _));exact BK370.out)) : gb371 ≠ gb370));clear BK370;clear HB;have BK370:=n0_;have HB:=n1_;have BK371:=n2_;have GW371:=n3_;have GE371:=n4_;have NB370_371:=n5_;have NB371_370:=n6_;clear n0_ n1_ n2_ n3_ n4_ n5_ n6_;clear hb hbox hg;have hnb7:=NB370_371.out;have hnc7:=NB371_370.out;have hcz8_0 : w6.cell? ⟨gb370,0,none⟩ = some (.int .i64 a0_0):=(bC BK370.out 0).trans rfl;have hcz8_1 : w6.cell? ⟨gb370,1,none⟩ = some (.slice A0_1 l0_1.length c0_1):=(bC BK370.out 1).trans rfl;have hfz8_0:=bF BK370.out 0;have hfz8_1:=bF BK370.out 1;have hcz9_0 : w6.cell? ⟨gb371,0,none⟩ = some (.int .i64 a1_0):=(bC BK371.out 0).trans rfl;have hcz9_1 : w6.cell? ⟨gb371,1,none⟩ = some (.slice A1_1 l1_1.length c1_1):=(bC BK371.out 1).trans rfl;have hfz9_0:=bF BK371.out 0;have hfz9_1:=bF BK371.out 1)|(go_at_call 60;(with_reducible refine (rickyardref13_SameLive.calls k _ _ l0_1 _ _ l1_1 t372 _ ?side1 ?side2 ?side3 ?side4 A4.out).mono ?_);(case side1 => repeat (first|exact (cB HR0_1.out HB.out)|(with_reducible refine cA ?_ _)|(with_reducible refine cN ?_ _)|(with_reducible refine cD ?_)));(case side2 => exact HC0_1.out);(case side3 => repeat (first|exact (cB HR1_1.out HB.out)|(with_reducible refine cA ?_ _)|(with_reducible refine cN ?_ _)|(with_reducible refine cD ?_)));(case side4 => exact HC1_1.out);rintro e w' ⟨rfl,⟨nd,rfl⟩⟩))
  go_ret
  exact ⟨by first | rfl | (simp [errW_none, errW_some] <;> rfl) | (simp [*, errW_none, errW_some] <;> rfl), by repeat (first | (with_reducible first | exact HB.out | apply wA | apply wN_ | apply wD | refine wS ?_ GE370.out | refine wS ?_ GE371.out) | exact HB.out)⟩
 ·rw [if_neg c3] at H
  have c3b0 : (a0_0 == a1_0) = false := beq_eq_false_iff_ne.mpr c3
  have c3b1 : (a0_0 != a1_0) = true := bne_iff_ne.mpr c3
  obtain rfl := Option.some.inj H
  go_enter Try.func26, Try.ntmps26
  go_wp2_with (first|((with_reducible refine gate_dst (N:=2) rfl ?_);refine box_event ?hg (N:=2) ?hd (cs:=#[.int .i64 a0_0,.slice A0_1 l0_1.length c0_1]) (t:=41) ?hr ?_;(case hd => rfl);(case hg => rfl);(case hr => first|(go_simp;done)|(go_simp;rfl));intro gb370 hg w10 hbox hb;have n0_:=aM (wT (by repeat (first|(with_reducible first|exact HB.out|apply wA|apply wN_|apply wD)|exact HB.out)) hb);have n1_:=aM (hbox);have n2_:=aM ((by rw [hg];exact (wZ (by repeat (first|(with_reducible first|exact HB.out|apply wA|apply wN_|apply wD)|exact HB.out))) : w.heap.size ≤ gb370));have n3_:=aM ((by rw [hg];exact (wZ (by repeat (first|(with_reducible first|exact HB.out|apply wA|apply wN_|apply wD)|exact HB.out))) : w.heap.size ≤ gb370));clear HB;have HB:=n0_;have BK370:=n1_;have GW370:=n2_;have GE370:=n3_;clear n0_ n1_ n2_ n3_;clear hb hbox hg)|((with_reducible refine gate_dst (N:=3) rfl ?_);refine box_event ?hg (N:=3) ?hd (cs:=#[.int .i64 a1_0,.slice A1_1 l1_1.length c1_1]) (t:=41) ?hr ?_;(case hd => rfl);(case hg => rfl);(case hr => first|(go_simp;done)|(go_simp;rfl));intro gb371 hg w11 hbox hb;have n0_:=aM (bB (g:=gb370) (o:=.cells #[.int .i64 a0_0,.slice A0_1 l0_1.length c0_1] 41 (0,0)) (by (with_reducible repeat (first|refine bN ?_ _|refine bD ?_|refine bA ?_ _));exact BK370.out) hb);have n1_:=aM (wT (by repeat (first|(with_reducible first|exact HB.out|apply wA|apply wN_|apply wD|refine wS ?_ GE370.out)|exact HB.out)) hb);have n2_:=aM (hbox);have n3_:=aM ((by rw [hg];exact (wZ (by repeat (first|(with_reducible first|exact HB.out|apply wA|apply wN_|apply wD|refine wS ?_ GE370.out)|exact HB.out))) : w.heap.size ≤ gb371));have n4_:=aM ((by rw [hg];exact (wZ (by repeat (first|(with_reducible first|exact HB.out|apply wA|apply wN_|apply wD|refine wS ?_ GE370.out)|exact HB.out))) : w.heap.size ≤ gb371));have n5_:=aM ((by rw [hg];exact Nat.ne_of_lt (bL (g:=gb370) (o:=.cells #[.int .i64 a0_0,.slice A0_1 l0_1.length c0_1] 41 (0,0)) (by (with_reducible repeat (first|refine bN ?_ _|refine bD ?_|refine bA ?_ _));exact BK370.out)) : gb370 ≠ gb371));have n6_:=aM ((by rw [hg];exact Nat.ne_of_gt (bL (g:=gb370) (o:=.cells #[.int .i64 a0_0,.slice A0_1 l0_1.length c0_1] 41 (0,0)) (by (with_reducible repeat (first|refine bN ?_ _|refine bD ?_|refine bA ?_ _));exact BK370.out)) : gb371 ≠ gb370));clear BK370;clear HB;have BK370:=n0_;have HB:=n1_;have BK371:=n2_;have GW371:=n3_;have GE371:=n4_;have NB370_371:=n5_;have NB371_370:=n6_;clear n0_ n1_ n2_ n3_ n4_ n5_ n6_;clear hb hbox hg;have hnb12:=NB370_371.out;have hnc12:=NB371_370.out;have hcz13_0 : w11.cell? ⟨gb370,0,none⟩ = some (.int .i64 a0_0):=(bC BK370.out 0).trans rfl;have hcz13_1 : w11.cell? ⟨gb370,1,none⟩ = some (.slice A0_1 l0_1.length c0_1):=(bC BK370.out 1).trans rfl;have hfz13_0:=bF BK370.out 0;have hfz13_1:=bF BK370.out 1;have hcz14_0 : w11.cell? ⟨gb371,0,none⟩ = some (.int .i64 a1_0):=(bC BK371.out 0).trans rfl;have hcz14_1 : w11.cell? ⟨gb371,1,none⟩ = some (.slice A1_1 l1_1.length c1_1):=(bC BK371.out 1).trans rfl;have hfz14_0:=bF BK371.out 0;have hfz14_1:=bF BK371.out 1))
  go_ret
  exact ⟨by first | rfl | (simp [errW_none, errW_some] <;> rfl) | (simp [*, errW_none, errW_some] <;> rfl), by repeat (first | (with_reducible first | exact HB.out | apply wA | apply wN_ | apply wD | refine wS ?_ GE370.out | refine wS ?_ GE371.out) | exact HB.out)⟩

end Go.Proofs.Ytflhbakjlbmfbaa.Pr
