-- Printed by a program of this session (wip/tools/myprint.py) that runs the kit's print with contracts of this session's own.
import Derived.Test.YtflhbakjlbmfbaaPrx0
import Derived.Test.YtflhbakjlbmfbaaWTab
import Derived.Test.YtflhbakjlbmfbaaShort
import Derived.Test.YtflhbakjlbmfbaaPrx1
import Derived.Test.YtflhbakjlbmfbaaPrx11
import Derived.Test.YtflhbakjlbmfbaaPrx14
import Derived.Test.YtflhbakjlbmfbaaPrx10
import Derived.Test.YtflhbakjlbmfbaaPrx12
namespace Go.Proofs.Ytflhbakjlbmfbaa.Pr
open Go.RowKit Go.Proofs.YtflhbakjlbmfbaaW.PrintWords Go.Proofs.YtflhbakjlbmfbaaW.PrintLast Go.Proofs.YtflhbakjlbmfbaaW.PrintMore
attribute [local go_sem] max2_int min2_int max_two min_two max_three min_three max_four min_four   -- for this text's walks alone
set_option linter.unusedVariables false
set_option linter.unusedSimpArgs false

attribute [local go_sem high] eqA29
/-! ### large_Take: function 15 -/
def large_Take.f (l0 : List (S29)) (a1 : Int) : Option ((List (S29)) × Int × Int) := (api_Big_47_48.f l0 a1).bind fun t187 => (if t187 < 0 then (some (([] : List (S29)), 0, 2)) else ((api_Big_46.f l0).bind fun t188 => ((api_Big_49.f t188 t187 (wrap64 (t187 + 1))).bind fun t191 => (if 0 ≤ t187 then (if t187 < (l0.length : Int) then (some (t191, (rd_T29 l0 t187).f0, 0)) else (none)) else (none)))))
def large_Take.T4 : Bool × List (List Nat × List Nat) := (true, [([], []), ([0], [0]), ([], []), ([], []), ([3], [3]), ([1, 2, 4, 1], [1, 2, 4]), ([], []), ([], []), ([6, 7], [6, 7]), ([8], [8]), ([9], [9]), ([5, 5, 0, 1, 2, 3, 4, 5], [5]), ([10, 11, 0, 1, 2, 3, 4, 5, 6, 7, 8, 9, 10, 11], [10]), ([12, 0, 1, 2, 3, 4, 5, 6, 7, 8, 9, 10, 11, 12], [])])
def large_Take.B4 : List Nat := [0, 1, 0, 0, 8, 31, 0, 0, 192, 448, 960, 63, 4095, 8191]
theorem large_Take.tab4 : rtab .any (opsOf Try.f15 4) = large_Take.T4 := by kernel_rfl
theorem large_Take.bits4 : waitsOk large_Take.T4.2 large_Take.B4 = true := by kernel_rfl
set_option maxHeartbeats 8000000 in
set_option maxRecDepth 100000 in
theorem large_Take.calls (A0 : Option Addr) (c0 : Nat) (l0 : List (S29)) (a1 : Int) (r1 : List (S29)) (r2 : Int) (r3 : Int) (w : World) (hr0 : Kd.C k29 w A0 l0.length l0) (hc0 : l0.length ≤ c0) (h : large_Take.f l0 a1 = some (r1, r2, r3)) :
  Calls Try.prog 15 #[.slice A0 l0.length c0, .int .i64 a1] w fun e w' => ∃ v0_ : Value, e = .returned (.tuple #[v0_, .int .i64 r2, .int .i64 r3]) ∧ Kd.R k29 29 w' w.heap.size (fun _ => True) v0_ r1 ∧ Below w.heap.size w w' := by
 have HR0 := aM hr0
 have HC0 := aM hc0
 clear hr0 hc0
 have HB := aM (Below.refl w.heap.size w)
 have H : ((api_Big_47_48.f l0 a1).bind fun t187 => (if t187 < 0 then (some (([] : List (S29)), 0, 2)) else ((api_Big_46.f l0).bind fun t188 => ((api_Big_49.f t188 t187 (wrap64 (t187 + 1))).bind fun t191 => (if 0 ≤ t187 then (if t187 < (l0.length : Int) then (some (t191, (rd_T29 l0 t187).f0, 0)) else (none)) else (none)))))) = some (r1, r2, r3) := h
 clear h
 replace H := Option.bind_eq_some_iff.mp H
 obtain ⟨t187, A30, H⟩ := H
 replace H : (if t187 < 0 then (some (([] : List (S29)), 0, 2)) else ((api_Big_46.f l0).bind fun t188 => ((api_Big_49.f t188 t187 (wrap64 (t187 + 1))).bind fun t191 => (if 0 ≤ t187 then (if t187 < (l0.length : Int) then (some (t191, (rd_T29 l0 t187).f0, 0)) else (none)) else (none))))) = some (r1, r2, r3) := H
 have A3 := aM A30
 clear A30
 by_cases c4 : t187 < 0
 ·rw [if_pos c4] at H
  have c4b0 : decide (t187 < 0) = true := decide_eq_true c4
  clear c4
  simp only [Option.some.injEq, Prod.mk.injEq] at H
  obtain ⟨rfl, rfl, rfl⟩ := H
  go_enter Try.func15, Try.ntmps15
  go_wp2_with (first|((with_reducible refine gate_dst (N:=3) rfl ?_);refine box_event ?hg (N:=3) ?hd (cs:=#[.int .i64 a1]) (t:=3) ?hr ?_;(case hd => rfl);(case hg => rfl);(case hr => first|(go_simp;done)|(go_simp;rfl));intro gb186 hg w5 hbox hb;have n0_:=aM (wT (by repeat (first|(with_reducible first|exact HB.out|apply wA|apply wN_|apply wD)|exact HB.out)) hb);have n1_:=aM (hbox);have n2_:=aM ((by rw [hg];exact (wZ (by repeat (first|(with_reducible first|exact HB.out|apply wA|apply wN_|apply wD)|exact HB.out))) : w.heap.size ≤ gb186));have n3_:=aM ((by rw [hg];exact (wZ (by repeat (first|(with_reducible first|exact HB.out|apply wA|apply wN_|apply wD)|exact HB.out))) : w.heap.size ≤ gb186));clear HB;have HB:=n0_;have BK186:=n1_;have GW186:=n2_;have GE186:=n3_;clear n0_ n1_ n2_ n3_;clear hb hbox hg)|((with_reducible refine gate_callee (f:=47) rfl ?_);refine goesL_ (some 10) rfl rfl Try.func47 (by kernel_rfl) rfl #[.slice A0 l0.length c0,.func (.func 48) #[] #[.pointer (some ⟨gb186,0,none⟩)]] rfl (by (try simp only [lM,lC,lN]);first|done|rfl|(simp only [lD,lT];rfl)) ?_;(with_reducible refine (api_Big_47_48.calls _ _ l0 gb186 a1 t187 _ ?side1 ?side2 ?side3 A3.out).mono ?_);(case side1 => repeat (first|exact (cB HR0.out HB.out)|(with_reducible refine cA ?_ _)|(with_reducible refine cN ?_ _)|(with_reducible refine cD ?_)));(case side2 => exact HC0.out);(case side3 => (with_reducible repeat (first|refine bN ?_ _|refine bD ?_|refine bA ?_ _));exact BK186.out);rintro e w6 ⟨rfl,hb⟩;refine ⟨_,rfl,?_⟩;have n0_:=aM (bB (g:=gb186) (o:=.cells #[.int .i64 a1] 3 (0,0)) (by (with_reducible repeat (first|refine bN ?_ _|refine bD ?_|refine bA ?_ _));exact BK186.out) hb);have n1_:=aM (wT (by repeat (first|(with_reducible first|exact HB.out|apply wA|apply wN_|apply wD|refine wS ?_ GE186.out)|exact HB.out)) hb);clear BK186;clear HB;have BK186:=n0_;have HB:=n1_;clear n0_ n1_;(try clear hb);(try clear hb2);(try clear hk);(try clear hi)))
  go_ret3
  exact ⟨_, by first | rfl | (simp [errW_none, errW_some] <;> rfl) | (simp [*, errW_none, errW_some] <;> rfl), by first | exact Kd.R_nil _ _ _ _ _ | exact Kd.N_nil _ _ _ _ _ | exact Kd.V_nil _ _ _ _ _ | exact Kd.Q_nil _ _ _ _ _ | exact Kd.S_nil _ _ _ _ _, by repeat (first | (with_reducible first | exact HB.out | apply wA | apply wN_ | apply wD | refine wS ?_ GE186.out) | exact HB.out)⟩
 ·rw [if_neg c4] at H
  have c4b0 : decide (t187 < 0) = false := decide_eq_false c4
  clear c4
  replace H := Option.bind_eq_some_iff.mp H
  obtain ⟨t188, A70, H⟩ := H
  replace H : ((api_Big_49.f t188 t187 (wrap64 (t187 + 1))).bind fun t191 => (if 0 ≤ t187 then (if t187 < (l0.length : Int) then (some (t191, (rd_T29 l0 t187).f0, 0)) else (none)) else (none))) = some (r1, r2, r3) := H
  have A7 := aM A70
  clear A70
  replace H := Option.bind_eq_some_iff.mp H
  obtain ⟨t191, A80, H⟩ := H
  replace H : (if 0 ≤ t187 then (if t187 < (l0.length : Int) then (some (t191, (rd_T29 l0 t187).f0, 0)) else (none)) else (none)) = some (r1, r2, r3) := H
  have A8 := aM A80
  clear A80
  by_cases c9 : 0 ≤ t187
  ·rw [if_pos c9] at H
   have c9b0 : decide (0 ≤ t187) = true := decide_eq_true c9
   clear c9
   by_cases c10 : t187 < (l0.length : Int)
   ·rw [if_pos c10] at H
    have c10b0 : decide (t187 < (l0.length : Int)) = true := decide_eq_true c10
    clear c10
    simp only [Option.some.injEq, Prod.mk.injEq] at H
    obtain ⟨rfl, rfl, rfl⟩ := H
    go_enter Try.func15, Try.ntmps15
    try go_wp2_with (first|((with_reducible refine gate_dst (N:=3) rfl ?_);refine box_event ?hg (N:=3) ?hd (cs:=#[.int .i64 a1]) (t:=3) ?hr ?_;(case hd => rfl);(case hg => rfl);(case hr => first|(go_simp;done)|(go_simp;rfl));intro gb186 hg w11 hbox hb;have n0_:=aM (wT (by repeat (first|(with_reducible first|exact HB.out|apply wA|apply wN_|apply wD)|exact HB.out)) hb);have n1_:=aM (hbox);have n2_:=aM ((by rw [hg];exact (wZ (by repeat (first|(with_reducible first|exact HB.out|apply wA|apply wN_|apply wD)|exact HB.out))) : w.heap.size ≤ gb186));have n3_:=aM ((by rw [hg];exact (wZ (by repeat (first|(with_reducible first|exact HB.out|apply wA|apply wN_|apply wD)|exact HB.out))) : w.heap.size ≤ gb186));clear HB;have HB:=n0_;have BK186:=n1_;have GW186:=n2_;have GE186:=n3_;clear n0_ n1_ n2_ n3_;clear hb hbox hg)|((with_reducible refine gate_callee (f:=47) rfl ?_);refine goesL_ (some 10) rfl rfl Try.func47 (by kernel_rfl) rfl #[.slice A0 l0.length c0,.func (.func 48) #[] #[.pointer (some ⟨gb186,0,none⟩)]] rfl (by (try simp only [lM,lC,lN]);first|done|rfl|(simp only [lD,lT];rfl)) ?_;(with_reducible refine (api_Big_47_48.calls _ _ l0 gb186 a1 t187 _ ?side1 ?side2 ?side3 A3.out).mono ?_);(case side1 => repeat (first|exact (cB HR0.out HB.out)|(with_reducible refine cA ?_ _)|(with_reducible refine cN ?_ _)|(with_reducible refine cD ?_)));(case side2 => exact HC0.out);(case side3 => (with_reducible repeat (first|refine bN ?_ _|refine bD ?_|refine bA ?_ _));exact BK186.out);rintro e w12 ⟨rfl,hb⟩;refine ⟨_,rfl,?_⟩;have n0_:=aM (bB (g:=gb186) (o:=.cells #[.int .i64 a1] 3 (0,0)) (by (with_reducible repeat (first|refine bN ?_ _|refine bD ?_|refine bA ?_ _));exact BK186.out) hb);have n1_:=aM (wT (by repeat (first|(with_reducible first|exact HB.out|apply wA|apply wN_|apply wD|refine wS ?_ GE186.out)|exact HB.out)) hb);clear BK186;clear HB;have BK186:=n0_;have HB:=n1_;clear n0_ n1_;(try clear hb);(try clear hb2);(try clear hk);(try clear hi)))
    have n0_ := aM (bD BK186.out)
    have n1_ := aM (wD HB.out)
    clear BK186
    clear HB
    have BK186 := n0_
    have HB := n1_
    clear n0_ n1_
    have p194 : 0 ≤ (t187 : Int) := oD (by first | (with_reducible assumption) | assumption)
    have q194 : t187 < (l0.length : Int) := oD (by first | (with_reducible assumption) | assumption)
    obtain ⟨ad194, e194, hx194_0, hx194_1⟩ := at_T29 HR0.out t187 p194 q194
    have hw194_1 := hx194_1
    have hw194_0 := hx194_0
    cases e194
    replace hx194_0 := (HB.out.cell (wL w _ hx194_0)).trans hx194_0
    replace hx194_1 := (HB.out.cell (wL w _ hx194_1)).trans hx194_1
    replace p194 := eq_true p194
    replace q194 := eq_true q194
    refine start_ (n := 14) (S := fun w' => w'.cell? (ad194.add ((t187).toNat * 2)) = some (.int .i64 ((rd_T29 l0 t187).f0)) ∧ w'.cell? ⟨(ad194.add ((t187).toNat * 2)).block, (ad194.add ((t187).toNat * 2)).off + 1, none⟩ = some (.int .i64 ((rd_T29 l0 t187).f1))) (ds := []) #[false, false, false, false, false, false, false, false, false, false, false, false, false, false] (by kernel_rfl) rfl rfl ⟨((HB.out.cell (wL w _ hw194_0)).trans hw194_0), ((HB.out.cell (wL w _ hw194_1)).trans hw194_1)⟩ (fun hHeld => ?_); refine with_tabW large_Take.tab4 large_Take.bits4 (fun HT_ HW_ => ?_)
    generalize w12.drew = w13 at BK186 HB hx194_0 hx194_1 hHeld ⊢
    refine pure_ (i := 0) (N := some 13) (v := ?_) (a' := ?_) #[true, false, false, false, false, false, false, false, false, false, false, false, false, false] rfl rfl (any_of HT_.out (by kernel_rfl)) (fun _ _ _ h => h) (Or.inl ⟨by rfl, ?_⟩) ?_ ?_
    rotate_left
    ·intro w'
     go_simp
     with_reducible rfl
    rotate_left
    ·simp only [Act.put, lS, lZ, lU, i64_w, i32_w]
     rfl
    refine pure_ (i := 2) (N := some 15) (v := ?_) (a' := ?_) #[true, false, true, false, false, false, false, false, false, false, false, false, false, false] rfl rfl (any_of HT_.out (by kernel_rfl)) (fun _ _ _ h => h) (Or.inl ⟨by rfl, ?_⟩) ?_ ?_
    rotate_left
    ·intro w'
     go_simp
     with_reducible rfl
    rotate_left
    ·simp only [Act.put, lS, lZ, lU, i64_w, i32_w]
     rfl
    refine pure_ (i := 3) (N := some 16) (v := ?_) (a' := ?_) #[true, false, true, true, false, false, false, false, false, false, false, false, false, false] rfl rfl (any_of HT_.out (by kernel_rfl)) (fun _ _ _ h => h) (Or.inl ⟨by rfl, ?_⟩) ?_ ?_
    rotate_left
    ·intro w'
     go_simp
     with_reducible rfl
    rotate_left
    ·simp only [Act.put, lS, lZ, lU, i64_w, i32_w]
     rfl
    refine pure_ (i := 4) (N := some 17) (v := ?_) (a' := ?_) #[true, false, true, true, true, false, false, false, false, false, false, false, false, false] rfl rfl (any_of HT_.out (by kernel_rfl)) (fun _ _ _ h => h) (Or.inl ⟨by rfl, ?_⟩) ?_ ?_
    rotate_left
    ·intro w'
     go_simp
     with_reducible rfl
    rotate_left
    ·simp only [Act.put, lS, lZ, lU, i64_w, i32_w]
     rfl
    refine pure_ (i := 6) (N := some 19) (v := ?_) (a' := ?_) #[true, false, true, true, true, false, true, false, false, false, false, false, false, false] rfl rfl (any_of HT_.out (by kernel_rfl)) (fun _ _ _ h => h) (Or.inl ⟨by rfl, ?_⟩) ?_ ?_
    rotate_left
    ·intro w'
     go_simp
     with_reducible rfl
    rotate_left
    ·simp only [Act.put, lS, lZ, lU, i64_w, i32_w]
     rfl
    refine pure_ (i := 7) (N := some 20) (v := ?_) (a' := ?_) #[true, false, true, true, true, false, true, true, false, false, false, false, false, false] rfl rfl (any_of HT_.out (by kernel_rfl)) (fun _ _ _ h => h) (Or.inl ⟨by rfl, ?_⟩) ?_ ?_
    rotate_left
    ·intro w'
     go_simp
     with_reducible rfl
    rotate_left
    ·simp only [Act.put, lS, lZ, lU, i64_w, i32_w]
     rfl
    refine pure_ (i := 8) (N := some 21) (v := ?_) (a' := ?_) #[true, false, true, true, true, false, true, true, true, false, false, false, false, false] rfl rfl (any_of HT_.out (by kernel_rfl)) (fun _ _ _ h => h) (Or.inl ⟨by rfl, ?_⟩) ?_ ?_
    rotate_left
    ·intro w'
     go_simp
     with_reducible rfl
    rotate_left
    ·simp only [Act.put, lS, lZ, lU, i64_w, i32_w]
     rfl
    refine pure_ (i := 9) (N := some 22) (v := ?_) (a' := ?_) #[true, false, true, true, true, false, true, true, true, true, false, false, false, false] rfl rfl (any_of HT_.out (by kernel_rfl)) (fun _ _ _ h => h) (Or.inl ⟨by rfl, ?_⟩) ?_ ?_
    rotate_left
    ·intro w'
     go_simp
     with_reducible rfl
    rotate_left
    ·simp only [Act.put, lS, lZ, lU, i64_w, i32_w]
     rfl
    refine take_ (i := 10) (N := some 23) (v := ?_) (a' := ?_) #[true, false, true, true, true, false, true, true, true, true, true, false, false, false] rfl rfl (take_ofW HT_.out HW_.out (by kernel_rfl)) (fun _ _ _ h => h) (Or.inl ⟨by rfl, ?_⟩) hHeld ?_ ?_
    rotate_left
    ·rintro w' ⟨s0, s1⟩
     go_simp
     with_reducible rfl
    rotate_left
    ·simp only [Act.put, lS, lZ, lU, i64_w, i32_w]
     rfl
    refine one_ (i := 1) (N := some 14) #[true, true, true, true, true, false, true, true, true, true, true, false, false, false] rfl rfl (one_of HT_.out (by kernel_rfl)) (by decide) (fun K hK => ?_)
    refine goes_ Try.func46 (by kernel_rfl) rfl #[.slice (some ad194) l0.length c0] (by rfl) rfl rfl (by (try simp only [lM, lC, lN]); first | done | rfl | (simp only [lD, lT]; rfl)) ?_
    with_reducible refine (api_Big_46.calls _ _ l0 t188 _ ?side1 ?side2 A7.out).mono ?_
    (case side1 => repeat (first|exact (cB HR0.out HB.out)|(with_reducible refine cA ?_ _)|(with_reducible refine cN ?_ _)|(with_reducible refine cD ?_)))
    (case side2 => exact HC0.out)
    rintro e w14 ⟨v189, rfl, ho0, hb⟩
    refine ⟨_, rfl, ?_⟩
    have n0_ := aM (Kd.R_lower ho0 (wZ (by repeat (first | (with_reducible first | exact HB.out | apply wA | apply wN_ | apply wD | refine wS ?_ GE186.out) | exact HB.out))))
    have n1_ := aM (bB (g := gb186) (o := .cells #[.int .i64 a1] 3 (0, 0)) (by (with_reducible repeat (first | refine bN ?_ _ | refine bD ?_ | refine bA ?_ _)); exact BK186.out) hb)
    have n2_ := aM (wT (by repeat (first | (with_reducible first | exact HB.out | apply wA | apply wN_ | apply wD | refine wS ?_ GE186.out) | exact HB.out)) hb)
    clear BK186
    clear HB
    have HO190 := n0_
    have BK186 := n1_
    have HB := n2_
    clear n0_ n1_ n2_
    (try clear hb)
    (try clear hb2)
    (try clear hk)
    (try clear hi)
    (try clear ho0)
    obtain ⟨Ao15, co15, eo15⟩ := Kd.R_slice HO190.out
    (first | subst eo15 | (injection eo15 with f1_ f2_ f3_; have f4_ := f1_.symm; have f5_ := f3_.symm; clear f1_ f2_ f3_; subst f4_; subst f5_))
    refine hK.out _ _ ⟨((HB.out.cell (wL w _ hw194_0)).trans hw194_0), ((HB.out.cell (wL w _ hw194_1)).trans hw194_1)⟩ (fun hHeld => ?_)
    clear hK K
    refine norm_ (a' := ?_) ?_ ?_
    rotate_left
    ·show Act.put _ (some 14) _ = _
     simp only [Act.put, lS, lZ, lU, i64_w, i32_w]
     rfl
    refine one_ (i := 5) (N := some 18) #[true, true, true, true, true, true, true, true, true, true, true, false, false, false] rfl rfl (one_of HT_.out (by kernel_rfl)) (by decide) (fun K hK => ?_)
    refine goes_ Try.func49 (by kernel_rfl) rfl #[.slice Ao15 t188.length co15, .int .i64 t187, .int .i64 (wrap64 (t187 + 1))] (by rfl) rfl rfl (by (try simp only [lM, lC, lN]); first | done | rfl | (simp only [lD, lT]; rfl)) ?_
    with_reducible refine (api_Big_49.calls (fun k_ => some k_ = (.slice Ao15 t188.length co15 : Value).ownBlock) (.slice Ao15 t188.length co15) t188 t187 (wrap64 (t187 + 1)) t191 w _ ?side1 ?side2 A8.out).mono ?_
    (case side1 => repeat (first|(with_reducible first|exact HB.out|apply wA|apply wN_|apply wD|refine wS ?_ GE186.out)|exact HB.out))
    (case side2 => exact Kd.R_tight rfl HO190.out)
    rintro e w16 ⟨v192, rfl, ho0, hb, hkp⟩
    refine ⟨_, rfl, ?_⟩
    have n0_ := aM (blk_kept (by (with_reducible repeat (first | refine bN ?_ _ | refine bD ?_ | refine bA ?_ _)); exact BK186.out) hkp (fun hs_ => (fun e_ => (Kd.R_ne HO190.out BK186.out (by decide)) e_) hs_))
    have n1_ := aM (rM (ok' := fun k_ => True) ho0 (fun k_ hk_ => trivial))
    have n2_ := aM (hb)
    clear BK186
    clear HB
    clear HO190
    have BK186 := n0_
    have HO193 := n1_
    have HB := n2_
    clear n0_ n1_ n2_
    (try clear hb)
    (try clear hkp)
    (try clear ho0)
    refine hK.out _ _ ⟨((HB.out.cell (wL w _ hw194_0)).trans hw194_0), ((HB.out.cell (wL w _ hw194_1)).trans hw194_1)⟩ (fun hHeld => ?_)
    clear hK K
    refine norm_ (a' := ?_) ?_ ?_
    rotate_left
    ·show Act.put _ (some 18) _ = _
     simp only [Act.put, lS, lZ, lU, i64_w, i32_w]
     rfl
    refine pure_ (i := 11) (N := some 4) (v := ?_) (a' := ?_) #[true, true, true, true, true, true, true, true, true, true, true, true, false, false] rfl rfl (any_of HT_.out (by kernel_rfl)) (fun _ _ _ h => h) (Or.inl ⟨by rfl, ?_⟩) ?_ ?_
    rotate_left
    ·intro w'
     go_simp
     with_reducible rfl
    rotate_left
    ·simp only [Act.put, lS, lZ, lU, i64_w, i32_w]
     rfl
    refine pure_ (i := 12) (N := some 5) (v := ?_) (a' := ?_) #[true, true, true, true, true, true, true, true, true, true, true, true, true, false] rfl rfl (any_of HT_.out (by kernel_rfl)) (fun _ _ _ h => h) (Or.inl ⟨by rfl, ?_⟩) ?_ ?_
    rotate_left
    ·intro w'
     go_simp
     with_reducible rfl
    rotate_left
    ·simp only [Act.put, lS, lZ, lU, i64_w, i32_w]
     rfl
    refine pure_ (i := 13) (N := some 6) (v := ?_) (a' := ?_) #[true, true, true, true, true, true, true, true, true, true, true, true, true, true] rfl rfl (any_of HT_.out (by kernel_rfl)) (fun _ _ _ h => h) (Or.inl ⟨by rfl, ?_⟩) ?_ ?_
    rotate_left
    ·intro w'
     go_simp
     with_reducible rfl
    rotate_left
    ·simp only [Act.put, lS, lZ, lU, i64_w, i32_w]
     rfl
    refine done_ (done_of HT_.out (by kernel_rfl)) ?_
    try go_wp2
    go_ret3
    exact ⟨_, by first | rfl | (simp [errW_none, errW_some] <;> rfl) | (simp [*, errW_none, errW_some] <;> rfl), by (with_reducible repeat (first | apply rA | apply rN | apply rD)); exact HO193.out, by repeat (first | (with_reducible first | exact HB.out | apply wA | apply wN_ | apply wD | refine wS ?_ GE186.out) | exact HB.out)⟩
   ·rw [if_neg c10] at H
    exact absurd H (by simp)
  ·rw [if_neg c9] at H
   exact absurd H (by simp)

/-! ### large_Drop: function 16 -/
def large_Drop.f (l0 : List (S29)) : Option ((List (S29)) × Int × Int × Bool) := if (l0.length : Int) = 0 then (some (([] : List (S29)), 0, 0, false)) else (if 1 ≤ (l0.length : Int) then ((api_Big_46.f (l0.drop 1)).bind fun t200 => (if 0 < (l0.length : Int) then (some (t200, (rd_T29 l0 0).f0, (rd_T29 l0 0).f1, true)) else (none))) else (none))
def large_Drop.T3 : Bool × List (List Nat × List Nat) := (true, [([], []), ([0], [0]), ([1], [1]), ([], []), ([3], [3]), ([4], [4]), ([2, 2, 0, 1, 2], [2]), ([5, 6, 0, 1, 2, 3, 4, 5, 6], [5]), ([7, 0, 1, 2, 3, 4, 5, 6, 7], [])])
def large_Drop.B3 : List Nat := [0, 1, 3, 0, 8, 24, 7, 127, 255]
theorem large_Drop.tab3 : rtab .any (opsOf Try.f16 3) = large_Drop.T3 := by kernel_rfl
theorem large_Drop.bits3 : waitsOk large_Drop.T3.2 large_Drop.B3 = true := by kernel_rfl
set_option maxHeartbeats 8000000 in
set_option maxRecDepth 100000 in
theorem large_Drop.calls (A0 : Option Addr) (c0 : Nat) (l0 : List (S29)) (r1 : List (S29)) (r2 : Int) (r3 : Int) (r4 : Bool) (w : World) (hr0 : Kd.C k29 w A0 l0.length l0) (hc0 : l0.length ≤ c0) (h : large_Drop.f l0 = some (r1, r2, r3, r4)) :
  Calls Try.prog 16 #[.slice A0 l0.length c0] w fun e w' => ∃ v0_ : Value, e = .returned (.tuple #[v0_, .agg #[.int .i64 r2, .int .i64 r3], .bool r4]) ∧ Kd.R k29 29 w' w.heap.size (fun _ => True) v0_ r1 ∧ Below w.heap.size w w' := by
 have hu29 := Try.underlying29
 have HR0 := aM hr0
 have HC0 := aM hc0
 clear hr0 hc0
 have HB := aM (Below.refl w.heap.size w)
 have H : (if (l0.length : Int) = 0 then (some (([] : List (S29)), 0, 0, false)) else (if 1 ≤ (l0.length : Int) then ((api_Big_46.f (l0.drop 1)).bind fun t200 => (if 0 < (l0.length : Int) then (some (t200, (rd_T29 l0 0).f0, (rd_T29 l0 0).f1, true)) else (none))) else (none))) = some (r1, r2, r3, r4) := h
 clear h
 by_cases c2 : (l0.length : Int) = 0
 ·rw [if_pos c2] at H
  have c2b0 : ((l0.length : Int) == 0) = true := beq_iff_eq.mpr c2
  have c2b1 : ((l0.length : Int) != 0) = false := bne_eq_false_iff_eq.mpr c2
  clear c2
  simp only [Option.some.injEq, Prod.mk.injEq] at H
  obtain ⟨rfl, rfl, rfl, rfl⟩ := H
  go_enter Try.func16, Try.ntmps16
  go_wp2_with (first|((with_reducible refine gate_dst (N:=3) rfl ?_);refine box_event ?hg (N:=3) ?hd (cs:=#[.int .i64 0,.int .i64 0]) (t:=29) ?hr ?_;(case hd => rfl);(case hg => rfl);(case hr => first|(go_simp;done)|(go_simp;rfl));intro gb195 hg w3 hbox hb;have n0_:=aM (wT (by repeat (first|(with_reducible first|exact HB.out|apply wA|apply wN_|apply wD)|exact HB.out)) hb);have n1_:=aM (hbox);have n2_:=aM ((by rw [hg];exact (wZ (by repeat (first|(with_reducible first|exact HB.out|apply wA|apply wN_|apply wD)|exact HB.out))) : w.heap.size ≤ gb195));have n3_:=aM ((by rw [hg];exact (wZ (by repeat (first|(with_reducible first|exact HB.out|apply wA|apply wN_|apply wD)|exact HB.out))) : w.heap.size ≤ gb195));clear HB;have HB:=n0_;have BK195:=n1_;have GW195:=n2_;have GE195:=n3_;clear n0_ n1_ n2_ n3_;clear hb hbox hg;have hcz4_0 : w3.cell? ⟨gb195,0,none⟩ = some (.int .i64 0):=(bC BK195.out 0).trans rfl;have hcz4_1 : w3.cell? ⟨gb195,1,none⟩ = some (.int .i64 0):=(bC BK195.out 1).trans rfl;have hfz4_0:=bF BK195.out 0;have hfz4_1:=bF BK195.out 1))
  refine bodyPost_ret (results_list (rs := [.tmp 2, .cell 3 29, .tmp 4]) rfl (by simp) (.tmp (.cell gb195 29 #[.int .i64 0, .int .i64 0] (0, 0) _ rfl (by (with_reducible repeat (first | refine bN ?_ _ | refine bD ?_ | refine bA ?_ _)); refine bP (cs := #[.int .i64 0, .int .i64 0]) ?_ 1 _ rfl; (with_reducible repeat (first | refine bN ?_ _ | refine bD ?_ | refine bA ?_ _)); refine bP (cs := #[.int .i64 0, .int .i64 0]) ?_ 0 _ rfl; (with_reducible repeat (first | refine bN ?_ _ | refine bD ?_ | refine bA ?_ _)); exact BK195.out) Try.underlying29 rfl (by kernel_rfl) (.tmp .nil)))) rfl ?_
  exact ⟨_, by first | rfl | (simp [errW_none, errW_some] <;> rfl) | (simp [*, errW_none, errW_some] <;> rfl), by first | exact Kd.R_nil _ _ _ _ _ | exact Kd.N_nil _ _ _ _ _ | exact Kd.V_nil _ _ _ _ _ | exact Kd.Q_nil _ _ _ _ _ | exact Kd.S_nil _ _ _ _ _, by repeat (first | (with_reducible first | exact HB.out | apply wA | apply wN_ | apply wD | refine wS ?_ GE195.out) | exact HB.out)⟩
 ·rw [if_neg c2] at H
  have c2b0 : ((l0.length : Int) == 0) = false := beq_eq_false_iff_ne.mpr c2
  have c2b1 : ((l0.length : Int) != 0) = true := bne_iff_ne.mpr c2
  have c2b2 : ¬ (l0 = []) := fun h_ => c2 (by rw [h_]; rfl)
  by_cases c5 : 1 ≤ (l0.length : Int)
  ·rw [if_pos c5] at H
   have c5b0 := eq_true c5
   have c5b1 : decide (1 ≤ (l0.length : Int)) = true := decide_eq_true c5
   clear c5
   obtain ⟨y196, hy196⟩ : ∃ y_ : List (S29), y_ = (l0.drop 1) := ⟨_, rfl⟩
   replace H : ((api_Big_46.f y196).bind fun t200 => (if 0 < (l0.length : Int) then (some (t200, (rd_T29 l0 0).f0, (rd_T29 l0 0).f1, true)) else (none))) = some (r1, r2, r3, r4) := by first | (rw [hy196]; with_reducible exact H) | (have H2_ := (Option.bind_some _ _).symm.trans H; rw [hy196]; with_reducible exact H2_) | (have H2_ := (Option.bind_some _ _).symm.trans H; with_reducible exact H2_) | with_reducible exact H | (rw [hy196]; exact H) | exact H
   have Ny196 := aM hy196
   clear hy196
   replace H := Option.bind_eq_some_iff.mp H
   obtain ⟨t200, A60, H⟩ := H
   replace H : (if 0 < (l0.length : Int) then (some (t200, (rd_T29 l0 0).f0, (rd_T29 l0 0).f1, true)) else (none)) = some (r1, r2, r3, r4) := H
   have A6 := aM A60
   clear A60
   by_cases c7 : 0 < (l0.length : Int)
   ·rw [if_pos c7] at H
    have c7b0 : decide (0 < (l0.length : Int)) = true := decide_eq_true c7
    have c7b1 : decide (0 < l0.length) = true := decide_eq_true (by omega)
    clear c7
    simp only [Option.some.injEq, Prod.mk.injEq] at H
    obtain ⟨rfl, rfl, rfl, rfl⟩ := H
    go_enter Try.func16, Try.ntmps16
    try go_wp2_with (first|((with_reducible refine gate_dst (N:=3) rfl ?_);refine box_event ?hg (N:=3) ?hd (cs:=#[.int .i64 0,.int .i64 0]) (t:=29) ?hr ?_;(case hd => rfl);(case hg => rfl);(case hr => first|(go_simp;done)|(go_simp;rfl));intro gb195 hg w8 hbox hb;have n0_:=aM (wT (by repeat (first|(with_reducible first|exact HB.out|apply wA|apply wN_|apply wD)|exact HB.out)) hb);have n1_:=aM (hbox);have n2_:=aM ((by rw [hg];exact (wZ (by repeat (first|(with_reducible first|exact HB.out|apply wA|apply wN_|apply wD)|exact HB.out))) : w.heap.size ≤ gb195));have n3_:=aM ((by rw [hg];exact (wZ (by repeat (first|(with_reducible first|exact HB.out|apply wA|apply wN_|apply wD)|exact HB.out))) : w.heap.size ≤ gb195));clear HB;have HB:=n0_;have BK195:=n1_;have GW195:=n2_;have GE195:=n3_;clear n0_ n1_ n2_ n3_;clear hb hbox hg))
    have n0_ := aM (bD BK195.out)
    have n1_ := aM (wD HB.out)
    clear BK195
    clear HB
    have BK195 := n0_
    have HB := n1_
    clear n0_ n1_
    have q10 : (1 : Int) ≤ ((l0.length : Int) : Int) := oD (by first | (with_reducible assumption) | assumption)
    obtain ⟨i010, hi010, _, hsz10, _⟩ := info_parts info29
    have hroom10 : l0.length ≤ c0 := HC0.out
    have hC10 : Kd.C k29 _ A0 l0.length l0 := HR0.out
    have hcut10 := cut_from (P := Try.prog) 23 29 .i64 Try.underlying23 hi010 2 hsz10 A0 l0.length c0 1 (by omega) q10
    have hr10 := Kd.C_drop (m := (1 : Int).toNat) (c := c0) hC10 (by omega) hroom10
    obtain ⟨A10, hA10⟩ : ∃ A1, A1 = (if c0 = (1 : Int).toNat then A0 else (A0 : Option Addr).map (·.add ((1 : Int).toNat * 2))) := ⟨_, rfl⟩
    obtain ⟨c10, hc10⟩ : ∃ c1, c1 = c0 - (1 : Int).toNat := ⟨_, rfl⟩
    have hy10 : y196.length = l0.length - (1 : Int).toNat := (by rw [Ny196.out, lD] <;> omega)
    rw [show (l0).drop (1 : Int).toNat = y196 from Ny196.out.symm] at hr10
    replace hr10 : Kd.C k29 _ A10 y196.length y196 := (by rw [hA10]; exact hr10)
    rw [← hy10, ← hA10, ← hc10] at hcut10
    have HR199 := aM hr10
    have HC199 := aM (show y196.length ≤ c10 from by rw [hy10, hc10]; exact Nat.sub_le_sub_right hroom10 _)
    clear hr10 hC10 hroom10 hi010 hsz10 hc10
    have KY10 := aM hy10
    have KA10 := aM hA10
    clear hy10 hA10
    replace q10 := eq_true q10
    have p203 : 0 ≤ (0 : Int) := (by omega)
    have q203 : 0 < (l0.length : Int) := oD (by first | (with_reducible assumption) | assumption)
    obtain ⟨ad203, e203, hx203_0, hx203_1⟩ := at_T29 HR0.out 0 p203 q203
    have hw203_1 := hx203_1
    (try rw [show ((0 : Int)).toNat = 0 from rfl] at hw203_1)
    (try rw [show 0 * 2 = 0 from rfl] at hw203_1)
    (try rw [Addr.add_zero'] at hw203_1)
    have hw203_0 := hx203_0
    (try rw [show ((0 : Int)).toNat = 0 from rfl] at hw203_0)
    (try rw [show 0 * 2 = 0 from rfl] at hw203_0)
    (try rw [Addr.add_zero'] at hw203_0)
    cases e203
    have qi203 : (0 < l0.length) = True := eq_true (by omega)
    (try rw [show ((0 : Int)).toNat = 0 from rfl] at hx203_0)
    (try rw [show 0 * 2 = 0 from rfl] at hx203_0)
    (try rw [Addr.add_zero'] at hx203_0)
    (try rw [show ((0 : Int)).toNat = 0 from rfl] at hx203_1)
    (try rw [show 0 * 2 = 0 from rfl] at hx203_1)
    (try rw [Addr.add_zero'] at hx203_1)
    replace hx203_0 := (HB.out.cell (wL w _ hx203_0)).trans hx203_0
    replace hx203_1 := (HB.out.cell (wL w _ hx203_1)).trans hx203_1
    replace p203 := eq_true p203
    replace q203 := eq_true q203
    refine start_ (n := 9) (S := fun w' => w'.cell? ad203 = some (.int .i64 ((rd_T29 l0 0).f0)) ∧ w'.cell? ⟨ad203.block, ad203.off + 1, none⟩ = some (.int .i64 ((rd_T29 l0 0).f1))) (ds := []) #[false, false, false, false, false, false, false, false, false] (by kernel_rfl) rfl rfl ⟨((HB.out.cell (wL w _ hw203_0)).trans hw203_0), ((HB.out.cell (wL w _ hw203_1)).trans hw203_1)⟩ (fun hHeld => ?_); refine with_tabW large_Drop.tab3 large_Drop.bits3 (fun HT_ HW_ => ?_)
    generalize w8.drew = w9 at BK195 HB HR199 hx203_0 hx203_1 hHeld ⊢
    refine pure_ (i := 0) (N := some 9) (v := ?_) (a' := ?_) #[true, false, false, false, false, false, false, false, false] rfl rfl (any_of HT_.out (by kernel_rfl)) (fun _ _ _ h => h) (Or.inl ⟨by rfl, ?_⟩) ?_ ?_
    rotate_left
    ·intro w'
     go_simp
     with_reducible rfl
    rotate_left
    ·simp only [Act.put, lS, lZ, lU, i64_w, i32_w]
     rfl
    refine pure_ (i := 1) (N := some 10) (v := ?_) (a' := ?_) #[true, true, false, false, false, false, false, false, false] rfl rfl (any_of HT_.out (by kernel_rfl)) (fun _ _ _ h => h) (Or.inl ⟨by rfl, ?_⟩) ?_ ?_
    rotate_left
    ·intro w'
     go_simp
     with_reducible rfl
    rotate_left
    ·simp only [Act.put, lS, lZ, lU, i64_w, i32_w]
     rfl
    refine pure_ (i := 3) (N := some 12) (v := ?_) (a' := ?_) #[true, true, false, true, false, false, false, false, false] rfl rfl (any_of HT_.out (by kernel_rfl)) (fun _ _ _ h => h) (Or.inl ⟨by rfl, ?_⟩) ?_ ?_
    rotate_left
    ·intro w'
     go_simp
     with_reducible rfl
    rotate_left
    ·simp only [Act.put, lS, lZ, lU, i64_w, i32_w]
     rfl
    refine pure_ (i := 4) (N := some 13) (v := ?_) (a' := ?_) #[true, true, false, true, true, false, false, false, false] rfl rfl (any_of HT_.out (by kernel_rfl)) (fun _ _ _ h => h) (Or.inl ⟨by rfl, ?_⟩) ?_ ?_
    rotate_left
    ·intro w'
     go_simp
     with_reducible rfl
    rotate_left
    ·simp only [Act.put, lS, lZ, lU, i64_w, i32_w]
     rfl
    refine take_ (i := 5) (N := some 14) (v := ?_) (a' := ?_) #[true, true, false, true, true, true, false, false, false] rfl rfl (take_ofW HT_.out HW_.out (by kernel_rfl)) (fun _ _ _ h => h) (Or.inl ⟨by rfl, ?_⟩) hHeld ?_ ?_
    rotate_left
    ·rintro w' ⟨s0, s1⟩
     go_simp
     with_reducible rfl
    rotate_left
    ·simp only [Act.put, lS, lZ, lU, i64_w, i32_w]
     rfl
    refine one_ (i := 2) (N := some 11) #[true, true, true, true, true, true, false, false, false] rfl rfl (one_of HT_.out (by kernel_rfl)) (by decide) (fun K hK => ?_)
    refine goes_ Try.func46 (by kernel_rfl) rfl #[.slice A10 y196.length c10] (by rfl) rfl rfl (by (try simp only [lM, lC, lN]); first | done | rfl | (simp only [lD, lT]; rfl)) ?_
    with_reducible refine (api_Big_46.calls _ _ y196 t200 _ ?side1 ?side2 A6.out).mono ?_
    (case side1 => repeat (first|exact (cB HR199.out HB.out)|(with_reducible refine cA ?_ _)|(with_reducible refine cN ?_ _)|(with_reducible refine cD ?_)))
    (case side2 => exact HC199.out)
    rintro e w11 ⟨v201, rfl, ho0, hb⟩
    refine ⟨_, rfl, ?_⟩
    have n0_ := aM (Kd.R_lower (Kd.R_newB ho0 (g := gb195) (o := .cells #[.int .i64 0, .int .i64 0] 29 (0, 0)) (by (with_reducible repeat (first | refine bN ?_ _ | refine bD ?_ | refine bA ?_ _)); exact BK195.out)) (wZ (by repeat (first | (with_reducible first | exact HB.out | apply wA | apply wN_ | apply wD | refine wS ?_ GE195.out) | exact HB.out))))
    have n1_ := aM (bB (g := gb195) (o := .cells #[.int .i64 0, .int .i64 0] 29 (0, 0)) (by (with_reducible repeat (first | refine bN ?_ _ | refine bD ?_ | refine bA ?_ _)); exact BK195.out) hb)
    have n2_ := aM (wT (by repeat (first | (with_reducible first | exact HB.out | apply wA | apply wN_ | apply wD | refine wS ?_ GE195.out) | exact HB.out)) hb)
    clear BK195
    clear HB
    have HO202 := n0_
    have BK195 := n1_
    have HB := n2_
    clear n0_ n1_ n2_
    (try clear hb)
    (try clear hb2)
    (try clear hk)
    (try clear hi)
    (try clear ho0)
    refine hK.out _ _ ⟨((HB.out.cell (wL w _ hw203_0)).trans hw203_0), ((HB.out.cell (wL w _ hw203_1)).trans hw203_1)⟩ (fun hHeld => ?_)
    clear hK K
    refine norm_ (a' := ?_) ?_ ?_
    rotate_left
    ·show Act.put _ (some 11) _ = _
     simp only [Act.put, lS, lZ, lU, i64_w, i32_w]
     rfl
    refine pure_ (i := 6) (N := some 2) (v := ?_) (a' := ?_) #[true, true, true, true, true, true, true, false, false] rfl rfl (any_of HT_.out (by kernel_rfl)) (fun _ _ _ h => h) (Or.inl ⟨by rfl, ?_⟩) ?_ ?_
    rotate_left
    ·intro w'
     go_simp
     with_reducible rfl
    rotate_left
    ·simp only [Act.put, lS, lZ, lU, i64_w, i32_w]
     rfl
    refine one_ (i := 7) (N := none) #[true, true, true, true, true, true, true, true, false] rfl rfl (one_of HT_.out (by kernel_rfl)) (by decide) (fun K hK => ?_)
    have hs12 : w11.cell? ⟨gb195, 0, none⟩ = some (.int .i64 0) := (bC BK195.out 0).trans rfl
    have hfs12 := bF BK195.out 0
    have hs13 : w11.cell? ⟨gb195, 1, none⟩ = some (.int .i64 0) := (bC BK195.out 1).trans rfl
    have hfs13 := bF BK195.out 1
    refine skip_ (w1 := ?_) (by rfl) rfl ?_ ?_
    rotate_left
    ·go_simp
     rfl
    refine hK.out _ _ ⟨((cell_far (p := ⟨gb195, _, none⟩) (by first | exact Nat.ne_of_lt (Nat.lt_of_lt_of_le (by have := wL _ _ hw203_0; first | rwa [add_block] at this | exact this) GW195.out) | (rw [add_block]; exact Nat.ne_of_lt (Nat.lt_of_lt_of_le (by have := wL _ _ hw203_0; first | rwa [add_block] at this | exact this) GW195.out)) | (show (Addr.add _ _).block ≠ _; rw [add_block]; exact Nat.ne_of_lt (Nat.lt_of_lt_of_le (by have := wL _ _ hw203_0; first | rwa [add_block] at this | exact this) GW195.out)) | (dsimp only; exact Nat.ne_of_lt (Nat.lt_of_lt_of_le (by have := wL _ _ hw203_0; first | rwa [add_block] at this | exact this) GW195.out))) _).trans (((cell_far (p := ⟨gb195, _, none⟩) (by first | exact Nat.ne_of_lt (Nat.lt_of_lt_of_le (by have := wL _ _ hw203_0; first | rwa [add_block] at this | exact this) GW195.out) | (rw [add_block]; exact Nat.ne_of_lt (Nat.lt_of_lt_of_le (by have := wL _ _ hw203_0; first | rwa [add_block] at this | exact this) GW195.out)) | (show (Addr.add _ _).block ≠ _; rw [add_block]; exact Nat.ne_of_lt (Nat.lt_of_lt_of_le (by have := wL _ _ hw203_0; first | rwa [add_block] at this | exact this) GW195.out)) | (dsimp only; exact Nat.ne_of_lt (Nat.lt_of_lt_of_le (by have := wL _ _ hw203_0; first | rwa [add_block] at this | exact this) GW195.out))) _).trans (hHeld.1)))), ((cell_far (p := ⟨gb195, _, none⟩) (by first | exact Nat.ne_of_lt (Nat.lt_of_lt_of_le (by have := wL _ _ hw203_1; first | rwa [add_block] at this | exact this) GW195.out) | (rw [add_block]; exact Nat.ne_of_lt (Nat.lt_of_lt_of_le (by have := wL _ _ hw203_1; first | rwa [add_block] at this | exact this) GW195.out)) | (show (Addr.add _ _).block ≠ _; rw [add_block]; exact Nat.ne_of_lt (Nat.lt_of_lt_of_le (by have := wL _ _ hw203_1; first | rwa [add_block] at this | exact this) GW195.out)) | (dsimp only; exact Nat.ne_of_lt (Nat.lt_of_lt_of_le (by have := wL _ _ hw203_1; first | rwa [add_block] at this | exact this) GW195.out))) _).trans (((cell_far (p := ⟨gb195, _, none⟩) (by first | exact Nat.ne_of_lt (Nat.lt_of_lt_of_le (by have := wL _ _ hw203_1; first | rwa [add_block] at this | exact this) GW195.out) | (rw [add_block]; exact Nat.ne_of_lt (Nat.lt_of_lt_of_le (by have := wL _ _ hw203_1; first | rwa [add_block] at this | exact this) GW195.out)) | (show (Addr.add _ _).block ≠ _; rw [add_block]; exact Nat.ne_of_lt (Nat.lt_of_lt_of_le (by have := wL _ _ hw203_1; first | rwa [add_block] at this | exact this) GW195.out)) | (dsimp only; exact Nat.ne_of_lt (Nat.lt_of_lt_of_le (by have := wL _ _ hw203_1; first | rwa [add_block] at this | exact this) GW195.out))) _).trans (hHeld.2))))⟩ (fun hHeld => ?_)
    clear hK K
    refine pure_ (i := 8) (N := some 4) (v := ?_) (a' := ?_) #[true, true, true, true, true, true, true, true, true] rfl rfl (any_of HT_.out (by kernel_rfl)) (fun _ _ _ h => h) (Or.inl ⟨by rfl, ?_⟩) ?_ ?_
    rotate_left
    ·intro w'
     go_simp
     with_reducible rfl
    rotate_left
    ·simp only [Act.put, lS, lZ, lU, i64_w, i32_w]
     rfl
    refine done_ (done_of HT_.out (by kernel_rfl)) ?_
    try go_wp2
    refine bodyPost_ret (results_list (rs := [.tmp 2, .cell 3 29, .tmp 4]) rfl (by simp) (.tmp (.cell gb195 29 #[.int .i64 ((rd_T29 l0 0).f0), .int .i64 ((rd_T29 l0 0).f1)] (0, 0) _ rfl (by (with_reducible repeat (first | refine bN ?_ _ | refine bD ?_ | refine bA ?_ _)); refine bP (cs := #[.int .i64 ((rd_T29 l0 0).f0), .int .i64 0]) ?_ 1 _ rfl; (with_reducible repeat (first | refine bN ?_ _ | refine bD ?_ | refine bA ?_ _)); refine bP (cs := #[.int .i64 0, .int .i64 0]) ?_ 0 _ rfl; (with_reducible repeat (first | refine bN ?_ _ | refine bD ?_ | refine bA ?_ _)); exact BK195.out) Try.underlying29 rfl (by kernel_rfl) (.tmp .nil)))) rfl ?_
    exact ⟨_, by first | rfl | (simp [errW_none, errW_some] <;> rfl) | (simp [*, errW_none, errW_some] <;> rfl), by (with_reducible repeat (first | apply rA | apply rN | apply rD)); exact rM (rF_ (p := ⟨gb195, 1, none⟩) (rF_ (p := ⟨gb195, 0, none⟩) (rM HO202.out (fun k_ hk => (⟨hk, hk.2⟩ : _ ∧ k_ ≠ gb195))) (fun _ hk => hk.2) (.int .i64 ((rd_T29 l0 0).f0))) (fun _ hk => hk.2) (.int .i64 ((rd_T29 l0 0).f1))) (fun _ hk => trivial), by repeat (first | (with_reducible first | exact HB.out | apply wA | apply wN_ | apply wD | refine wS ?_ GE195.out) | exact HB.out)⟩
   ·rw [if_neg c7] at H
    exact absurd H (by simp)
  ·rw [if_neg c5] at H
   exact absurd H (by simp)

/-! ### rickyardref9_SameBig: function 18 -/
def rickyardref9_SameBig.l0 : Nat → List (S29) → List (S29) → Int → Option (Bool)
 | 0, _, _, _ => none
 | k + 1, x0, x1, x5 => if x5 < (x0.length : Int) then (if 0 ≤ x5 then (if x5 < (x1.length : Int) then (if (!(((rd_T29 x0 x5).f0) == ((rd_T29 x1 x5).f0)) || (!(((rd_T29 x0 x5).f1) == ((rd_T29 x1 x5).f1)))) = true then (some false) else (rickyardref9_SameBig.l0 k x0 x1 (wrap64 (x5 + 1)))) else (none)) else (none)) else (some true)
def rickyardref9_SameBig.f (k : Nat) (l0 : List (S29)) (l1 : List (S29)) : Option (Bool) := if (l0.length : Int) = (l1.length : Int) then (rickyardref9_SameBig.l0 k l0 l1 0) else (some false)
theorem rickyardref9_SameBig.mono_l : ∀ k, (∀ y0 y1 y2, LeO (rickyardref9_SameBig.l0 k y0 y1 y2) (rickyardref9_SameBig.l0 (k + 1) y0 y1 y2))
 | 0 => fun _ _ _ r h => by simp [rickyardref9_SameBig.l0] at h
 | k + 1 => by
  have ih0 := rickyardref9_SameBig.mono_l k
  ·intro y0 y1 y2
   unfold rickyardref9_SameBig.l0
   repeat' first
   | (with_reducible exact ih0 _ _ _)
   | (with_reducible exact LeO.refl _)
   | (with_reducible exact LeO.none _)
   | (with_reducible refine LeO.ite ?_ ?_)
   | (with_reducible refine LeO.bind ?_ (fun _ => ?_))
   | exact ih0 _ _ _
   | exact LeO.none _
   | refine LeO.ite ?_ ?_
   | refine LeO.bind ?_ (fun _ => ?_)
theorem rickyardref9_SameBig.mono : ∀ a0 a1 k, LeO (rickyardref9_SameBig.f k a0 a1) (rickyardref9_SameBig.f (k + 1) a0 a1) := by
 intro a0 a1 k
 have ih0 := rickyardref9_SameBig.mono_l k
 unfold rickyardref9_SameBig.f
 repeat' first
   | (with_reducible exact ih0 _ _ _)
   | (with_reducible exact LeO.refl _)
   | (with_reducible exact LeO.none _)
   | (with_reducible refine LeO.ite ?_ ?_)
   | (with_reducible refine LeO.bind ?_ (fun _ => ?_))
   | exact ih0 _ _ _
   | exact LeO.none _
   | refine LeO.ite ?_ ?_
   | refine LeO.bind ?_ (fun _ => ?_)
set_option maxHeartbeats 8000000 in
set_option maxRecDepth 100000 in
theorem rickyardref9_SameBig.calls (k : Nat) (A0 : Option Addr) (c0 : Nat) (l0 : List (S29)) (A1 : Option Addr) (c1 : Nat) (l1 : List (S29)) (r : Bool) (w : World) (hr0 : Kd.C k29 w A0 l0.length l0) (hc0 : l0.length ≤ c0) (hr1 : Kd.C k29 w A1 l1.length l1) (hc1 : l1.length ≤ c1) (h : rickyardref9_SameBig.f k l0 l1 = some r) :
  Calls Try.prog 18 #[.slice A0 l0.length c0, .slice A1 l1.length c1] w fun e w' => e = .returned (.bool r) ∧ Drawn0 w w' := by
 have hu29 := Try.underlying29
 have HR0 := aM hr0
 have HC0 := aM hc0
 clear hr0 hc0
 have HR1 := aM hr1
 have HC1 := aM hc1
 clear hr1 hc1
 have H : (if (l0.length : Int) = (l1.length : Int) then (rickyardref9_SameBig.l0 k l0 l1 0) else (some false)) = some r := h
 clear h
 by_cases c3 : (l0.length : Int) = (l1.length : Int)
 ·rw [if_pos c3] at H
  have c3b0 : ((l0.length : Int) == (l1.length : Int)) = true := beq_iff_eq.mpr c3
  have c3b1 : ((l0.length : Int) != (l1.length : Int)) = false := bne_eq_false_iff_eq.mpr c3
  have c3b2 : (l0.length == l1.length) = true := by first | simpa using c3 | (simp at c3 ⊢; omega)
  clear c3
  have H' := aM H
  clear H
  go_enter Try.func18, Try.ntmps18
  go_wp2
  repeat (go_quiet (fail);try go_wp2)
  go_loopg [5] k (fun kq v5 w' => ∃ (x5_1 : Int), v5 = .int .i64 x5_1 ∧ Aside0 (rickyardref9_SameBig.l0 kq l0 l1 x5_1 = some r) ∧ Aside0 (kq ≤ k) ∧ Drawn0 w w')
  case atStart => exact ⟨(0),(by first|rfl|(simp;done)|(simp [*];done)),H',⟨Nat.le_refl _⟩,by repeat (first|exact Drawn0.refl _|apply Drawn0.step)⟩
  case round =>
   clear H'
   try clear c1
   try clear p2
   try clear c3
   try clear c3b0
   try clear c3b1
   try clear c3b2
   obtain ⟨x5_1, rfl, HA, HK1, ⟨m1, rfl⟩⟩ := hrel
   cases gk with
   | zero => exact absurd HA.out (by simp [rickyardref9_SameBig.l0])
   | succ k1 =>
    have H := HA.out
    clear HA
    simp only [rickyardref9_SameBig.l0] at H
    by_cases c4 : x5_1 < (l0.length : Int)
    ·rw [if_pos c4] at H
     have c4b0 : decide (x5_1 < (l0.length : Int)) = true := decide_eq_true c4
     clear c4
     by_cases c5 : 0 ≤ x5_1
     ·rw [if_pos c5] at H
      have c5b0 : decide (0 ≤ x5_1) = true := decide_eq_true c5
      clear c5
      by_cases c6 : x5_1 < (l1.length : Int)
      ·rw [if_pos c6] at H
       have c6b0 : decide (x5_1 < (l1.length : Int)) = true := decide_eq_true c6
       clear c6
       by_cases c7 : (!(((rd_T29 l0 x5_1).f0) == ((rd_T29 l1 x5_1).f0)) || (!(((rd_T29 l0 x5_1).f1) == ((rd_T29 l1 x5_1).f1)))) = true
       ·rw [if_pos c7] at H
        have c7b0 : (!(((rd_T29 l0 x5_1).f0) == ((rd_T29 l1 x5_1).f0)) || (!(((rd_T29 l0 x5_1).f1) == ((rd_T29 l1 x5_1).f1)))) = true := c7
        clear c7
        obtain rfl := Option.some.inj H
        have p204 : 0 ≤ (x5_1 : Int) := oD (by first | (with_reducible assumption) | assumption)
        have q204 : x5_1 < (l0.length : Int) := oD (by first | (with_reducible assumption) | assumption)
        obtain ⟨ad204, e204, hx204_0, hx204_1⟩ := at_T29 HR0.out x5_1 p204 q204
        cases e204
        replace p204 := eq_true p204
        replace q204 := eq_true q204
        have p205 : 0 ≤ (x5_1 : Int) := oD (by first | (with_reducible assumption) | assumption)
        have q205 : x5_1 < (l1.length : Int) := oD (by first | (with_reducible assumption) | assumption)
        obtain ⟨ad205, e205, hx205_0, hx205_1⟩ := at_T29 HR1.out x5_1 p205 q205
        cases e205
        replace p205 := eq_true p205
        replace q205 := eq_true q205
        go_wp2
        repeat (go_quiet (fail);try go_wp2)
        go_ret
        exact ⟨by first | rfl | (simp; done) | (simp [*]; done), by repeat (first | exact Drawn0.refl _ | apply Drawn0.step)⟩
       ·rw [if_neg c7] at H
        have c7b0 : (!(((rd_T29 l0 x5_1).f0) == ((rd_T29 l1 x5_1).f0)) || (!(((rd_T29 l0 x5_1).f1) == ((rd_T29 l1 x5_1).f1)))) = false := by simpa using c7
        clear c7
        have H' := aM H
        clear H
        have p204 : 0 ≤ (x5_1 : Int) := oD (by first | (with_reducible assumption) | assumption)
        have q204 : x5_1 < (l0.length : Int) := oD (by first | (with_reducible assumption) | assumption)
        obtain ⟨ad204, e204, hx204_0, hx204_1⟩ := at_T29 HR0.out x5_1 p204 q204
        cases e204
        replace p204 := eq_true p204
        replace q204 := eq_true q204
        have p205 : 0 ≤ (x5_1 : Int) := oD (by first | (with_reducible assumption) | assumption)
        have q205 : x5_1 < (l1.length : Int) := oD (by first | (with_reducible assumption) | assumption)
        obtain ⟨ad205, e205, hx205_0, hx205_1⟩ := at_T29 HR1.out x5_1 p205 q205
        cases e205
        replace p205 := eq_true p205
        replace q205 := eq_true q205
        go_wp2
        repeat (go_quiet (fail);try go_wp2)
        go_roundg k1
        case measure => have:=HK1.out;omega
        case rel => exact ⟨(wrap64 (x5_1 + 1)),(by first|rfl|(simp;done)|(simp [*];done)),H',⟨by have:=HK1.out;omega⟩,by repeat (first|exact Drawn0.refl _|apply Drawn0.step)⟩
      ·rw [if_neg c6] at H
       exact absurd H (by simp)
     ·rw [if_neg c5] at H
      exact absurd H (by simp)
    ·rw [if_neg c4] at H
     have c4b0 : decide (x5_1 < (l0.length : Int)) = false := decide_eq_false c4
     clear c4
     obtain rfl := Option.some.inj H
     go_wp2
     repeat (go_quiet (fail);try go_wp2)
     go_ret
     exact ⟨by first | rfl | (simp; done) | (simp [*]; done), by repeat (first | exact Drawn0.refl _ | apply Drawn0.step)⟩
 ·rw [if_neg c3] at H
  have c3b0 : ((l0.length : Int) == (l1.length : Int)) = false := beq_eq_false_iff_ne.mpr c3
  have c3b1 : ((l0.length : Int) != (l1.length : Int)) = true := bne_iff_ne.mpr c3
  have c3b2 : (l0.length == l1.length) = false := by first | simpa using c3 | (simp at c3 ⊢; omega)
  obtain rfl := Option.some.inj H
  go_enter Try.func18, Try.ntmps18
  go_wp2
  repeat (go_quiet (fail);try go_wp2)
  go_ret
  exact ⟨by first | rfl | (simp; done) | (simp [*]; done), by repeat (first | exact Drawn0.refl _ | apply Drawn0.step)⟩

/-! ### rickyardlaw11_awake: function 19 -/
def rickyardlaw11_awake.f  : Option (Bool) := (large_Put.f ([] : List (S29)) 0 4).bind fun bt206 => ((large_Take.f bt206.1 4).bind fun bt210 => (if bt206.2 = 0 then (if (bt206.1.length : Int) = 1 then (if bt210.2.1 = 0 then (if bt210.2.2 = 0 then (some ((bt210.1.length : Int) == 0)) else (some false)) else (some false)) else (some false)) else (some false)))
set_option maxHeartbeats 8000000 in
set_option maxRecDepth 100000 in
theorem rickyardlaw11_awake.calls  (r : Bool) (w : World) (h : rickyardlaw11_awake.f  = some r) :
  Calls Try.prog 19 #[] w fun e w' => e = .returned (.bool r) ∧ Below w.heap.size w w' := by
 have hu29 := Try.underlying29
 have HB := aM (Below.refl w.heap.size w)
 have H : ((large_Put.f ([] : List (S29)) 0 4).bind fun bt206 => ((large_Take.f bt206.1 4).bind fun bt210 => (if bt206.2 = 0 then (if (bt206.1.length : Int) = 1 then (if bt210.2.1 = 0 then (if bt210.2.2 = 0 then (some ((bt210.1.length : Int) == 0)) else (some false)) else (some false)) else (some false)) else (some false)))) = some r := h
 clear h
 replace H := Option.bind_eq_some_iff.mp H
 obtain ⟨⟨t206, t209⟩, A10, H⟩ := H
 replace H : ((large_Take.f t206 4).bind fun bt210 => (if t209 = 0 then (if (t206.length : Int) = 1 then (if bt210.2.1 = 0 then (if bt210.2.2 = 0 then (some ((bt210.1.length : Int) == 0)) else (some false)) else (some false)) else (some false)) else (some false))) = some r := H
 have A1 := aM A10
 clear A10
 replace H := Option.bind_eq_some_iff.mp H
 obtain ⟨⟨t210, t211, t212⟩, A20, H⟩ := H
 replace H : (if t209 = 0 then (if (t206.length : Int) = 1 then (if t211 = 0 then (if t212 = 0 then (some ((t210.length : Int) == 0)) else (some false)) else (some false)) else (some false)) else (some false)) = some r := H
 have A2 := aM A20
 clear A20
 by_cases c3 : t209 = 0
 ·rw [if_pos c3] at H
  have c3b0 : (t209 == 0) = true := beq_iff_eq.mpr c3
  have c3b1 : (t209 != 0) = false := bne_eq_false_iff_eq.mpr c3
  clear c3
  by_cases c4 : (t206.length : Int) = 1
  ·rw [if_pos c4] at H
   have c4b0 : ((t206.length : Int) == 1) = true := beq_iff_eq.mpr c4
   have c4b1 : ((t206.length : Int) != 1) = false := bne_eq_false_iff_eq.mpr c4
   clear c4
   by_cases c5 : t211 = 0
   ·rw [if_pos c5] at H
    have c5b0 : (t211 == 0) = true := beq_iff_eq.mpr c5
    have c5b1 : (t211 != 0) = false := bne_eq_false_iff_eq.mpr c5
    clear c5
    by_cases c6 : t212 = 0
    ·rw [if_pos c6] at H
     have c6b0 : (t212 == 0) = true := beq_iff_eq.mpr c6
     have c6b1 : (t212 != 0) = false := bne_eq_false_iff_eq.mpr c6
     clear c6
     obtain rfl := Option.some.inj H
     go_enter Try.func19, Try.ntmps19
     go_wp2_with (first|((with_reducible refine gate_callee (f:=14) rfl ?_);refine goesL_ (some 8) rfl rfl Try.func14 (by kernel_rfl) rfl #[.slice none 0 0,.agg #[.int .i64 0,.int .i64 4]] rfl (by (try simp only [lM,lC,lN]);first|done|rfl|(simp only [lD,lT];rfl)) ?_;(refine (large_Put.calls _ _ ([] : List (S29)) 0 4 t206 t209 _ ?side1 ?side2 A1.out).mono ?_);(case side1 => exact Kd.C_nil _ _);(case side2 => exact Nat.le_refl _);rintro e w7 ⟨v207,rfl,ho0,hb⟩;refine ⟨_,rfl,?_⟩;have n0_:=aM (Kd.R_lower ho0 (wZ (by repeat (first|(with_reducible first|exact HB.out|apply wA|apply wN_|apply wD)|exact HB.out))));have n1_:=aM (wT (by repeat (first|(with_reducible first|exact HB.out|apply wA|apply wN_|apply wD)|exact HB.out)) hb);clear HB;have HO208:=n0_;have HB:=n1_;clear n0_ n1_;(try clear hb);(try clear hb2);(try clear hk);(try clear hi);(try clear ho0);obtain ⟨Ao8,co8,eo8⟩:=Kd.R_slice HO208.out;subst eo8)|((with_reducible refine gate_callee (f:=15) rfl ?_);refine goesL_ (some 13) rfl rfl Try.func15 (by kernel_rfl) rfl #[.slice Ao8 t206.length co8,.int .i64 4] rfl (by (try simp only [lM,lC,lN]);first|done|rfl|(simp only [lD,lT];rfl)) ?_;(with_reducible refine (large_Take.calls _ _ t206 4 t210 t211 t212 _ ?side1 ?side2 A2.out).mono ?_);(case side1 => repeat (first|exact (Kd.R_reads' HO208.out).2.2|(with_reducible refine cA ?_ _)|(with_reducible refine cN ?_ _)|(with_reducible refine cD ?_)));(case side2 => exact (Kd.R_reads' HO208.out).2.1);rintro e w9 ⟨v213,rfl,ho0,hb⟩;refine ⟨_,rfl,?_⟩;have n0_:=aM (Kd.R_elder' (by (with_reducible repeat (first|apply rA|apply rN|apply rD));exact HO208.out) (Kd.R_base ho0) hb);have n1_:=aM (Kd.R_lower (Kd.R_new' ho0 (Kd.R_lt (by (with_reducible repeat (first|apply rA|apply rN|apply rD));exact HO208.out))) (wZ (by repeat (first|(with_reducible first|exact HB.out|apply wA|apply wN_|apply wD)|exact HB.out))));have n2_:=aM (wT (by repeat (first|(with_reducible first|exact HB.out|apply wA|apply wN_|apply wD)|exact HB.out)) hb);clear HO208;clear HB;have HO208:=n0_;have HO214:=n1_;have HB:=n2_;clear n0_ n1_ n2_;(try clear hb);(try clear hb2);(try clear hk);(try clear hi);(try clear ho0);obtain ⟨Ao10,co10,eo10⟩:=Kd.R_slice HO214.out;subst eo10))
     go_ret
     exact ⟨by first | rfl | (simp [errW_none, errW_some] <;> rfl) | (simp [*, errW_none, errW_some] <;> rfl), by repeat (first | (with_reducible first | exact HB.out | apply wA | apply wN_ | apply wD) | exact HB.out)⟩
    ·rw [if_neg c6] at H
     have c6b0 : (t212 == 0) = false := beq_eq_false_iff_ne.mpr c6
     have c6b1 : (t212 != 0) = true := bne_iff_ne.mpr c6
     obtain rfl := Option.some.inj H
     go_enter Try.func19, Try.ntmps19
     go_wp2_with (first|((with_reducible refine gate_callee (f:=14) rfl ?_);refine goesL_ (some 8) rfl rfl Try.func14 (by kernel_rfl) rfl #[.slice none 0 0,.agg #[.int .i64 0,.int .i64 4]] rfl (by (try simp only [lM,lC,lN]);first|done|rfl|(simp only [lD,lT];rfl)) ?_;(refine (large_Put.calls _ _ ([] : List (S29)) 0 4 t206 t209 _ ?side1 ?side2 A1.out).mono ?_);(case side1 => exact Kd.C_nil _ _);(case side2 => exact Nat.le_refl _);rintro e w11 ⟨v207,rfl,ho0,hb⟩;refine ⟨_,rfl,?_⟩;have n0_:=aM (Kd.R_lower ho0 (wZ (by repeat (first|(with_reducible first|exact HB.out|apply wA|apply wN_|apply wD)|exact HB.out))));have n1_:=aM (wT (by repeat (first|(with_reducible first|exact HB.out|apply wA|apply wN_|apply wD)|exact HB.out)) hb);clear HB;have HO208:=n0_;have HB:=n1_;clear n0_ n1_;(try clear hb);(try clear hb2);(try clear hk);(try clear hi);(try clear ho0);obtain ⟨Ao12,co12,eo12⟩:=Kd.R_slice HO208.out;subst eo12)|((with_reducible refine gate_callee (f:=15) rfl ?_);refine goesL_ (some 13) rfl rfl Try.func15 (by kernel_rfl) rfl #[.slice Ao12 t206.length co12,.int .i64 4] rfl (by (try simp only [lM,lC,lN]);first|done|rfl|(simp only [lD,lT];rfl)) ?_;(with_reducible refine (large_Take.calls _ _ t206 4 t210 t211 t212 _ ?side1 ?side2 A2.out).mono ?_);(case side1 => repeat (first|exact (Kd.R_reads' HO208.out).2.2|(with_reducible refine cA ?_ _)|(with_reducible refine cN ?_ _)|(with_reducible refine cD ?_)));(case side2 => exact (Kd.R_reads' HO208.out).2.1);rintro e w13 ⟨v213,rfl,ho0,hb⟩;refine ⟨_,rfl,?_⟩;have n0_:=aM (Kd.R_elder' (by (with_reducible repeat (first|apply rA|apply rN|apply rD));exact HO208.out) (Kd.R_base ho0) hb);have n1_:=aM (Kd.R_lower (Kd.R_new' ho0 (Kd.R_lt (by (with_reducible repeat (first|apply rA|apply rN|apply rD));exact HO208.out))) (wZ (by repeat (first|(with_reducible first|exact HB.out|apply wA|apply wN_|apply wD)|exact HB.out))));have n2_:=aM (wT (by repeat (first|(with_reducible first|exact HB.out|apply wA|apply wN_|apply wD)|exact HB.out)) hb);clear HO208;clear HB;have HO208:=n0_;have HO214:=n1_;have HB:=n2_;clear n0_ n1_ n2_;(try clear hb);(try clear hb2);(try clear hk);(try clear hi);(try clear ho0)))
     go_ret
     exact ⟨by first | rfl | (simp [errW_none, errW_some] <;> rfl) | (simp [*, errW_none, errW_some] <;> rfl), by repeat (first | (with_reducible first | exact HB.out | apply wA | apply wN_ | apply wD) | exact HB.out)⟩
   ·rw [if_neg c5] at H
    have c5b0 : (t211 == 0) = false := beq_eq_false_iff_ne.mpr c5
    have c5b1 : (t211 != 0) = true := bne_iff_ne.mpr c5
    obtain rfl := Option.some.inj H
    go_enter Try.func19, Try.ntmps19
    go_wp2_with (first|((with_reducible refine gate_callee (f:=14) rfl ?_);refine goesL_ (some 8) rfl rfl Try.func14 (by kernel_rfl) rfl #[.slice none 0 0,.agg #[.int .i64 0,.int .i64 4]] rfl (by (try simp only [lM,lC,lN]);first|done|rfl|(simp only [lD,lT];rfl)) ?_;(refine (large_Put.calls _ _ ([] : List (S29)) 0 4 t206 t209 _ ?side1 ?side2 A1.out).mono ?_);(case side1 => exact Kd.C_nil _ _);(case side2 => exact Nat.le_refl _);rintro e w14 ⟨v207,rfl,ho0,hb⟩;refine ⟨_,rfl,?_⟩;have n0_:=aM (Kd.R_lower ho0 (wZ (by repeat (first|(with_reducible first|exact HB.out|apply wA|apply wN_|apply wD)|exact HB.out))));have n1_:=aM (wT (by repeat (first|(with_reducible first|exact HB.out|apply wA|apply wN_|apply wD)|exact HB.out)) hb);clear HB;have HO208:=n0_;have HB:=n1_;clear n0_ n1_;(try clear hb);(try clear hb2);(try clear hk);(try clear hi);(try clear ho0);obtain ⟨Ao15,co15,eo15⟩:=Kd.R_slice HO208.out;subst eo15)|((with_reducible refine gate_callee (f:=15) rfl ?_);refine goesL_ (some 13) rfl rfl Try.func15 (by kernel_rfl) rfl #[.slice Ao15 t206.length co15,.int .i64 4] rfl (by (try simp only [lM,lC,lN]);first|done|rfl|(simp only [lD,lT];rfl)) ?_;(with_reducible refine (large_Take.calls _ _ t206 4 t210 t211 t212 _ ?side1 ?side2 A2.out).mono ?_);(case side1 => repeat (first|exact (Kd.R_reads' HO208.out).2.2|(with_reducible refine cA ?_ _)|(with_reducible refine cN ?_ _)|(with_reducible refine cD ?_)));(case side2 => exact (Kd.R_reads' HO208.out).2.1);rintro e w16 ⟨v213,rfl,ho0,hb⟩;refine ⟨_,rfl,?_⟩;have n0_:=aM (Kd.R_elder' (by (with_reducible repeat (first|apply rA|apply rN|apply rD));exact HO208.out) (Kd.R_base ho0) hb);have n1_:=aM (Kd.R_lower (Kd.R_new' ho0 (Kd.R_lt (by (with_reducible repeat (first|apply rA|apply rN|apply rD));exact HO208.out))) (wZ (by repeat (first|(with_reducible first|exact HB.out|apply wA|apply wN_|apply wD)|exact HB.out))));have n2_:=aM (wT (by repeat (first|(with_reducible first|exact HB.out|apply wA|apply wN_|apply wD)|exact HB.out)) hb);clear HO208;clear HB;have HO208:=n0_;have HO214:=n1_;have HB:=n2_;clear n0_ n1_ n2_;(try clear hb);(try clear hb2);(try clear hk);(try clear hi);(try clear ho0)))
    go_ret
    exact ⟨by first | rfl | (simp [errW_none, errW_some] <;> rfl) | (simp [*, errW_none, errW_some] <;> rfl), by repeat (first | (with_reducible first | exact HB.out | apply wA | apply wN_ | apply wD) | exact HB.out)⟩
  ·rw [if_neg c4] at H
   have c4b0 : ((t206.length : Int) == 1) = false := beq_eq_false_iff_ne.mpr c4
   have c4b1 : ((t206.length : Int) != 1) = true := bne_iff_ne.mpr c4
   obtain rfl := Option.some.inj H
   go_enter Try.func19, Try.ntmps19
   go_wp2_with (first|((with_reducible refine gate_callee (f:=14) rfl ?_);refine goesL_ (some 8) rfl rfl Try.func14 (by kernel_rfl) rfl #[.slice none 0 0,.agg #[.int .i64 0,.int .i64 4]] rfl (by (try simp only [lM,lC,lN]);first|done|rfl|(simp only [lD,lT];rfl)) ?_;(refine (large_Put.calls _ _ ([] : List (S29)) 0 4 t206 t209 _ ?side1 ?side2 A1.out).mono ?_);(case side1 => exact Kd.C_nil _ _);(case side2 => exact Nat.le_refl _);rintro e w17 ⟨v207,rfl,ho0,hb⟩;refine ⟨_,rfl,?_⟩;have n0_:=aM (Kd.R_lower ho0 (wZ (by repeat (first|(with_reducible first|exact HB.out|apply wA|apply wN_|apply wD)|exact HB.out))));have n1_:=aM (wT (by repeat (first|(with_reducible first|exact HB.out|apply wA|apply wN_|apply wD)|exact HB.out)) hb);clear HB;have HO208:=n0_;have HB:=n1_;clear n0_ n1_;(try clear hb);(try clear hb2);(try clear hk);(try clear hi);(try clear ho0);obtain ⟨Ao18,co18,eo18⟩:=Kd.R_slice HO208.out;subst eo18)|((with_reducible refine gate_callee (f:=15) rfl ?_);refine goesL_ (some 13) rfl rfl Try.func15 (by kernel_rfl) rfl #[.slice Ao18 t206.length co18,.int .i64 4] rfl (by (try simp only [lM,lC,lN]);first|done|rfl|(simp only [lD,lT];rfl)) ?_;(with_reducible refine (large_Take.calls _ _ t206 4 t210 t211 t212 _ ?side1 ?side2 A2.out).mono ?_);(case side1 => repeat (first|exact (Kd.R_reads' HO208.out).2.2|(with_reducible refine cA ?_ _)|(with_reducible refine cN ?_ _)|(with_reducible refine cD ?_)));(case side2 => exact (Kd.R_reads' HO208.out).2.1);rintro e w19 ⟨v213,rfl,ho0,hb⟩;refine ⟨_,rfl,?_⟩;have n0_:=aM (Kd.R_elder' (by (with_reducible repeat (first|apply rA|apply rN|apply rD));exact HO208.out) (Kd.R_base ho0) hb);have n1_:=aM (Kd.R_lower (Kd.R_new' ho0 (Kd.R_lt (by (with_reducible repeat (first|apply rA|apply rN|apply rD));exact HO208.out))) (wZ (by repeat (first|(with_reducible first|exact HB.out|apply wA|apply wN_|apply wD)|exact HB.out))));have n2_:=aM (wT (by repeat (first|(with_reducible first|exact HB.out|apply wA|apply wN_|apply wD)|exact HB.out)) hb);clear HO208;clear HB;have HO208:=n0_;have HO214:=n1_;have HB:=n2_;clear n0_ n1_ n2_;(try clear hb);(try clear hb2);(try clear hk);(try clear hi);(try clear ho0)))
   go_ret
   exact ⟨by first | rfl | (simp [errW_none, errW_some] <;> rfl) | (simp [*, errW_none, errW_some] <;> rfl), by repeat (first | (with_reducible first | exact HB.out | apply wA | apply wN_ | apply wD) | exact HB.out)⟩
 ·rw [if_neg c3] at H
  have c3b0 : (t209 == 0) = false := beq_eq_false_iff_ne.mpr c3
  have c3b1 : (t209 != 0) = true := bne_iff_ne.mpr c3
  obtain rfl := Option.some.inj H
  go_enter Try.func19, Try.ntmps19
  go_wp2_with (first|((with_reducible refine gate_callee (f:=14) rfl ?_);refine goesL_ (some 8) rfl rfl Try.func14 (by kernel_rfl) rfl #[.slice none 0 0,.agg #[.int .i64 0,.int .i64 4]] rfl (by (try simp only [lM,lC,lN]);first|done|rfl|(simp only [lD,lT];rfl)) ?_;(refine (large_Put.calls _ _ ([] : List (S29)) 0 4 t206 t209 _ ?side1 ?side2 A1.out).mono ?_);(case side1 => exact Kd.C_nil _ _);(case side2 => exact Nat.le_refl _);rintro e w20 ⟨v207,rfl,ho0,hb⟩;refine ⟨_,rfl,?_⟩;have n0_:=aM (Kd.R_lower ho0 (wZ (by repeat (first|(with_reducible first|exact HB.out|apply wA|apply wN_|apply wD)|exact HB.out))));have n1_:=aM (wT (by repeat (first|(with_reducible first|exact HB.out|apply wA|apply wN_|apply wD)|exact HB.out)) hb);clear HB;have HO208:=n0_;have HB:=n1_;clear n0_ n1_;(try clear hb);(try clear hb2);(try clear hk);(try clear hi);(try clear ho0);obtain ⟨Ao21,co21,eo21⟩:=Kd.R_slice HO208.out;subst eo21)|((with_reducible refine gate_callee (f:=15) rfl ?_);refine goesL_ (some 13) rfl rfl Try.func15 (by kernel_rfl) rfl #[.slice Ao21 t206.length co21,.int .i64 4] rfl (by (try simp only [lM,lC,lN]);first|done|rfl|(simp only [lD,lT];rfl)) ?_;(with_reducible refine (large_Take.calls _ _ t206 4 t210 t211 t212 _ ?side1 ?side2 A2.out).mono ?_);(case side1 => repeat (first|exact (Kd.R_reads' HO208.out).2.2|(with_reducible refine cA ?_ _)|(with_reducible refine cN ?_ _)|(with_reducible refine cD ?_)));(case side2 => exact (Kd.R_reads' HO208.out).2.1);rintro e w22 ⟨v213,rfl,ho0,hb⟩;refine ⟨_,rfl,?_⟩;have n0_:=aM (Kd.R_elder' (by (with_reducible repeat (first|apply rA|apply rN|apply rD));exact HO208.out) (Kd.R_base ho0) hb);have n1_:=aM (Kd.R_lower (Kd.R_new' ho0 (Kd.R_lt (by (with_reducible repeat (first|apply rA|apply rN|apply rD));exact HO208.out))) (wZ (by repeat (first|(with_reducible first|exact HB.out|apply wA|apply wN_|apply wD)|exact HB.out))));have n2_:=aM (wT (by repeat (first|(with_reducible first|exact HB.out|apply wA|apply wN_|apply wD)|exact HB.out)) hb);clear HO208;clear HB;have HO208:=n0_;have HO214:=n1_;have HB:=n2_;clear n0_ n1_ n2_;(try clear hb);(try clear hb2);(try clear hk);(try clear hi);(try clear ho0)))
  go_ret
  exact ⟨by first | rfl | (simp [errW_none, errW_some] <;> rfl) | (simp [*, errW_none, errW_some] <;> rfl), by repeat (first | (with_reducible first | exact HB.out | apply wA | apply wN_ | apply wD) | exact HB.out)⟩

end Go.Proofs.Ytflhbakjlbmfbaa.Pr
