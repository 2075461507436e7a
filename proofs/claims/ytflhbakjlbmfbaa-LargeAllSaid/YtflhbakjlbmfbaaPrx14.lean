-- Printed by a program of this session (wip/tools/myprint.py) that runs the kit's print with contracts of this session's own.
import Derived.Test.YtflhbakjlbmfbaaPrx0
import Derived.Test.YtflhbakjlbmfbaaWTab
import Derived.Test.YtflhbakjlbmfbaaShort
import Derived.Test.YtflhbakjlbmfbaaPrx7
import Derived.Test.YtflhbakjlbmfbaaPrx10
import Derived.Test.YtflhbakjlbmfbaaPrx11
import Derived.Test.YtflhbakjlbmfbaaPrx12
namespace Go.Proofs.Ytflhbakjlbmfbaa.Pr
open Go.RowKit Go.Proofs.YtflhbakjlbmfbaaW.PrintWords Go.Proofs.YtflhbakjlbmfbaaW.PrintLast Go.Proofs.YtflhbakjlbmfbaaW.PrintMore
attribute [local go_sem] max2_int min2_int max_two min_two max_three min_three max_four min_four   -- for this text's walks alone
set_option linter.unusedVariables false
set_option linter.unusedSimpArgs false

/-! ### large_Put: function 14 -/
def large_Put.f (l0 : List (S29)) (a1_0 : Int) (a1_1 : Int) : Option ((List (S29)) × Int) := (large_may.f a1_0 a1_1).bind fun t173 => (if t173 = true then ((api_Big_40_41.f l0 a1_0 a1_1).bind fun t174 => (if t174 = true then (some (([] : List (S29)), 4)) else ((api_Big_43_44.f l0 a1_0 a1_1).bind fun bt175 => ((api_Big_46.f l0).bind fun t177 => ((api_Big_45.f t177 bt175.1 (([(⟨a1_0, a1_1⟩ : S29)] : List (S29)))).bind fun t183 => (some (t183, 0))))))) else (some (([] : List (S29)), 1)))
def large_Put.T6 : Bool × List (List Nat × List Nat) := (true, [([], []), ([0], [0]), ([], []), ([], []), ([3], [3]), ([1, 2, 4, 1], [1, 2, 4]), ([5, 5, 0, 1, 2, 3, 4, 5], [5]), ([6, 0, 1, 2, 3, 4, 5, 6], [])])
def large_Put.B6 : List Nat := [0, 1, 0, 0, 8, 31, 63, 127]
theorem large_Put.tab6 : rtab .any (opsOf Try.f14 6) = large_Put.T6 := by kernel_rfl
theorem large_Put.bits6 : waitsOk large_Put.T6.2 large_Put.B6 = true := by kernel_rfl
set_option maxHeartbeats 8000000 in
set_option maxRecDepth 100000 in
theorem large_Put.calls (A0 : Option Addr) (c0 : Nat) (l0 : List (S29)) (a1_0 : Int) (a1_1 : Int) (r1 : List (S29)) (r2 : Int) (w : World) (hr0 : Kd.C k29 w A0 l0.length l0) (hc0 : l0.length ≤ c0) (h : large_Put.f l0 a1_0 a1_1 = some (r1, r2)) :
  Calls Try.prog 14 #[.slice A0 l0.length c0, .agg #[.int .i64 a1_0, .int .i64 a1_1]] w fun e w' => ∃ v0_ : Value, e = .returned (.tuple #[v0_, .int .i64 r2]) ∧ Kd.R k29 29 w' w.heap.size (fun _ => True) v0_ r1 ∧ Below w.heap.size w w' := by
 have hu29 := Try.underlying29
 have HR0 := aM hr0
 have HC0 := aM hc0
 clear hr0 hc0
 have HB := aM (Below.refl w.heap.size w)
 have H : ((large_may.f a1_0 a1_1).bind fun t173 => (if t173 = true then ((api_Big_40_41.f l0 a1_0 a1_1).bind fun t174 => (if t174 = true then (some (([] : List (S29)), 4)) else ((api_Big_43_44.f l0 a1_0 a1_1).bind fun bt175 => ((api_Big_46.f l0).bind fun t177 => ((api_Big_45.f t177 bt175.1 (([(⟨a1_0, a1_1⟩ : S29)] : List (S29)))).bind fun t183 => (some (t183, 0))))))) else (some (([] : List (S29)), 1)))) = some (r1, r2) := h
 clear h
 replace H := Option.bind_eq_some_iff.mp H
 obtain ⟨t173, A30, H⟩ := H
 replace H : (if t173 = true then ((api_Big_40_41.f l0 a1_0 a1_1).bind fun t174 => (if t174 = true then (some (([] : List (S29)), 4)) else ((api_Big_43_44.f l0 a1_0 a1_1).bind fun bt175 => ((api_Big_46.f l0).bind fun t177 => ((api_Big_45.f t177 bt175.1 (([(⟨a1_0, a1_1⟩ : S29)] : List (S29)))).bind fun t183 => (some (t183, 0))))))) else (some (([] : List (S29)), 1))) = some (r1, r2) := H
 have A3 := aM A30
 clear A30
 by_cases c4 : t173 = true
 ·subst c4
  have H1 : ((api_Big_40_41.f l0 a1_0 a1_1).bind fun t174 => (if t174 = true then (some (([] : List (S29)), 4)) else ((api_Big_43_44.f l0 a1_0 a1_1).bind fun bt175 => ((api_Big_46.f l0).bind fun t177 => ((api_Big_45.f t177 bt175.1 (([(⟨a1_0, a1_1⟩ : S29)] : List (S29)))).bind fun t183 => (some (t183, 0))))))) = some (r1, r2) := by rw [if_pos rfl] at H; exact H
  clear H
  have H := H1
  clear H1
  replace H := Option.bind_eq_some_iff.mp H
  obtain ⟨t174, A50, H⟩ := H
  replace H : (if t174 = true then (some (([] : List (S29)), 4)) else ((api_Big_43_44.f l0 a1_0 a1_1).bind fun bt175 => ((api_Big_46.f l0).bind fun t177 => ((api_Big_45.f t177 bt175.1 (([(⟨a1_0, a1_1⟩ : S29)] : List (S29)))).bind fun t183 => (some (t183, 0)))))) = some (r1, r2) := H
  have A5 := aM A50
  clear A50
  by_cases c6 : t174 = true
  ·subst c6
   have H1 : (some (([] : List (S29)), 4)) = some (r1, r2) := by rw [if_pos rfl] at H; exact H
   clear H
   have H := H1
   clear H1
   simp only [Option.some.injEq, Prod.mk.injEq] at H
   obtain ⟨rfl, rfl⟩ := H
   go_enter Try.func14, Try.ntmps14
   go_wp2_with (first|((with_reducible refine gate_dst (N:=3) rfl ?_);refine box_event ?hg (N:=3) ?hd (cs:=#[.int .i64 a1_0,.int .i64 a1_1]) (t:=29) ?hr ?_;(case hd => rfl);(case hg => rfl);(case hr => first|(go_simp;done)|(go_simp;rfl));intro gb172 hg w7 hbox hb;have n0_:=aM (wT (by repeat (first|(with_reducible first|exact HB.out|apply wA|apply wN_|apply wD)|exact HB.out)) hb);have n1_:=aM (hbox);have n2_:=aM ((by rw [hg];exact (wZ (by repeat (first|(with_reducible first|exact HB.out|apply wA|apply wN_|apply wD)|exact HB.out))) : w.heap.size ≤ gb172));have n3_:=aM ((by rw [hg];exact (wZ (by repeat (first|(with_reducible first|exact HB.out|apply wA|apply wN_|apply wD)|exact HB.out))) : w.heap.size ≤ gb172));clear HB;have HB:=n0_;have BK172:=n1_;have GW172:=n2_;have GE172:=n3_;clear n0_ n1_ n2_ n3_;clear hb hbox hg;have hcz8_0 : w7.cell? ⟨gb172,0,none⟩ = some (.int .i64 a1_0):=(bC BK172.out 0).trans rfl;have hcz8_1 : w7.cell? ⟨gb172,1,none⟩ = some (.int .i64 a1_1):=(bC BK172.out 1).trans rfl;have hfz8_0:=bF BK172.out 0;have hfz8_1:=bF BK172.out 1)|((with_reducible refine gate_callee (f:=39) rfl ?_);refine goesL_ (some 10) rfl rfl Try.func39 (by kernel_rfl) rfl #[.agg #[.int .i64 a1_0,.int .i64 a1_1]] rfl (by (try simp only [lM,lC,lN]);first|done|rfl|(simp only [lD,lT];rfl)) ?_;(with_reducible refine (large_may.calls a1_0 a1_1 true _ A3.out).mono ?_);rintro e w9 ⟨rfl,hb⟩;refine ⟨_,rfl,?_⟩;have n0_:=aM (bB (g:=gb172) (o:=.cells #[.int .i64 a1_0,.int .i64 a1_1] 29 (0,0)) (by (with_reducible repeat (first|refine bN ?_ _|refine bD ?_|refine bA ?_ _));exact BK172.out) hb);have n1_:=aM (wT (by repeat (first|(with_reducible first|exact HB.out|apply wA|apply wN_|apply wD|refine wS ?_ GE172.out)|exact HB.out)) hb);clear BK172;clear HB;have BK172:=n0_;have HB:=n1_;clear n0_ n1_;(try clear hb);(try clear hb2);(try clear hk);(try clear hi))|((with_reducible refine gate_callee (f:=40) rfl ?_);refine goesL_ (some 15) rfl rfl Try.func40 (by kernel_rfl) rfl #[.slice A0 l0.length c0,.func (.func 41) #[] #[.pointer (some ⟨gb172,0,none⟩)]] rfl (by (try simp only [lM,lC,lN]);first|done|rfl|(simp only [lD,lT];rfl)) ?_;(with_reducible refine (api_Big_40_41.calls _ _ l0 gb172 a1_0 a1_1 true _ ?side1 ?side2 ?side3 A5.out).mono ?_);(case side1 => repeat (first|exact (cB HR0.out HB.out)|(with_reducible refine cA ?_ _)|(with_reducible refine cN ?_ _)|(with_reducible refine cD ?_)));(case side2 => exact HC0.out);(case side3 => (with_reducible repeat (first|refine bN ?_ _|refine bD ?_|refine bA ?_ _));exact BK172.out);rintro e w10 ⟨rfl,hb⟩;refine ⟨_,rfl,?_⟩;have n0_:=aM (bB (g:=gb172) (o:=.cells #[.int .i64 a1_0,.int .i64 a1_1] 29 (0,0)) (by (with_reducible repeat (first|refine bN ?_ _|refine bD ?_|refine bA ?_ _));exact BK172.out) hb);have n1_:=aM (wT (by repeat (first|(with_reducible first|exact HB.out|apply wA|apply wN_|apply wD|refine wS ?_ GE172.out)|exact HB.out)) hb);clear BK172;clear HB;have BK172:=n0_;have HB:=n1_;clear n0_ n1_;(try clear hb);(try clear hb2);(try clear hk);(try clear hi)))
   go_ret2
   exact ⟨_, by first | rfl | (simp [errW_none, errW_some] <;> rfl) | (simp [*, errW_none, errW_some] <;> rfl), by first | exact Kd.R_nil _ _ _ _ _ | exact Kd.N_nil _ _ _ _ _ | exact Kd.V_nil _ _ _ _ _ | exact Kd.Q_nil _ _ _ _ _ | exact Kd.S_nil _ _ _ _ _, by repeat (first | (with_reducible first | exact HB.out | apply wA | apply wN_ | apply wD | refine wS ?_ GE172.out) | exact HB.out)⟩
  ·replace c6 := Bool.eq_false_iff.mpr c6
   subst c6
   have H1 : ((api_Big_43_44.f l0 a1_0 a1_1).bind fun bt175 => ((api_Big_46.f l0).bind fun t177 => ((api_Big_45.f t177 bt175.1 (([(⟨a1_0, a1_1⟩ : S29)] : List (S29)))).bind fun t183 => (some (t183, 0))))) = some (r1, r2) := by rw [if_neg (show ¬ (false = true) by decide)] at H; exact H
   clear H
   have H := H1
   clear H1
   replace H := Option.bind_eq_some_iff.mp H
   obtain ⟨⟨t175, t176⟩, A110, H⟩ := H
   replace H : ((api_Big_46.f l0).bind fun t177 => ((api_Big_45.f t177 t175 (([(⟨a1_0, a1_1⟩ : S29)] : List (S29)))).bind fun t183 => (some (t183, 0)))) = some (r1, r2) := H
   have A11 := aM A110
   clear A110
   replace H := Option.bind_eq_some_iff.mp H
   obtain ⟨t177, A120, H⟩ := H
   replace H : ((api_Big_45.f t177 t175 (([(⟨a1_0, a1_1⟩ : S29)] : List (S29)))).bind fun t183 => (some (t183, 0))) = some (r1, r2) := H
   have A12 := aM A120
   clear A120
   obtain ⟨y180, hy180⟩ : ∃ y_ : List (S29), y_ = (([(⟨a1_0, a1_1⟩ : S29)] : List (S29))) := ⟨_, rfl⟩
   replace H : ((api_Big_45.f t177 t175 y180).bind fun t183 => (some (t183, 0))) = some (r1, r2) := by first | (rw [hy180]; with_reducible exact H) | (have H2_ := (Option.bind_some _ _).symm.trans H; rw [hy180]; with_reducible exact H2_) | (have H2_ := (Option.bind_some _ _).symm.trans H; with_reducible exact H2_) | with_reducible exact H | (rw [hy180]; exact H) | exact H
   have Ny180 := aM hy180
   clear hy180
   replace H := Option.bind_eq_some_iff.mp H
   obtain ⟨t183, A130, H⟩ := H
   replace H : (some (t183, 0)) = some (r1, r2) := H
   have A13 := aM A130
   clear A130
   simp only [Option.some.injEq, Prod.mk.injEq] at H
   obtain ⟨rfl, rfl⟩ := H
   go_enter Try.func14, Try.ntmps14
   try go_wp2_with (first|((with_reducible refine gate_dst (N:=3) rfl ?_);refine box_event ?hg (N:=3) ?hd (cs:=#[.int .i64 a1_0,.int .i64 a1_1]) (t:=29) ?hr ?_;(case hd => rfl);(case hg => rfl);(case hr => first|(go_simp;done)|(go_simp;rfl));intro gb172 hg w14 hbox hb;have n0_:=aM (wT (by repeat (first|(with_reducible first|exact HB.out|apply wA|apply wN_|apply wD)|exact HB.out)) hb);have n1_:=aM (hbox);have n2_:=aM ((by rw [hg];exact (wZ (by repeat (first|(with_reducible first|exact HB.out|apply wA|apply wN_|apply wD)|exact HB.out))) : w.heap.size ≤ gb172));have n3_:=aM ((by rw [hg];exact (wZ (by repeat (first|(with_reducible first|exact HB.out|apply wA|apply wN_|apply wD)|exact HB.out))) : w.heap.size ≤ gb172));clear HB;have HB:=n0_;have BK172:=n1_;have GW172:=n2_;have GE172:=n3_;clear n0_ n1_ n2_ n3_;clear hb hbox hg;have hcz15_0 : w14.cell? ⟨gb172,0,none⟩ = some (.int .i64 a1_0):=(bC BK172.out 0).trans rfl;have hcz15_1 : w14.cell? ⟨gb172,1,none⟩ = some (.int .i64 a1_1):=(bC BK172.out 1).trans rfl;have hfz15_0:=bF BK172.out 0;have hfz15_1:=bF BK172.out 1)|((with_reducible refine gate_callee (f:=39) rfl ?_);refine goesL_ (some 10) rfl rfl Try.func39 (by kernel_rfl) rfl #[.agg #[.int .i64 a1_0,.int .i64 a1_1]] rfl (by (try simp only [lM,lC,lN]);first|done|rfl|(simp only [lD,lT];rfl)) ?_;(with_reducible refine (large_may.calls a1_0 a1_1 true _ A3.out).mono ?_);rintro e w16 ⟨rfl,hb⟩;refine ⟨_,rfl,?_⟩;have n0_:=aM (bB (g:=gb172) (o:=.cells #[.int .i64 a1_0,.int .i64 a1_1] 29 (0,0)) (by (with_reducible repeat (first|refine bN ?_ _|refine bD ?_|refine bA ?_ _));exact BK172.out) hb);have n1_:=aM (wT (by repeat (first|(with_reducible first|exact HB.out|apply wA|apply wN_|apply wD|refine wS ?_ GE172.out)|exact HB.out)) hb);clear BK172;clear HB;have BK172:=n0_;have HB:=n1_;clear n0_ n1_;(try clear hb);(try clear hb2);(try clear hk);(try clear hi))|((with_reducible refine gate_callee (f:=40) rfl ?_);refine goesL_ (some 15) rfl rfl Try.func40 (by kernel_rfl) rfl #[.slice A0 l0.length c0,.func (.func 41) #[] #[.pointer (some ⟨gb172,0,none⟩)]] rfl (by (try simp only [lM,lC,lN]);first|done|rfl|(simp only [lD,lT];rfl)) ?_;(with_reducible refine (api_Big_40_41.calls _ _ l0 gb172 a1_0 a1_1 false _ ?side1 ?side2 ?side3 A5.out).mono ?_);(case side1 => repeat (first|exact (cB HR0.out HB.out)|(with_reducible refine cA ?_ _)|(with_reducible refine cN ?_ _)|(with_reducible refine cD ?_)));(case side2 => exact HC0.out);(case side3 => (with_reducible repeat (first|refine bN ?_ _|refine bD ?_|refine bA ?_ _));exact BK172.out);rintro e w17 ⟨rfl,hb⟩;refine ⟨_,rfl,?_⟩;have n0_:=aM (bB (g:=gb172) (o:=.cells #[.int .i64 a1_0,.int .i64 a1_1] 29 (0,0)) (by (with_reducible repeat (first|refine bN ?_ _|refine bD ?_|refine bA ?_ _));exact BK172.out) hb);have n1_:=aM (wT (by repeat (first|(with_reducible first|exact HB.out|apply wA|apply wN_|apply wD|refine wS ?_ GE172.out)|exact HB.out)) hb);clear BK172;clear HB;have BK172:=n0_;have HB:=n1_;clear n0_ n1_;(try clear hb);(try clear hb2);(try clear hk);(try clear hi);have hcz18_0 : w17.cell? ⟨gb172,0,none⟩ = some (.int .i64 a1_0):=(bC BK172.out 0).trans rfl;have hcz18_1 : w17.cell? ⟨gb172,1,none⟩ = some (.int .i64 a1_1):=(bC BK172.out 1).trans rfl;have hfz18_0:=bF BK172.out 0;have hfz18_1:=bF BK172.out 1)|((with_reducible refine gate_callee (f:=43) rfl ?_);refine goesL_ (some 19) rfl rfl Try.func43 (by kernel_rfl) rfl #[.slice A0 l0.length c0,.agg #[.int .i64 a1_0,.int .i64 a1_1],.func (.func 44) #[] #[]] rfl (by (try simp only [lM,lC,lN]);first|done|rfl|(simp only [lD,lT];rfl)) ?_;(with_reducible refine (api_Big_43_44.calls _ _ l0 a1_0 a1_1 t175 t176 _ ?side1 ?side2 A11.out).mono ?_);(case side1 => repeat (first|exact (cB HR0.out HB.out)|(with_reducible refine cA ?_ _)|(with_reducible refine cN ?_ _)|(with_reducible refine cD ?_)));(case side2 => exact HC0.out);rintro e w19 ⟨rfl,hb⟩;refine ⟨_,rfl,?_⟩;have n0_:=aM (bB (g:=gb172) (o:=.cells #[.int .i64 a1_0,.int .i64 a1_1] 29 (0,0)) (by (with_reducible repeat (first|refine bN ?_ _|refine bD ?_|refine bA ?_ _));exact BK172.out) hb);have n1_:=aM (wT (by repeat (first|(with_reducible first|exact HB.out|apply wA|apply wN_|apply wD|refine wS ?_ GE172.out)|exact HB.out)) hb);clear BK172;clear HB;have BK172:=n0_;have HB:=n1_;clear n0_ n1_;(try clear hb);(try clear hb2);(try clear hk);(try clear hi)))
   have n0_ := aM (bD BK172.out)
   have n1_ := aM (wD HB.out)
   clear BK172
   clear HB
   have BK172 := n0_
   have HB := n1_
   clear n0_ n1_
   refine start_ (n := 8) (S := fun w' => w'.cell? ⟨gb172, 0, none⟩ = some (.int .i64 a1_0) ∧ w'.cell? ⟨gb172, 1, none⟩ = some (.int .i64 a1_1)) (ds := []) #[false, false, false, false, false, false, false, false] (by kernel_rfl) rfl rfl ⟨(bC BK172.out 0).trans rfl, (bC BK172.out 1).trans rfl⟩ (fun hHeld => ?_); refine with_tabW large_Put.tab6 large_Put.bits6 (fun HT_ HW_ => ?_)
   generalize w19.drew = w20 at BK172 HB hHeld ⊢
   refine pure_ (i := 0) (N := some 22) (v := ?_) (a' := ?_) #[true, false, false, false, false, false, false, false] rfl rfl (any_of HT_.out (by kernel_rfl)) (fun _ _ _ h => h) (Or.inl ⟨by rfl, ?_⟩) ?_ ?_
   rotate_left
   ·intro w'
    go_simp
    with_reducible rfl
   rotate_left
   ·simp only [Act.put, lS, lZ, lU, i64_w, i32_w]
    rfl
   refine pure_ (i := 2) (N := some 24) (v := ?_) (a' := ?_) #[true, false, true, false, false, false, false, false] rfl rfl (any_of HT_.out (by kernel_rfl)) (fun _ _ _ h => h) (Or.inl ⟨by rfl, ?_⟩) ?_ ?_
   rotate_left
   ·intro w'
    go_simp
    with_reducible rfl
   rotate_left
   ·simp only [Act.put, lS, lZ, lU, i64_w, i32_w]
    rfl
   refine take_ (i := 3) (N := some 25) (v := ?_) (a' := ?_) #[true, false, true, true, false, false, false, false] rfl rfl (take_ofW HT_.out HW_.out (by kernel_rfl)) (fun _ _ _ h => h) (Or.inl ⟨by rfl, ?_⟩) hHeld ?_ ?_
   rotate_left
   ·rintro w' ⟨s0, s1⟩
    go_simp
    with_reducible rfl
   rotate_left
   ·simp only [Act.put, lS, lZ, lU, i64_w, i32_w]
    rfl
   refine join_ (σ := Value × Value) 3 #[true, true, true, true, true, false, false, false] (fun s_ => [(23, s_.1), (26, s_.2)]) (fun s_ w' => (w'.cell? ⟨gb172, 0, none⟩ = some (.int .i64 a1_0) ∧ w'.cell? ⟨gb172, 1, none⟩ = some (.int .i64 a1_1)) ∧ (Kd.R k29 29 w' w.heap.size (fun k_ => some k_ ≠ (s_.2 : Value).ownBlock ∧ k_ ≠ gb172) s_.1 t177) ∧ (Kd.R k29 29 w' w.heap.size (fun k_ => some k_ ≠ (s_.1 : Value).ownBlock ∧ k_ ≠ gb172) s_.2 y180) ∧ (w'.heap[gb172]? = some (.cells #[.int .i64 a1_0, .int .i64 a1_1] 29 (0, 0))) ∧ (Below w.heap.size w w')) ?_ ?_
   rotate_left
   ·intro hCont
    refine two_ (i := 1) (j := 4) (Ni := some 23) (Nj := some 26) #[true, true, true, true, false, false, false, false] #[true, false, true, true, true, false, false, false] rfl rfl rfl rfl (two_of HT_.out (by kernel_rfl)) (by decide) (by decide) (fun K hK => ?_) (fun K hK => ?_)
    ·skip
     refine goes_ Try.func46 (by kernel_rfl) rfl #[.slice A0 l0.length c0] (by rfl) rfl rfl (by (try simp only [lM, lC, lN]); first | done | rfl | (simp only [lD, lT]; rfl)) ?_
     with_reducible refine (api_Big_46.calls _ _ l0 t177 _ ?side1 ?side2 A12.out).mono ?_
     (case side1 => repeat (first|exact (cB HR0.out HB.out)|(with_reducible refine cA ?_ _)|(with_reducible refine cN ?_ _)|(with_reducible refine cD ?_)))
     (case side2 => exact HC0.out)
     rintro e w21 ⟨v178, rfl, ho0, hb⟩
     refine ⟨_, rfl, ?_⟩
     have n0_ := aM (Kd.R_lower (Kd.R_newB ho0 (g := gb172) (o := .cells #[.int .i64 a1_0, .int .i64 a1_1] 29 (0, 0)) (by (with_reducible repeat (first | refine bN ?_ _ | refine bD ?_ | refine bA ?_ _)); exact BK172.out)) (wZ (by repeat (first | (with_reducible first | exact HB.out | apply wA | apply wN_ | apply wD | refine wS ?_ GE172.out) | exact HB.out))))
     have n1_ := aM (bB (g := gb172) (o := .cells #[.int .i64 a1_0, .int .i64 a1_1] 29 (0, 0)) (by (with_reducible repeat (first | refine bN ?_ _ | refine bD ?_ | refine bA ?_ _)); exact BK172.out) hb)
     have n2_ := aM (wT (by repeat (first | (with_reducible first | exact HB.out | apply wA | apply wN_ | apply wD | refine wS ?_ GE172.out) | exact HB.out)) hb)
     clear BK172
     clear HB
     have HO179 := n0_
     have BK172 := n1_
     have HB := n2_
     clear n0_ n1_ n2_
     (try clear hb)
     (try clear hb2)
     (try clear hk)
     (try clear hi)
     (try clear ho0)
     refine hK.out _ _ ⟨(bC BK172.out 0).trans rfl, (bC BK172.out 1).trans rfl⟩ (fun hHeld => ?_)
     clear hK K
     refine norm_ (a' := ?_) ?_ ?_
     rotate_left
     ·show Act.put _ (some 23) _ = _
      simp only [Act.put, lS, lZ, lU, i64_w, i32_w]
      rfl
     refine one_ (i := 4) (N := some 26) #[true, true, true, true, true, false, false, false] rfl rfl (one_of HT_.out (by kernel_rfl)) (by decide) (fun K hK => ?_)
     refine Kd.R_lit_step k29 _ 29 ?hg (N:=26) ?hd (xs:=([(⟨a1_0,a1_1⟩ : S29)] : List (S29))) (inner:=[.int .i64 a1_0,.int .i64 a1_1]) (ok:=fun _ => True) (okp:=fun _ => True) ?hr ?hp (fun _ hk => hk) trivial (Below.refl _ _) (Nat.le_refl _) (by simp) ?_;(case hd => rfl);(case hg => rfl);(case hr => first|(go_simp;done)|(go_simp;rfl));(case hp => exact (Reps.c2 (show Kd.M k29 _ _ _ (⟨a1_0,a1_1⟩ : S29) [.int .i64 a1_0,.int .i64 a1_1] from (k29_mkM _ _ _ (⟨a1_0,a1_1⟩ : S29) )) (Reps.none _ _)))
     intro v181 w22 ho23 hb hg_ hnew_
     clear hg_ hnew_
     (first | rw [← Ny180.out] at ho23 | (simp only [Int.reduceToNat] at ho23; rw [← Ny180.out] at ho23))
     have n0_ := aM (Kd.R_elder' (by (with_reducible repeat (first | apply rA | apply rN | apply rD)); exact HO179.out) (Kd.R_base ho23) hb)
     have n1_ := aM (Kd.R_lower (Kd.R_newB (Kd.R_new' ho23 (Kd.R_lt (by (with_reducible repeat (first | apply rA | apply rN | apply rD)); exact HO179.out))) (g := gb172) (o := .cells #[.int .i64 a1_0, .int .i64 a1_1] 29 (0, 0)) (by (with_reducible repeat (first | refine bN ?_ _ | refine bD ?_ | refine bA ?_ _)); exact BK172.out)) (wZ (by repeat (first | (with_reducible first | exact HB.out | apply wA | apply wN_ | apply wD | refine wS ?_ GE172.out) | exact HB.out))))
     have n2_ := aM (bB (g := gb172) (o := .cells #[.int .i64 a1_0, .int .i64 a1_1] 29 (0, 0)) (by (with_reducible repeat (first | refine bN ?_ _ | refine bD ?_ | refine bA ?_ _)); exact BK172.out) hb)
     have n3_ := aM (wT (by repeat (first | (with_reducible first | exact HB.out | apply wA | apply wN_ | apply wD | refine wS ?_ GE172.out) | exact HB.out)) hb)
     clear HO179
     clear BK172
     clear HB
     have HO179 := n0_
     have HO182 := n1_
     have BK172 := n2_
     have HB := n3_
     clear n0_ n1_ n2_ n3_
     clear hb ho23
     refine hK.out _ _ ⟨(bC BK172.out 0).trans rfl, (bC BK172.out 1).trans rfl⟩ (fun hHeld => ?_)
     clear hK K
     refine norm_ (a' := ?_) ?_ ?_
     rotate_left
     ·show Act.put _ (some 26) _ = _
      simp only [Act.put, lS, lZ, lU, i64_w, i32_w]
      rfl
     exact norm_ (by simp only [putAll, Act.put, lS, lZ, lU]) (hCont (v178, v181) _ ⟨hHeld, (by (with_reducible repeat (first | apply rA | apply rN | apply rD)); exact rM HO179.out (fun _ hk => ⟨hk.2, hk.1.2⟩)), (by (with_reducible repeat (first | apply rA | apply rN | apply rD)); exact rM HO182.out (fun _ hk => ⟨hk.1.2, hk.2⟩)), (by (with_reducible repeat (first | refine bN ?_ _ | refine bD ?_ | refine bA ?_ _)); exact BK172.out), (by repeat (first | (with_reducible first | exact HB.out | apply wA | apply wN_ | apply wD | refine wS ?_ GE172.out) | exact HB.out))⟩)
    ·skip
     refine Kd.R_lit_step k29 _ 29 ?hg (N:=26) ?hd (xs:=([(⟨a1_0,a1_1⟩ : S29)] : List (S29))) (inner:=[.int .i64 a1_0,.int .i64 a1_1]) (ok:=fun _ => True) (okp:=fun _ => True) ?hr ?hp (fun _ hk => hk) trivial (Below.refl _ _) (Nat.le_refl _) (by simp) ?_;(case hd => rfl);(case hg => rfl);(case hr => first|(go_simp;done)|(go_simp;rfl));(case hp => exact (Reps.c2 (show Kd.M k29 _ _ _ (⟨a1_0,a1_1⟩ : S29) [.int .i64 a1_0,.int .i64 a1_1] from (k29_mkM _ _ _ (⟨a1_0,a1_1⟩ : S29) )) (Reps.none _ _)))
     intro v181 w21 ho22 hb hg_ hnew_
     clear hg_ hnew_
     (first | rw [← Ny180.out] at ho22 | (simp only [Int.reduceToNat] at ho22; rw [← Ny180.out] at ho22))
     have n0_ := aM (Kd.R_lower (Kd.R_newB ho22 (g := gb172) (o := .cells #[.int .i64 a1_0, .int .i64 a1_1] 29 (0, 0)) (by (with_reducible repeat (first | refine bN ?_ _ | refine bD ?_ | refine bA ?_ _)); exact BK172.out)) (wZ (by repeat (first | (with_reducible first | exact HB.out | apply wA | apply wN_ | apply wD | refine wS ?_ GE172.out) | exact HB.out))))
     have n1_ := aM (bB (g := gb172) (o := .cells #[.int .i64 a1_0, .int .i64 a1_1] 29 (0, 0)) (by (with_reducible repeat (first | refine bN ?_ _ | refine bD ?_ | refine bA ?_ _)); exact BK172.out) hb)
     have n2_ := aM (wT (by repeat (first | (with_reducible first | exact HB.out | apply wA | apply wN_ | apply wD | refine wS ?_ GE172.out) | exact HB.out)) hb)
     clear BK172
     clear HB
     have HO182 := n0_
     have BK172 := n1_
     have HB := n2_
     clear n0_ n1_ n2_
     clear hb ho22
     refine hK.out _ _ ⟨(bC BK172.out 0).trans rfl, (bC BK172.out 1).trans rfl⟩ (fun hHeld => ?_)
     clear hK K
     refine norm_ (a' := ?_) ?_ ?_
     rotate_left
     ·show Act.put _ (some 26) _ = _
      simp only [Act.put, lS, lZ, lU, i64_w, i32_w]
      rfl
     refine one_ (i := 1) (N := some 23) #[true, true, true, true, true, false, false, false] rfl rfl (one_of HT_.out (by kernel_rfl)) (by decide) (fun K hK => ?_)
     refine goes_ Try.func46 (by kernel_rfl) rfl #[.slice A0 l0.length c0] (by rfl) rfl rfl (by (try simp only [lM, lC, lN]); first | done | rfl | (simp only [lD, lT]; rfl)) ?_
     with_reducible refine (api_Big_46.calls _ _ l0 t177 _ ?side1 ?side2 A12.out).mono ?_
     (case side1 => repeat (first|exact (cB HR0.out HB.out)|(with_reducible refine cA ?_ _)|(with_reducible refine cN ?_ _)|(with_reducible refine cD ?_)))
     (case side2 => exact HC0.out)
     rintro e w23 ⟨v178, rfl, ho0, hb⟩
     refine ⟨_, rfl, ?_⟩
     have n0_ := aM (Kd.R_elder' (by (with_reducible repeat (first | apply rA | apply rN | apply rD)); exact HO182.out) (Kd.R_base ho0) hb)
     have n1_ := aM (Kd.R_lower (Kd.R_newB (Kd.R_new' ho0 (Kd.R_lt (by (with_reducible repeat (first | apply rA | apply rN | apply rD)); exact HO182.out))) (g := gb172) (o := .cells #[.int .i64 a1_0, .int .i64 a1_1] 29 (0, 0)) (by (with_reducible repeat (first | refine bN ?_ _ | refine bD ?_ | refine bA ?_ _)); exact BK172.out)) (wZ (by repeat (first | (with_reducible first | exact HB.out | apply wA | apply wN_ | apply wD | refine wS ?_ GE172.out) | exact HB.out))))
     have n2_ := aM (bB (g := gb172) (o := .cells #[.int .i64 a1_0, .int .i64 a1_1] 29 (0, 0)) (by (with_reducible repeat (first | refine bN ?_ _ | refine bD ?_ | refine bA ?_ _)); exact BK172.out) hb)
     have n3_ := aM (wT (by repeat (first | (with_reducible first | exact HB.out | apply wA | apply wN_ | apply wD | refine wS ?_ GE172.out) | exact HB.out)) hb)
     clear HO182
     clear BK172
     clear HB
     have HO182 := n0_
     have HO179 := n1_
     have BK172 := n2_
     have HB := n3_
     clear n0_ n1_ n2_ n3_
     (try clear hb)
     (try clear hb2)
     (try clear hk)
     (try clear hi)
     (try clear ho0)
     refine hK.out _ _ ⟨(bC BK172.out 0).trans rfl, (bC BK172.out 1).trans rfl⟩ (fun hHeld => ?_)
     clear hK K
     refine norm_ (a' := ?_) ?_ ?_
     rotate_left
     ·show Act.put _ (some 23) _ = _
      simp only [Act.put, lS, lZ, lU, i64_w, i32_w]
      rfl
     exact norm_ (by simp only [putAll, Act.put, lS, lZ, lU]) (hCont (v178, v181) _ ⟨hHeld, (by (with_reducible repeat (first | apply rA | apply rN | apply rD)); exact rM HO179.out (fun _ hk => ⟨hk.1.2, hk.2⟩)), (by (with_reducible repeat (first | apply rA | apply rN | apply rD)); exact rM HO182.out (fun _ hk => ⟨hk.2, hk.1.2⟩)), (by (with_reducible repeat (first | refine bN ?_ _ | refine bD ?_ | refine bA ?_ _)); exact BK172.out), (by repeat (first | (with_reducible first | exact HB.out | apply wA | apply wN_ | apply wD | refine wS ?_ GE172.out) | exact HB.out))⟩)
   rintro ⟨v178, v181⟩ w24 ⟨hS_, h0_, h1_, h2_, h3_⟩
   have n0_ : Aside0 (Kd.R k29 29 w24 w.heap.size (fun k_ => some k_ ≠ (v181 : Value).ownBlock ∧ k_ ≠ gb172) v178 t177) := ⟨h0_⟩
   have n1_ : Aside0 (Kd.R k29 29 w24 w.heap.size (fun k_ => some k_ ≠ (v178 : Value).ownBlock ∧ k_ ≠ gb172) v181 y180) := ⟨h1_⟩
   have n2_ : Aside0 (w24.heap[gb172]? = some (.cells #[.int .i64 a1_0, .int .i64 a1_1] 29 (0, 0))) := ⟨h2_⟩
   have n3_ : Aside0 (Below w.heap.size w w24) := ⟨h3_⟩
   clear BK172
   clear HB
   clear h0_ h1_ h2_ h3_
   have HO179 := n0_
   have HO182 := n1_
   have BK172 := n2_
   have HB := n3_
   clear n0_ n1_ n2_ n3_
   have hHeld : w24.cell? ⟨gb172, 0, none⟩ = some (.int .i64 a1_0) ∧ w24.cell? ⟨gb172, 1, none⟩ = some (.int .i64 a1_1) := hS_
   obtain ⟨Ao25, co25, eo25⟩ := Kd.R_slice HO179.out
   (first | subst eo25 | (injection eo25 with f1_ f2_ f3_; have f4_ := f1_.symm; have f5_ := f3_.symm; clear f1_ f2_ f3_; subst f4_; subst f5_))
   obtain ⟨Ao26, co26, eo26⟩ := Kd.R_slice HO182.out
   (first | subst eo26 | (injection eo26 with f1_ f2_ f3_; have f4_ := f1_.symm; have f5_ := f3_.symm; clear f1_ f2_ f3_; subst f4_; subst f5_))
   refine norm_ (a' := ?_) ?_ ?_
   rotate_left
   ·simp only [putAll, Act.put, lS, lZ, lU]
    rfl
   refine one_ (i := 5) (N := some 27) #[true, true, true, true, true, true, false, false] rfl rfl (one_of HT_.out (by kernel_rfl)) (by decide) (fun K hK => ?_)
   refine goes_ Try.func45 (by kernel_rfl) rfl #[.slice Ao25 t177.length co25, .int .i64 t175, .slice Ao26 y180.length co26] (by rfl) rfl rfl (by (try simp only [lM, lC, lN]); first | done | rfl | (simp only [lD, lT]; rfl)) ?_
   with_reducible refine (api_Big_45.calls (fun k_ => some k_ = (.slice Ao25 t177.length co25 : Value).ownBlock) (.slice Ao25 t177.length co25) t177 t175 (fun k_ => some k_ = (.slice Ao26 y180.length co26 : Value).ownBlock) (.slice Ao26 y180.length co26) y180 t183 w _ ?side1 ?side2 ?side3 ?side4 ?side5 A13.out).mono ?_
   (case side1 => repeat (first|(with_reducible first|exact HB.out|apply wA|apply wN_|apply wD|refine wS ?_ GE172.out)|exact HB.out))
   (case side2 => exact Kd.R_tight rfl HO179.out)
   (case side3 => exact fun k_ e_ => (HO179.out.1 k_ e_.symm).1)
   (case side4 => exact Kd.R_tight rfl HO182.out)
   (case side5 => exact fun k_ e_ => (HO182.out.1 k_ e_.symm).1)
   rintro e w27 ⟨v184, rfl, ho0, hb, hkp⟩
   refine ⟨_, rfl, ?_⟩
   have n0_ := aM (blk_kept (by (with_reducible repeat (first | refine bN ?_ _ | refine bD ?_ | refine bA ?_ _)); exact BK172.out) hkp (fun hs_ => Or.elim hs_ (fun e_ => (fun e_ => (Kd.R_away HO179.out (fun _ hk => hk.2)) e_) e_) (fun e_ => (fun e_ => (Kd.R_away HO182.out (fun _ hk => hk.2)) e_) e_)))
   have n1_ := aM (rM (ok' := fun k_ => k_ ≠ gb172) ho0 (fun k_ hk_ => Or.elim hk_ (fun hs_ => Or.elim hs_ (fun hs_ => fun e_ => (Kd.R_away HO179.out (fun _ hk => hk.2)) (by rw [← e_]; exact hs_)) (fun hs_ => fun e_ => (Kd.R_away HO182.out (fun _ hk => hk.2)) (by rw [← e_]; exact hs_))) (fun hn_ => (Kd.freshB (g := gb172) (o := .cells #[.int .i64 a1_0, .int .i64 a1_1] 29 (0, 0)) (by (with_reducible repeat (first | refine bN ?_ _ | refine bD ?_ | refine bA ?_ _)); exact BK172.out) k_ hn_))))
   have n2_ := aM (hb)
   clear BK172
   clear HB
   clear HO179
   clear HO182
   have BK172 := n0_
   have HO185 := n1_
   have HB := n2_
   clear n0_ n1_ n2_
   (try clear hb)
   (try clear hkp)
   (try clear ho0)
   refine hK.out _ _ ⟨(bC BK172.out 0).trans rfl, (bC BK172.out 1).trans rfl⟩ (fun hHeld => ?_)
   clear hK K
   refine norm_ (a' := ?_) ?_ ?_
   rotate_left
   ·show Act.put _ (some 27) _ = _
    simp only [Act.put, lS, lZ, lU, i64_w, i32_w]
    rfl
   refine pure_ (i := 6) (N := some 4) (v := ?_) (a' := ?_) #[true, true, true, true, true, true, true, false] rfl rfl (any_of HT_.out (by kernel_rfl)) (fun _ _ _ h => h) (Or.inl ⟨by rfl, ?_⟩) ?_ ?_
   rotate_left
   ·intro w'
    go_simp
    with_reducible rfl
   rotate_left
   ·simp only [Act.put, lS, lZ, lU, i64_w, i32_w]
    rfl
   refine pure_ (i := 7) (N := some 5) (v := ?_) (a' := ?_) #[true, true, true, true, true, true, true, true] rfl rfl (any_of HT_.out (by kernel_rfl)) (fun _ _ _ h => h) (Or.inl ⟨by rfl, ?_⟩) ?_ ?_
   rotate_left
   ·intro w'
    go_simp
    with_reducible rfl
   rotate_left
   ·simp only [Act.put, lS, lZ, lU, i64_w, i32_w]
    rfl
   refine done_ (done_of HT_.out (by kernel_rfl)) ?_
   try go_wp2
   go_ret2
   exact ⟨_, by first | rfl | (simp [errW_none, errW_some] <;> rfl) | (simp [*, errW_none, errW_some] <;> rfl), by (with_reducible repeat (first | apply rA | apply rN | apply rD)); exact rM HO185.out (fun _ hk => trivial), by repeat (first | (with_reducible first | exact HB.out | apply wA | apply wN_ | apply wD | refine wS ?_ GE172.out) | exact HB.out)⟩
 ·replace c4 := Bool.eq_false_iff.mpr c4
  subst c4
  have H1 : (some (([] : List (S29)), 1)) = some (r1, r2) := by rw [if_neg (show ¬ (false = true) by decide)] at H; exact H
  clear H
  have H := H1
  clear H1
  simp only [Option.some.injEq, Prod.mk.injEq] at H
  obtain ⟨rfl, rfl⟩ := H
  go_enter Try.func14, Try.ntmps14
  go_wp2_with (first|((with_reducible refine gate_dst (N:=3) rfl ?_);refine box_event ?hg (N:=3) ?hd (cs:=#[.int .i64 a1_0,.int .i64 a1_1]) (t:=29) ?hr ?_;(case hd => rfl);(case hg => rfl);(case hr => first|(go_simp;done)|(go_simp;rfl));intro gb172 hg w28 hbox hb;have n0_:=aM (wT (by repeat (first|(with_reducible first|exact HB.out|apply wA|apply wN_|apply wD)|exact HB.out)) hb);have n1_:=aM (hbox);have n2_:=aM ((by rw [hg];exact (wZ (by repeat (first|(with_reducible first|exact HB.out|apply wA|apply wN_|apply wD)|exact HB.out))) : w.heap.size ≤ gb172));have n3_:=aM ((by rw [hg];exact (wZ (by repeat (first|(with_reducible first|exact HB.out|apply wA|apply wN_|apply wD)|exact HB.out))) : w.heap.size ≤ gb172));clear HB;have HB:=n0_;have BK172:=n1_;have GW172:=n2_;have GE172:=n3_;clear n0_ n1_ n2_ n3_;clear hb hbox hg;have hcz29_0 : w28.cell? ⟨gb172,0,none⟩ = some (.int .i64 a1_0):=(bC BK172.out 0).trans rfl;have hcz29_1 : w28.cell? ⟨gb172,1,none⟩ = some (.int .i64 a1_1):=(bC BK172.out 1).trans rfl;have hfz29_0:=bF BK172.out 0;have hfz29_1:=bF BK172.out 1)|((with_reducible refine gate_callee (f:=39) rfl ?_);refine goesL_ (some 10) rfl rfl Try.func39 (by kernel_rfl) rfl #[.agg #[.int .i64 a1_0,.int .i64 a1_1]] rfl (by (try simp only [lM,lC,lN]);first|done|rfl|(simp only [lD,lT];rfl)) ?_;(with_reducible refine (large_may.calls a1_0 a1_1 false _ A3.out).mono ?_);rintro e w30 ⟨rfl,hb⟩;refine ⟨_,rfl,?_⟩;have n0_:=aM (bB (g:=gb172) (o:=.cells #[.int .i64 a1_0,.int .i64 a1_1] 29 (0,0)) (by (with_reducible repeat (first|refine bN ?_ _|refine bD ?_|refine bA ?_ _));exact BK172.out) hb);have n1_:=aM (wT (by repeat (first|(with_reducible first|exact HB.out|apply wA|apply wN_|apply wD|refine wS ?_ GE172.out)|exact HB.out)) hb);clear BK172;clear HB;have BK172:=n0_;have HB:=n1_;clear n0_ n1_;(try clear hb);(try clear hb2);(try clear hk);(try clear hi)))
  go_ret2
  exact ⟨_, by first | rfl | (simp [errW_none, errW_some] <;> rfl) | (simp [*, errW_none, errW_some] <;> rfl), by first | exact Kd.R_nil _ _ _ _ _ | exact Kd.N_nil _ _ _ _ _ | exact Kd.V_nil _ _ _ _ _ | exact Kd.Q_nil _ _ _ _ _ | exact Kd.S_nil _ _ _ _ _, by repeat (first | (with_reducible first | exact HB.out | apply wA | apply wN_ | apply wD | refine wS ?_ GE172.out) | exact HB.out)⟩

end Go.Proofs.Ytflhbakjlbmfbaa.Pr
