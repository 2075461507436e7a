-- Printed by a program of this session (wip/tools/myprint.py) that runs the kit's print with contracts of this session's own.
import Derived.Test.YtflhbakjlbmfbaaPrx0
import Derived.Test.YtflhbakjlbmfbaaWTab
import Derived.Test.YtflhbakjlbmfbaaShort
import Derived.Test.YtflhbakjlbmfbaaPrx3
namespace Go.Proofs.Ytflhbakjlbmfbaa.Pr
open Go.RowKit Go.Proofs.YtflhbakjlbmfbaaW.PrintWords Go.Proofs.YtflhbakjlbmfbaaW.PrintLast Go.Proofs.YtflhbakjlbmfbaaW.PrintMore
attribute [local go_sem] max2_int min2_int max_two min_two max_three min_three max_four min_four   -- for this text's walks alone
set_option linter.unusedVariables false
set_option linter.unusedSimpArgs false

/-! ### rickyardref9_PutBig: function 38 -/
def rickyardref9_PutBig.l0 : Nat → List (S29) → Int → Int → Int → Int → Option ((List (S29)) × Int)
 | 0, _, _, _, _, _ => none
 | k + 1, x0, x6, x7, x111000, x111001 => if x7 < (x0.length : Int) then (if 0 ≤ x7 then ((rickyardref9_overBig.f ((rd_T29 x0 x7).f0) ((rd_T29 x0 x7).f1) x111000 x111001).bind fun t136 => (if t136 = true then (some (([] : List (S29)), 4)) else ((rickyardref9_ahead.f ((rd_T29 x0 x7).f0) ((rd_T29 x0 x7).f1) x111000 x111001).bind fun t138 => (if t138 = true then (rickyardref9_PutBig.l0 k x0 (wrap64 (x7 + 1)) (wrap64 (x7 + 1)) x111000 x111001) else (rickyardref9_PutBig.l0 k x0 x6 (wrap64 (x7 + 1)) x111000 x111001))))) else (none)) else ((some (([] : List (S29)) : List (S29))).bind fun y112 => (if 0 ≤ x6 then (if x6 ≤ (x0.length : Int) then ((some (x0.take (x6 : Int).toNat : List (S29))).bind fun y115 => (if y112.length + y115.length < 8796093022208 then ((some (y112 ++ y115 : List (S29))).bind fun y119 => ((some (([(⟨x111000, x111001⟩ : S29)] : List (S29)) : List (S29))).bind fun y122 => (if y119.length + y122.length < 8796093022208 then ((some (y119 ++ y122 : List (S29))).bind fun y125 => ((some (x0.drop (x6 : Int).toNat : List (S29))).bind fun y128 => (if y125.length + y128.length < 8796093022208 then (some ((y125 ++ y128), 0)) else (none)))) else (none)))) else (none))) else (none)) else (none)))
def rickyardref9_PutBig.f (k : Nat) (l0 : List (S29)) (a1_0 : Int) (a1_1 : Int) : Option ((List (S29)) × Int) := (rickyardref9_MayBig.f a1_0 a1_1).bind fun t111 => (if t111 = true then (rickyardref9_PutBig.l0 k l0 0 0 a1_0 a1_1) else (some (([] : List (S29)), 1)))
theorem rickyardref9_PutBig.mono_l : ∀ k, (∀ y0 y1 y2 y3 y4, LeO (rickyardref9_PutBig.l0 k y0 y1 y2 y3 y4) (rickyardref9_PutBig.l0 (k + 1) y0 y1 y2 y3 y4))
 | 0 => fun _ _ _ _ _ r h => by simp [rickyardref9_PutBig.l0] at h
 | k + 1 => by
  have ih0 := rickyardref9_PutBig.mono_l k
  ·intro y0 y1 y2 y3 y4
   unfold rickyardref9_PutBig.l0
   repeat' first
   | (with_reducible exact ih0 _ _ _ _ _)
   | (with_reducible exact LeO.refl _)
   | (with_reducible exact LeO.none _)
   | (with_reducible refine LeO.ite ?_ ?_)
   | (with_reducible refine LeO.bind ?_ (fun _ => ?_))
   | exact ih0 _ _ _ _ _
   | exact LeO.none _
   | refine LeO.ite ?_ ?_
   | refine LeO.bind ?_ (fun _ => ?_)
theorem rickyardref9_PutBig.mono : ∀ a0 a1 a2 k, LeO (rickyardref9_PutBig.f k a0 a1 a2) (rickyardref9_PutBig.f (k + 1) a0 a1 a2) := by
 intro a0 a1 a2 k
 have ih0 := rickyardref9_PutBig.mono_l k
 unfold rickyardref9_PutBig.f
 repeat' first
   | (with_reducible exact ih0 _ _ _ _ _)
   | (with_reducible exact LeO.refl _)
   | (with_reducible exact LeO.none _)
   | (with_reducible refine LeO.ite ?_ ?_)
   | (with_reducible refine LeO.bind ?_ (fun _ => ?_))
   | exact ih0 _ _ _ _ _
   | exact LeO.none _
   | refine LeO.ite ?_ ?_
   | refine LeO.bind ?_ (fun _ => ?_)
def rickyardref9_PutBig.T11 : Bool × List (List Nat × List Nat) := (true, [([], []), ([], []), ([], []), ([1, 2], [1, 2]), ([0, 3], [0, 3]), ([], []), ([5], [5]), ([4, 6, 4], [4, 6]), ([], []), ([], []), ([8, 9], [8, 9]), ([7, 10, 7], [7, 10]), ([11, 11, 0, 1, 2, 3, 4, 5, 6, 7, 8, 9, 10, 11], [11]), ([12, 0, 1, 2, 3, 4, 5, 6, 7, 8, 9, 10, 11, 12], [])])
def rickyardref9_PutBig.B11 : List Nat := [0, 0, 0, 6, 15, 0, 32, 127, 0, 0, 768, 2047, 4095, 8191]
theorem rickyardref9_PutBig.tab11 : rtab .any (opsOf Try.f38 11) = rickyardref9_PutBig.T11 := by kernel_rfl
theorem rickyardref9_PutBig.bits11 : waitsOk rickyardref9_PutBig.T11.2 rickyardref9_PutBig.B11 = true := by kernel_rfl
set_option maxHeartbeats 8000000 in
set_option maxRecDepth 100000 in
theorem rickyardref9_PutBig.calls (k : Nat) (A0 : Option Addr) (c0 : Nat) (l0 : List (S29)) (a1_0 : Int) (a1_1 : Int) (r1 : List (S29)) (r2 : Int) (w : World) (hr0 : Kd.C k29 w A0 l0.length l0) (hc0 : l0.length ≤ c0) (h : rickyardref9_PutBig.f k l0 a1_0 a1_1 = some (r1, r2)) :
  Calls Try.prog 38 #[.slice A0 l0.length c0, .agg #[.int .i64 a1_0, .int .i64 a1_1]] w fun e w' => ∃ v0_ : Value, e = .returned (.tuple #[v0_, .int .i64 r2]) ∧ Kd.R k29 29 w' w.heap.size (fun _ => True) v0_ r1 ∧ Below w.heap.size w w' := by
 have hu29 := Try.underlying29
 have HR0 := aM hr0
 have HC0 := aM hc0
 clear hr0 hc0
 have HB := aM (Below.refl w.heap.size w)
 have H : ((rickyardref9_MayBig.f a1_0 a1_1).bind fun t111 => (if t111 = true then (rickyardref9_PutBig.l0 k l0 0 0 a1_0 a1_1) else (some (([] : List (S29)), 1)))) = some (r1, r2) := h
 clear h
 replace H := Option.bind_eq_some_iff.mp H
 obtain ⟨t111, A30, H⟩ := H
 replace H : (if t111 = true then (rickyardref9_PutBig.l0 k l0 0 0 a1_0 a1_1) else (some (([] : List (S29)), 1))) = some (r1, r2) := H
 have A3 := aM A30
 clear A30
 by_cases c4 : t111 = true
 ·subst c4
  have H1 : (rickyardref9_PutBig.l0 k l0 0 0 a1_0 a1_1) = some (r1, r2) := by rw [if_pos rfl] at H; exact H
  clear H
  have H := H1
  clear H1
  have H' := aM H
  clear H
  go_enter Try.func38, Try.ntmps38
  go_wp2_with (first|((with_reducible refine gate_dst (N:=3) rfl ?_);refine box_event ?hg (N:=3) ?hd (cs:=#[.int .i64 a1_0,.int .i64 a1_1]) (t:=29) ?hr ?_;(case hd => rfl);(case hg => rfl);(case hr => first|(go_simp;done)|(go_simp;rfl));intro gb110 hg w5 hbox hb;have n0_:=aM (wT (by repeat (first|(with_reducible first|exact HB.out|apply wA|apply wN_|apply wD)|exact HB.out)) hb);have n1_:=aM (hbox);have n2_:=aM ((by rw [hg];exact (wZ (by repeat (first|(with_reducible first|exact HB.out|apply wA|apply wN_|apply wD)|exact HB.out))) : w.heap.size ≤ gb110));have n3_:=aM ((by rw [hg];exact (wZ (by repeat (first|(with_reducible first|exact HB.out|apply wA|apply wN_|apply wD)|exact HB.out))) : w.heap.size ≤ gb110));clear HB;have HB:=n0_;have BK110:=n1_;have GW110:=n2_;have GE110:=n3_;clear n0_ n1_ n2_ n3_;clear hb hbox hg;have hcz6_0 : w5.cell? ⟨gb110,0,none⟩ = some (.int .i64 a1_0):=(bC BK110.out 0).trans rfl;have hcz6_1 : w5.cell? ⟨gb110,1,none⟩ = some (.int .i64 a1_1):=(bC BK110.out 1).trans rfl;have hfz6_0:=bF BK110.out 0;have hfz6_1:=bF BK110.out 1)|((with_reducible refine gate_callee (f:=65) rfl ?_);refine goesL_ (some 9) rfl rfl Try.func65 (by kernel_rfl) rfl #[.agg #[.int .i64 a1_0,.int .i64 a1_1]] rfl (by (try simp only [lM,lC,lN]);first|done|rfl|(simp only [lD,lT];rfl)) ?_;(with_reducible refine (rickyardref9_MayBig.calls a1_0 a1_1 true _ A3.out).mono ?_);rintro e w7 ⟨rfl,hb⟩;refine ⟨_,rfl,?_⟩;have n0_:=aM (bB (g:=gb110) (o:=.cells #[.int .i64 a1_0,.int .i64 a1_1] 29 (0,0)) (by (with_reducible repeat (first|refine bN ?_ _|refine bD ?_|refine bA ?_ _));exact BK110.out) hb);have n1_:=aM (wT (by repeat (first|(with_reducible first|exact HB.out|apply wA|apply wN_|apply wD|refine wS ?_ GE110.out)|exact HB.out)) hb);clear BK110;clear HB;have BK110:=n0_;have HB:=n1_;clear n0_ n1_;(try clear hb);(try clear hb2);(try clear hk);(try clear hi)))
  go_loopg [6, 7] k (fun kq v6 v7 w' => ∃ (x6_1 : Int) (x7_1 : Int), v6 = .int .i64 x6_1 ∧ v7 = .int .i64 x7_1 ∧ Aside0 (rickyardref9_PutBig.l0 kq l0 x6_1 x7_1 a1_0 a1_1 = some (r1, r2)) ∧ Aside0 (kq ≤ k) ∧ Aside0 (w'.heap[gb110]? = some (.cells #[.int .i64 a1_0, .int .i64 a1_1] 29 (0, 0))) ∧ Aside0 (Below w.heap.size w w'))
  case atStart => exact ⟨(0),(0),(by first|rfl|(simp;done)|(simp [*];done)),(by first|rfl|(simp;done)|(simp [*];done)),H',⟨Nat.le_refl _⟩,⟨by (with_reducible repeat (first|refine bN ?_ _|refine bD ?_|refine bA ?_ _));exact BK110.out⟩,⟨by repeat (first|(with_reducible first|exact HB.out|apply wA|apply wN_|apply wD|refine wS ?_ GE110.out)|exact HB.out)⟩⟩
  case round =>
   clear H'
   try clear p2
   try clear c3
   try clear c4
   try clear c6
   try clear hcz6_0
   try clear hcz6_1
   try clear hfz6_0
   try clear hfz6_1
   obtain ⟨x6_1, x7_1, rfl, rfl, HA, HK1, BK110, HB⟩ := hrel
   cases gk with
   | zero => exact absurd HA.out (by simp [rickyardref9_PutBig.l0])
   | succ k1 =>
    have H := HA.out
    clear HA
    simp only [rickyardref9_PutBig.l0] at H
    by_cases c8 : x7_1 < (l0.length : Int)
    ·rw [if_pos c8] at H
     have c8b0 : decide (x7_1 < (l0.length : Int)) = true := decide_eq_true c8
     clear c8
     by_cases c9 : 0 ≤ x7_1
     ·rw [if_pos c9] at H
      have c9b0 : decide (0 ≤ x7_1) = true := decide_eq_true c9
      clear c9
      replace H := Option.bind_eq_some_iff.mp H
      obtain ⟨t136, A100, H⟩ := H
      replace H : (if t136 = true then (some (([] : List (S29)), 4)) else ((rickyardref9_ahead.f ((rd_T29 l0 x7_1).f0) ((rd_T29 l0 x7_1).f1) a1_0 a1_1).bind fun t138 => (if t138 = true then (rickyardref9_PutBig.l0 k1 l0 (wrap64 (x7_1 + 1)) (wrap64 (x7_1 + 1)) a1_0 a1_1) else (rickyardref9_PutBig.l0 k1 l0 x6_1 (wrap64 (x7_1 + 1)) a1_0 a1_1)))) = some (r1, r2) := H
      have A10 := aM A100
      clear A100
      by_cases c11 : t136 = true
      ·subst c11
       have H1 : (some (([] : List (S29)), 4)) = some (r1, r2) := by rw [if_pos rfl] at H; exact H
       clear H
       have H := H1
       clear H1
       simp only [Option.some.injEq, Prod.mk.injEq] at H
       obtain ⟨rfl, rfl⟩ := H
       try go_wp2
       have n0_ := aM (bD BK110.out)
       have n1_ := aM (wD HB.out)
       clear BK110
       clear HB
       have BK110 := n0_
       have HB := n1_
       clear n0_ n1_
       have p135 : 0 ≤ (x7_1 : Int) := oD (by first | (with_reducible assumption) | assumption)
       have q135 : x7_1 < (l0.length : Int) := oD (by first | (with_reducible assumption) | assumption)
       obtain ⟨ad135, e135, hx135_0, hx135_1⟩ := at_T29 HR0.out x7_1 p135 q135
       have hw135_1 := hx135_1
       have hw135_0 := hx135_0
       cases e135
       replace hx135_0 := (HB.out.cell (wL w _ hx135_0)).trans hx135_0
       replace hx135_1 := (HB.out.cell (wL w _ hx135_1)).trans hx135_1
       replace p135 := eq_true p135
       replace q135 := eq_true q135
       refine start_ (n := 6) (S := fun w' => w'.cell? ⟨gb110, 0, none⟩ = some (.int .i64 a1_0) ∧ w'.cell? ⟨gb110, 1, none⟩ = some (.int .i64 a1_1) ∧ w'.cell? (ad135.add ((x7_1).toNat * 2)) = some (.int .i64 ((rd_T29 l0 x7_1).f0)) ∧ w'.cell? ⟨(ad135.add ((x7_1).toNat * 2)).block, (ad135.add ((x7_1).toNat * 2)).off + 1, none⟩ = some (.int .i64 ((rd_T29 l0 x7_1).f1))) (ds := []) #[false, false, false, false, false, false] (by kernel_rfl) rfl rfl ⟨(bC BK110.out 0).trans rfl, (bC BK110.out 1).trans rfl, ((HB.out.cell (wL w _ hw135_0)).trans hw135_0), ((HB.out.cell (wL w _ hw135_1)).trans hw135_1)⟩ (fun hHeld => ?_)
       generalize wr.drew = w12 at BK110 HB hx135_0 hx135_1 hHeld ⊢
       refine pure_ (i := 0) (N := some 17) (v := ?_) (a' := ?_) #[true, false, false, false, false, false] rfl rfl (by kernel_rfl) (fun _ _ _ h => h) (Or.inl ⟨by rfl, ?_⟩) ?_ ?_
       rotate_left
       ·intro w'
        go_simp
        with_reducible rfl
       rotate_left
       ·simp only [Act.put, lS, lZ, lU, i64_w, i32_w]
        rfl
       refine pure_ (i := 1) (N := some 18) (v := ?_) (a' := ?_) #[true, true, false, false, false, false] rfl rfl (by kernel_rfl) (fun _ _ _ h => h) (Or.inl ⟨by rfl, ?_⟩) ?_ ?_
       rotate_left
       ·intro w'
        go_simp
        with_reducible rfl
       rotate_left
       ·simp only [Act.put, lS, lZ, lU, i64_w, i32_w]
        rfl
       refine pure_ (i := 2) (N := some 19) (v := ?_) (a' := ?_) #[true, true, true, false, false, false] rfl rfl (by kernel_rfl) (fun _ _ _ h => h) (Or.inl ⟨by rfl, ?_⟩) ?_ ?_
       rotate_left
       ·intro w'
        go_simp
        with_reducible rfl
       rotate_left
       ·simp only [Act.put, lS, lZ, lU, i64_w, i32_w]
        rfl
       refine take_ (i := 3) (N := some 20) (v := ?_) (a' := ?_) #[true, true, true, true, false, false] rfl rfl (by kernel_rfl) (fun _ _ _ h => h) (Or.inl ⟨by rfl, ?_⟩) hHeld ?_ ?_
       rotate_left
       ·rintro w' ⟨s0, s1, s2, s3⟩
        go_simp
        with_reducible rfl
       rotate_left
       ·simp only [Act.put, lS, lZ, lU, i64_w, i32_w]
        rfl
       refine take_ (i := 4) (N := some 21) (v := ?_) (a' := ?_) #[true, true, true, true, true, false] rfl rfl (by kernel_rfl) (fun _ _ _ h => h) (Or.inl ⟨by rfl, ?_⟩) hHeld ?_ ?_
       rotate_left
       ·rintro w' ⟨s0, s1, s2, s3⟩
        go_simp
        with_reducible rfl
       rotate_left
       ·simp only [Act.put, lS, lZ, lU, i64_w, i32_w]
        rfl
       refine one_ (i := 5) (N := some 22) #[true, true, true, true, true, true] rfl rfl (by kernel_rfl) (by decide) (fun K hK => ?_)
       refine goes_ Try.func67 (by kernel_rfl) rfl #[.agg #[.int .i64 ((rd_T29 l0 x7_1).f0), .int .i64 ((rd_T29 l0 x7_1).f1)], .agg #[.int .i64 a1_0, .int .i64 a1_1]] (by rfl) rfl rfl (by (try simp only [lM, lC, lN]); first | done | rfl | (simp only [lD, lT]; rfl)) ?_
       with_reducible refine (rickyardref9_overBig.calls ((rd_T29 l0 x7_1).f0) ((rd_T29 l0 x7_1).f1) a1_0 a1_1 true _ A10.out).mono ?_
       rintro e w13 ⟨rfl, hb⟩
       refine ⟨_, rfl, ?_⟩
       have n0_ := aM (bB (g := gb110) (o := .cells #[.int .i64 a1_0, .int .i64 a1_1] 29 (0, 0)) (by (with_reducible repeat (first | refine bN ?_ _ | refine bD ?_ | refine bA ?_ _)); exact BK110.out) hb)
       have n1_ := aM (wT (by repeat (first | (with_reducible first | exact HB.out | apply wA | apply wN_ | apply wD | refine wS ?_ GE110.out) | exact HB.out)) hb)
       clear BK110
       clear HB
       have BK110 := n0_
       have HB := n1_
       clear n0_ n1_
       (try clear hb)
       (try clear hb2)
       (try clear hk)
       (try clear hi)
       refine hK.out _ _ ⟨(bC BK110.out 0).trans rfl, (bC BK110.out 1).trans rfl, ((HB.out.cell (wL w _ hw135_0)).trans hw135_0), ((HB.out.cell (wL w _ hw135_1)).trans hw135_1)⟩ (fun hHeld => ?_)
       clear hK K
       refine norm_ (a' := ?_) ?_ ?_
       rotate_left
       ·show Act.put _ (some 22) _ = _
        simp only [Act.put, lS, lZ, lU, i64_w, i32_w]
        rfl
       refine done_ (by kernel_rfl) ?_
       try go_wp2
       go_ret2
       exact ⟨_, by first | rfl | (simp [errW_none, errW_some] <;> rfl) | (simp [*, errW_none, errW_some] <;> rfl), by first | exact Kd.R_nil _ _ _ _ _ | exact Kd.N_nil _ _ _ _ _ | exact Kd.V_nil _ _ _ _ _ | exact Kd.Q_nil _ _ _ _ _ | exact Kd.S_nil _ _ _ _ _, by repeat (first | (with_reducible first | exact HB.out | apply wA | apply wN_ | apply wD | refine wS ?_ GE110.out) | exact HB.out)⟩
      ·replace c11 := Bool.eq_false_iff.mpr c11
       subst c11
       have H1 : ((rickyardref9_ahead.f ((rd_T29 l0 x7_1).f0) ((rd_T29 l0 x7_1).f1) a1_0 a1_1).bind fun t138 => (if t138 = true then (rickyardref9_PutBig.l0 k1 l0 (wrap64 (x7_1 + 1)) (wrap64 (x7_1 + 1)) a1_0 a1_1) else (rickyardref9_PutBig.l0 k1 l0 x6_1 (wrap64 (x7_1 + 1)) a1_0 a1_1))) = some (r1, r2) := by rw [if_neg (show ¬ (false = true) by decide)] at H; exact H
       clear H
       have H := H1
       clear H1
       replace H := Option.bind_eq_some_iff.mp H
       obtain ⟨t138, A140, H⟩ := H
       replace H : (if t138 = true then (rickyardref9_PutBig.l0 k1 l0 (wrap64 (x7_1 + 1)) (wrap64 (x7_1 + 1)) a1_0 a1_1) else (rickyardref9_PutBig.l0 k1 l0 x6_1 (wrap64 (x7_1 + 1)) a1_0 a1_1)) = some (r1, r2) := H
       have A14 := aM A140
       clear A140
       by_cases c15 : t138 = true
       ·subst c15
        have H1 : (rickyardref9_PutBig.l0 k1 l0 (wrap64 (x7_1 + 1)) (wrap64 (x7_1 + 1)) a1_0 a1_1) = some (r1, r2) := by rw [if_pos rfl] at H; exact H
        clear H
        have H := H1
        clear H1
        have H' := aM H
        clear H
        try go_wp2
        have n0_ := aM (bD BK110.out)
        have n1_ := aM (wD HB.out)
        clear BK110
        clear HB
        have BK110 := n0_
        have HB := n1_
        clear n0_ n1_
        have p135 : 0 ≤ (x7_1 : Int) := oD (by first | (with_reducible assumption) | assumption)
        have q135 : x7_1 < (l0.length : Int) := oD (by first | (with_reducible assumption) | assumption)
        obtain ⟨ad135, e135, hx135_0, hx135_1⟩ := at_T29 HR0.out x7_1 p135 q135
        have hw135_1 := hx135_1
        have hw135_0 := hx135_0
        cases e135
        replace hx135_0 := (HB.out.cell (wL w _ hx135_0)).trans hx135_0
        replace hx135_1 := (HB.out.cell (wL w _ hx135_1)).trans hx135_1
        replace p135 := eq_true p135
        replace q135 := eq_true q135
        refine start_ (n := 6) (S := fun w' => w'.cell? ⟨gb110, 0, none⟩ = some (.int .i64 a1_0) ∧ w'.cell? ⟨gb110, 1, none⟩ = some (.int .i64 a1_1) ∧ w'.cell? (ad135.add ((x7_1).toNat * 2)) = some (.int .i64 ((rd_T29 l0 x7_1).f0)) ∧ w'.cell? ⟨(ad135.add ((x7_1).toNat * 2)).block, (ad135.add ((x7_1).toNat * 2)).off + 1, none⟩ = some (.int .i64 ((rd_T29 l0 x7_1).f1))) (ds := []) #[false, false, false, false, false, false] (by kernel_rfl) rfl rfl ⟨(bC BK110.out 0).trans rfl, (bC BK110.out 1).trans rfl, ((HB.out.cell (wL w _ hw135_0)).trans hw135_0), ((HB.out.cell (wL w _ hw135_1)).trans hw135_1)⟩ (fun hHeld => ?_)
        generalize wr.drew = w16 at BK110 HB hx135_0 hx135_1 hHeld ⊢
        refine pure_ (i := 0) (N := some 17) (v := ?_) (a' := ?_) #[true, false, false, false, false, false] rfl rfl (by kernel_rfl) (fun _ _ _ h => h) (Or.inl ⟨by rfl, ?_⟩) ?_ ?_
        rotate_left
        ·intro w'
         go_simp
         with_reducible rfl
        rotate_left
        ·simp only [Act.put, lS, lZ, lU, i64_w, i32_w]
         rfl
        refine pure_ (i := 1) (N := some 18) (v := ?_) (a' := ?_) #[true, true, false, false, false, false] rfl rfl (by kernel_rfl) (fun _ _ _ h => h) (Or.inl ⟨by rfl, ?_⟩) ?_ ?_
        rotate_left
        ·intro w'
         go_simp
         with_reducible rfl
        rotate_left
        ·simp only [Act.put, lS, lZ, lU, i64_w, i32_w]
         rfl
        refine pure_ (i := 2) (N := some 19) (v := ?_) (a' := ?_) #[true, true, true, false, false, false] rfl rfl (by kernel_rfl) (fun _ _ _ h => h) (Or.inl ⟨by rfl, ?_⟩) ?_ ?_
        rotate_left
        ·intro w'
         go_simp
         with_reducible rfl
        rotate_left
        ·simp only [Act.put, lS, lZ, lU, i64_w, i32_w]
         rfl
        refine take_ (i := 3) (N := some 20) (v := ?_) (a' := ?_) #[true, true, true, true, false, false] rfl rfl (by kernel_rfl) (fun _ _ _ h => h) (Or.inl ⟨by rfl, ?_⟩) hHeld ?_ ?_
        rotate_left
        ·rintro w' ⟨s0, s1, s2, s3⟩
         go_simp
         with_reducible rfl
        rotate_left
        ·simp only [Act.put, lS, lZ, lU, i64_w, i32_w]
         rfl
        refine take_ (i := 4) (N := some 21) (v := ?_) (a' := ?_) #[true, true, true, true, true, false] rfl rfl (by kernel_rfl) (fun _ _ _ h => h) (Or.inl ⟨by rfl, ?_⟩) hHeld ?_ ?_
        rotate_left
        ·rintro w' ⟨s0, s1, s2, s3⟩
         go_simp
         with_reducible rfl
        rotate_left
        ·simp only [Act.put, lS, lZ, lU, i64_w, i32_w]
         rfl
        refine one_ (i := 5) (N := some 22) #[true, true, true, true, true, true] rfl rfl (by kernel_rfl) (by decide) (fun K hK => ?_)
        refine goes_ Try.func67 (by kernel_rfl) rfl #[.agg #[.int .i64 ((rd_T29 l0 x7_1).f0), .int .i64 ((rd_T29 l0 x7_1).f1)], .agg #[.int .i64 a1_0, .int .i64 a1_1]] (by rfl) rfl rfl (by (try simp only [lM, lC, lN]); first | done | rfl | (simp only [lD, lT]; rfl)) ?_
        with_reducible refine (rickyardref9_overBig.calls ((rd_T29 l0 x7_1).f0) ((rd_T29 l0 x7_1).f1) a1_0 a1_1 false _ A10.out).mono ?_
        rintro e w17 ⟨rfl, hb⟩
        refine ⟨_, rfl, ?_⟩
        have n0_ := aM (bB (g := gb110) (o := .cells #[.int .i64 a1_0, .int .i64 a1_1] 29 (0, 0)) (by (with_reducible repeat (first | refine bN ?_ _ | refine bD ?_ | refine bA ?_ _)); exact BK110.out) hb)
        have n1_ := aM (wT (by repeat (first | (with_reducible first | exact HB.out | apply wA | apply wN_ | apply wD | refine wS ?_ GE110.out) | exact HB.out)) hb)
        clear BK110
        clear HB
        have BK110 := n0_
        have HB := n1_
        clear n0_ n1_
        (try clear hb)
        (try clear hb2)
        (try clear hk)
        (try clear hi)
        refine hK.out _ _ ⟨(bC BK110.out 0).trans rfl, (bC BK110.out 1).trans rfl, ((HB.out.cell (wL w _ hw135_0)).trans hw135_0), ((HB.out.cell (wL w _ hw135_1)).trans hw135_1)⟩ (fun hHeld => ?_)
        clear hK K
        refine norm_ (a' := ?_) ?_ ?_
        rotate_left
        ·show Act.put _ (some 22) _ = _
         simp only [Act.put, lS, lZ, lU, i64_w, i32_w]
         rfl
        refine done_ (by kernel_rfl) ?_
        try go_wp2
        have n0_ := aM (bD BK110.out)
        have n1_ := aM (wD HB.out)
        clear BK110
        clear HB
        have BK110 := n0_
        have HB := n1_
        clear n0_ n1_
        have p137 : 0 ≤ (x7_1 : Int) := oD (by first | (with_reducible assumption) | assumption)
        have q137 : x7_1 < (l0.length : Int) := oD (by first | (with_reducible assumption) | assumption)
        obtain ⟨ad137, e137, hx137_0, hx137_1⟩ := at_T29 HR0.out x7_1 p137 q137
        have hw137_1 := hx137_1
        have hw137_0 := hx137_0
        obtain rfl : ad135 = ad137 := (by injection e137)
        replace hx137_0 := (HB.out.cell (wL w _ hx137_0)).trans hx137_0
        replace hx137_1 := (HB.out.cell (wL w _ hx137_1)).trans hx137_1
        replace p137 := eq_true p137
        replace q137 := eq_true q137
        refine start_ (n := 6) (S := fun w' => w'.cell? ⟨gb110, 0, none⟩ = some (.int .i64 a1_0) ∧ w'.cell? ⟨gb110, 1, none⟩ = some (.int .i64 a1_1) ∧ w'.cell? (ad135.add ((x7_1).toNat * 2)) = some (.int .i64 ((rd_T29 l0 x7_1).f0)) ∧ w'.cell? ⟨(ad135.add ((x7_1).toNat * 2)).block, (ad135.add ((x7_1).toNat * 2)).off + 1, none⟩ = some (.int .i64 ((rd_T29 l0 x7_1).f1))) (ds := []) #[false, false, false, false, false, false] (by kernel_rfl) rfl rfl ⟨(bC BK110.out 0).trans rfl, (bC BK110.out 1).trans rfl, ((HB.out.cell (wL w _ hw137_0)).trans hw137_0), ((HB.out.cell (wL w _ hw137_1)).trans hw137_1)⟩ (fun hHeld => ?_)
        generalize w17.drew = w18 at BK110 HB hx137_0 hx137_1 hHeld ⊢
        refine pure_ (i := 0) (N := some 23) (v := ?_) (a' := ?_) #[true, false, false, false, false, false] rfl rfl (by kernel_rfl) (fun _ _ _ h => h) (Or.inl ⟨by rfl, ?_⟩) ?_ ?_
        rotate_left
        ·intro w'
         go_simp
         with_reducible rfl
        rotate_left
        ·simp only [Act.put, lS, lZ, lU, i64_w, i32_w]
         rfl
        refine pure_ (i := 1) (N := some 24) (v := ?_) (a' := ?_) #[true, true, false, false, false, false] rfl rfl (by kernel_rfl) (fun _ _ _ h => h) (Or.inl ⟨by rfl, ?_⟩) ?_ ?_
        rotate_left
        ·intro w'
         go_simp
         with_reducible rfl
        rotate_left
        ·simp only [Act.put, lS, lZ, lU, i64_w, i32_w]
         rfl
        refine pure_ (i := 2) (N := some 25) (v := ?_) (a' := ?_) #[true, true, true, false, false, false] rfl rfl (by kernel_rfl) (fun _ _ _ h => h) (Or.inl ⟨by rfl, ?_⟩) ?_ ?_
        rotate_left
        ·intro w'
         go_simp
         with_reducible rfl
        rotate_left
        ·simp only [Act.put, lS, lZ, lU, i64_w, i32_w]
         rfl
        refine take_ (i := 3) (N := some 26) (v := ?_) (a' := ?_) #[true, true, true, true, false, false] rfl rfl (by kernel_rfl) (fun _ _ _ h => h) (Or.inl ⟨by rfl, ?_⟩) hHeld ?_ ?_
        rotate_left
        ·rintro w' ⟨s0, s1, s2, s3⟩
         go_simp
         with_reducible rfl
        rotate_left
        ·simp only [Act.put, lS, lZ, lU, i64_w, i32_w]
         rfl
        refine take_ (i := 4) (N := some 27) (v := ?_) (a' := ?_) #[true, true, true, true, true, false] rfl rfl (by kernel_rfl) (fun _ _ _ h => h) (Or.inl ⟨by rfl, ?_⟩) hHeld ?_ ?_
        rotate_left
        ·rintro w' ⟨s0, s1, s2, s3⟩
         go_simp
         with_reducible rfl
        rotate_left
        ·simp only [Act.put, lS, lZ, lU, i64_w, i32_w]
         rfl
        refine one_ (i := 5) (N := some 28) #[true, true, true, true, true, true] rfl rfl (by kernel_rfl) (by decide) (fun K hK => ?_)
        refine goes_ Try.func66 (by kernel_rfl) rfl #[.agg #[.int .i64 ((rd_T29 l0 x7_1).f0), .int .i64 ((rd_T29 l0 x7_1).f1)], .agg #[.int .i64 a1_0, .int .i64 a1_1]] (by rfl) rfl rfl (by (try simp only [lM, lC, lN]); first | done | rfl | (simp only [lD, lT]; rfl)) ?_
        with_reducible refine (rickyardref9_ahead.calls ((rd_T29 l0 x7_1).f0) ((rd_T29 l0 x7_1).f1) a1_0 a1_1 true _ A14.out).mono ?_
        rintro e w19 ⟨rfl, hb⟩
        refine ⟨_, rfl, ?_⟩
        have n0_ := aM (bB (g := gb110) (o := .cells #[.int .i64 a1_0, .int .i64 a1_1] 29 (0, 0)) (by (with_reducible repeat (first | refine bN ?_ _ | refine bD ?_ | refine bA ?_ _)); exact BK110.out) hb)
        have n1_ := aM (wT (by repeat (first | (with_reducible first | exact HB.out | apply wA | apply wN_ | apply wD | refine wS ?_ GE110.out) | exact HB.out)) hb)
        clear BK110
        clear HB
        have BK110 := n0_
        have HB := n1_
        clear n0_ n1_
        (try clear hb)
        (try clear hb2)
        (try clear hk)
        (try clear hi)
        refine hK.out _ _ ⟨(bC BK110.out 0).trans rfl, (bC BK110.out 1).trans rfl, ((HB.out.cell (wL w _ hw137_0)).trans hw137_0), ((HB.out.cell (wL w _ hw137_1)).trans hw137_1)⟩ (fun hHeld => ?_)
        clear hK K
        refine norm_ (a' := ?_) ?_ ?_
        rotate_left
        ·show Act.put _ (some 28) _ = _
         simp only [Act.put, lS, lZ, lU, i64_w, i32_w]
         rfl
        refine done_ (by kernel_rfl) ?_
        try go_wp2
        go_roundg k1
        case measure => have:=HK1.out;omega
        case rel => exact ⟨(wrap64 (x7_1 + 1)),(wrap64 (x7_1 + 1)),(by first|rfl|(simp;done)|(simp [*];done)),(by first|rfl|(simp;done)|(simp [*];done)),H',⟨by have:=HK1.out;omega⟩,⟨by (with_reducible repeat (first|refine bN ?_ _|refine bD ?_|refine bA ?_ _));exact BK110.out⟩,⟨by repeat (first|(with_reducible first|exact HB.out|apply wA|apply wN_|apply wD|refine wS ?_ GE110.out)|exact HB.out)⟩⟩
       ·replace c15 := Bool.eq_false_iff.mpr c15
        subst c15
        have H1 : (rickyardref9_PutBig.l0 k1 l0 x6_1 (wrap64 (x7_1 + 1)) a1_0 a1_1) = some (r1, r2) := by rw [if_neg (show ¬ (false = true) by decide)] at H; exact H
        clear H
        have H := H1
        clear H1
        have H' := aM H
        clear H
        try go_wp2
        have n0_ := aM (bD BK110.out)
        have n1_ := aM (wD HB.out)
        clear BK110
        clear HB
        have BK110 := n0_
        have HB := n1_
        clear n0_ n1_
        have p135 : 0 ≤ (x7_1 : Int) := oD (by first | (with_reducible assumption) | assumption)
        have q135 : x7_1 < (l0.length : Int) := oD (by first | (with_reducible assumption) | assumption)
        obtain ⟨ad135, e135, hx135_0, hx135_1⟩ := at_T29 HR0.out x7_1 p135 q135
        have hw135_1 := hx135_1
        have hw135_0 := hx135_0
        cases e135
        replace hx135_0 := (HB.out.cell (wL w _ hx135_0)).trans hx135_0
        replace hx135_1 := (HB.out.cell (wL w _ hx135_1)).trans hx135_1
        replace p135 := eq_true p135
        replace q135 := eq_true q135
        refine start_ (n := 6) (S := fun w' => w'.cell? ⟨gb110, 0, none⟩ = some (.int .i64 a1_0) ∧ w'.cell? ⟨gb110, 1, none⟩ = some (.int .i64 a1_1) ∧ w'.cell? (ad135.add ((x7_1).toNat * 2)) = some (.int .i64 ((rd_T29 l0 x7_1).f0)) ∧ w'.cell? ⟨(ad135.add ((x7_1).toNat * 2)).block, (ad135.add ((x7_1).toNat * 2)).off + 1, none⟩ = some (.int .i64 ((rd_T29 l0 x7_1).f1))) (ds := []) #[false, false, false, false, false, false] (by kernel_rfl) rfl rfl ⟨(bC BK110.out 0).trans rfl, (bC BK110.out 1).trans rfl, ((HB.out.cell (wL w _ hw135_0)).trans hw135_0), ((HB.out.cell (wL w _ hw135_1)).trans hw135_1)⟩ (fun hHeld => ?_)
        generalize wr.drew = w20 at BK110 HB hx135_0 hx135_1 hHeld ⊢
        refine pure_ (i := 0) (N := some 17) (v := ?_) (a' := ?_) #[true, false, false, false, false, false] rfl rfl (by kernel_rfl) (fun _ _ _ h => h) (Or.inl ⟨by rfl, ?_⟩) ?_ ?_
        rotate_left
        ·intro w'
         go_simp
         with_reducible rfl
        rotate_left
        ·simp only [Act.put, lS, lZ, lU, i64_w, i32_w]
         rfl
        refine pure_ (i := 1) (N := some 18) (v := ?_) (a' := ?_) #[true, true, false, false, false, false] rfl rfl (by kernel_rfl) (fun _ _ _ h => h) (Or.inl ⟨by rfl, ?_⟩) ?_ ?_
        rotate_left
        ·intro w'
         go_simp
         with_reducible rfl
        rotate_left
        ·simp only [Act.put, lS, lZ, lU, i64_w, i32_w]
         rfl
        refine pure_ (i := 2) (N := some 19) (v := ?_) (a' := ?_) #[true, true, true, false, false, false] rfl rfl (by kernel_rfl) (fun _ _ _ h => h) (Or.inl ⟨by rfl, ?_⟩) ?_ ?_
        rotate_left
        ·intro w'
         go_simp
         with_reducible rfl
        rotate_left
        ·simp only [Act.put, lS, lZ, lU, i64_w, i32_w]
         rfl
        refine take_ (i := 3) (N := some 20) (v := ?_) (a' := ?_) #[true, true, true, true, false, false] rfl rfl (by kernel_rfl) (fun _ _ _ h => h) (Or.inl ⟨by rfl, ?_⟩) hHeld ?_ ?_
        rotate_left
        ·rintro w' ⟨s0, s1, s2, s3⟩
         go_simp
         with_reducible rfl
        rotate_left
        ·simp only [Act.put, lS, lZ, lU, i64_w, i32_w]
         rfl
        refine take_ (i := 4) (N := some 21) (v := ?_) (a' := ?_) #[true, true, true, true, true, false] rfl rfl (by kernel_rfl) (fun _ _ _ h => h) (Or.inl ⟨by rfl, ?_⟩) hHeld ?_ ?_
        rotate_left
        ·rintro w' ⟨s0, s1, s2, s3⟩
         go_simp
         with_reducible rfl
        rotate_left
        ·simp only [Act.put, lS, lZ, lU, i64_w, i32_w]
         rfl
        refine one_ (i := 5) (N := some 22) #[true, true, true, true, true, true] rfl rfl (by kernel_rfl) (by decide) (fun K hK => ?_)
        refine goes_ Try.func67 (by kernel_rfl) rfl #[.agg #[.int .i64 ((rd_T29 l0 x7_1).f0), .int .i64 ((rd_T29 l0 x7_1).f1)], .agg #[.int .i64 a1_0, .int .i64 a1_1]] (by rfl) rfl rfl (by (try simp only [lM, lC, lN]); first | done | rfl | (simp only [lD, lT]; rfl)) ?_
        with_reducible refine (rickyardref9_overBig.calls ((rd_T29 l0 x7_1).f0) ((rd_T29 l0 x7_1).f1) a1_0 a1_1 false _ A10.out).mono ?_
        rintro e w21 ⟨rfl, hb⟩
        refine ⟨_, rfl, ?_⟩
        have n0_ := aM (bB (g := gb110) (o := .cells #[.int .i64 a1_0, .int .i64 a1_1] 29 (0, 0)) (by (with_reducible repeat (first | refine bN ?_ _ | refine bD ?_ | refine bA ?_ _)); exact BK110.out) hb)
        have n1_ := aM (wT (by repeat (first | (with_reducible first | exact HB.out | apply wA | apply wN_ | apply wD | refine wS ?_ GE110.out) | exact HB.out)) hb)
        clear BK110
        clear HB
        have BK110 := n0_
        have HB := n1_
        clear n0_ n1_
        (try clear hb)
        (try clear hb2)
        (try clear hk)
        (try clear hi)
        refine hK.out _ _ ⟨(bC BK110.out 0).trans rfl, (bC BK110.out 1).trans rfl, ((HB.out.cell (wL w _ hw135_0)).trans hw135_0), ((HB.out.cell (wL w _ hw135_1)).trans hw135_1)⟩ (fun hHeld => ?_)
        clear hK K
        refine norm_ (a' := ?_) ?_ ?_
        rotate_left
        ·show Act.put _ (some 22) _ = _
         simp only [Act.put, lS, lZ, lU, i64_w, i32_w]
         rfl
        refine done_ (by kernel_rfl) ?_
        try go_wp2
        have n0_ := aM (bD BK110.out)
        have n1_ := aM (wD HB.out)
        clear BK110
        clear HB
        have BK110 := n0_
        have HB := n1_
        clear n0_ n1_
        have p137 : 0 ≤ (x7_1 : Int) := oD (by first | (with_reducible assumption) | assumption)
        have q137 : x7_1 < (l0.length : Int) := oD (by first | (with_reducible assumption) | assumption)
        obtain ⟨ad137, e137, hx137_0, hx137_1⟩ := at_T29 HR0.out x7_1 p137 q137
        have hw137_1 := hx137_1
        have hw137_0 := hx137_0
        obtain rfl : ad135 = ad137 := (by injection e137)
        replace hx137_0 := (HB.out.cell (wL w _ hx137_0)).trans hx137_0
        replace hx137_1 := (HB.out.cell (wL w _ hx137_1)).trans hx137_1
        replace p137 := eq_true p137
        replace q137 := eq_true q137
        refine start_ (n := 6) (S := fun w' => w'.cell? ⟨gb110, 0, none⟩ = some (.int .i64 a1_0) ∧ w'.cell? ⟨gb110, 1, none⟩ = some (.int .i64 a1_1) ∧ w'.cell? (ad135.add ((x7_1).toNat * 2)) = some (.int .i64 ((rd_T29 l0 x7_1).f0)) ∧ w'.cell? ⟨(ad135.add ((x7_1).toNat * 2)).block, (ad135.add ((x7_1).toNat * 2)).off + 1, none⟩ = some (.int .i64 ((rd_T29 l0 x7_1).f1))) (ds := []) #[false, false, false, false, false, false] (by kernel_rfl) rfl rfl ⟨(bC BK110.out 0).trans rfl, (bC BK110.out 1).trans rfl, ((HB.out.cell (wL w _ hw137_0)).trans hw137_0), ((HB.out.cell (wL w _ hw137_1)).trans hw137_1)⟩ (fun hHeld => ?_)
        generalize w21.drew = w22 at BK110 HB hx137_0 hx137_1 hHeld ⊢
        refine pure_ (i := 0) (N := some 23) (v := ?_) (a' := ?_) #[true, false, false, false, false, false] rfl rfl (by kernel_rfl) (fun _ _ _ h => h) (Or.inl ⟨by rfl, ?_⟩) ?_ ?_
        rotate_left
        ·intro w'
         go_simp
         with_reducible rfl
        rotate_left
        ·simp only [Act.put, lS, lZ, lU, i64_w, i32_w]
         rfl
        refine pure_ (i := 1) (N := some 24) (v := ?_) (a' := ?_) #[true, true, false, false, false, false] rfl rfl (by kernel_rfl) (fun _ _ _ h => h) (Or.inl ⟨by rfl, ?_⟩) ?_ ?_
        rotate_left
        ·intro w'
         go_simp
         with_reducible rfl
        rotate_left
        ·simp only [Act.put, lS, lZ, lU, i64_w, i32_w]
         rfl
        refine pure_ (i := 2) (N := some 25) (v := ?_) (a' := ?_) #[true, true, true, false, false, false] rfl rfl (by kernel_rfl) (fun _ _ _ h => h) (Or.inl ⟨by rfl, ?_⟩) ?_ ?_
        rotate_left
        ·intro w'
         go_simp
         with_reducible rfl
        rotate_left
        ·simp only [Act.put, lS, lZ, lU, i64_w, i32_w]
         rfl
        refine take_ (i := 3) (N := some 26) (v := ?_) (a' := ?_) #[true, true, true, true, false, false] rfl rfl (by kernel_rfl) (fun _ _ _ h => h) (Or.inl ⟨by rfl, ?_⟩) hHeld ?_ ?_
        rotate_left
        ·rintro w' ⟨s0, s1, s2, s3⟩
         go_simp
         with_reducible rfl
        rotate_left
        ·simp only [Act.put, lS, lZ, lU, i64_w, i32_w]
         rfl
        refine take_ (i := 4) (N := some 27) (v := ?_) (a' := ?_) #[true, true, true, true, true, false] rfl rfl (by kernel_rfl) (fun _ _ _ h => h) (Or.inl ⟨by rfl, ?_⟩) hHeld ?_ ?_
        rotate_left
        ·rintro w' ⟨s0, s1, s2, s3⟩
         go_simp
         with_reducible rfl
        rotate_left
        ·simp only [Act.put, lS, lZ, lU, i64_w, i32_w]
         rfl
        refine one_ (i := 5) (N := some 28) #[true, true, true, true, true, true] rfl rfl (by kernel_rfl) (by decide) (fun K hK => ?_)
        refine goes_ Try.func66 (by kernel_rfl) rfl #[.agg #[.int .i64 ((rd_T29 l0 x7_1).f0), .int .i64 ((rd_T29 l0 x7_1).f1)], .agg #[.int .i64 a1_0, .int .i64 a1_1]] (by rfl) rfl rfl (by (try simp only [lM, lC, lN]); first | done | rfl | (simp only [lD, lT]; rfl)) ?_
        with_reducible refine (rickyardref9_ahead.calls ((rd_T29 l0 x7_1).f0) ((rd_T29 l0 x7_1).f1) a1_0 a1_1 false _ A14.out).mono ?_
        rintro e w23 ⟨rfl, hb⟩
        refine ⟨_, rfl, ?_⟩
        have n0_ := aM (bB (g := gb110) (o := .cells #[.int .i64 a1_0, .int .i64 a1_1] 29 (0, 0)) (by (with_reducible repeat (first | refine bN ?_ _ | refine bD ?_ | refine bA ?_ _)); exact BK110.out) hb)
        have n1_ := aM (wT (by repeat (first | (with_reducible first | exact HB.out | apply wA | apply wN_ | apply wD | refine wS ?_ GE110.out) | exact HB.out)) hb)
        clear BK110
        clear HB
        have BK110 := n0_
        have HB := n1_
        clear n0_ n1_
        (try clear hb)
        (try clear hb2)
        (try clear hk)
        (try clear hi)
        refine hK.out _ _ ⟨(bC BK110.out 0).trans rfl, (bC BK110.out 1).trans rfl, ((HB.out.cell (wL w _ hw137_0)).trans hw137_0), ((HB.out.cell (wL w _ hw137_1)).trans hw137_1)⟩ (fun hHeld => ?_)
        clear hK K
        refine norm_ (a' := ?_) ?_ ?_
        rotate_left
        ·show Act.put _ (some 28) _ = _
         simp only [Act.put, lS, lZ, lU, i64_w, i32_w]
         rfl
        refine done_ (by kernel_rfl) ?_
        try go_wp2
        go_roundg k1
        case measure => have:=HK1.out;omega
        case rel => exact ⟨(x6_1),(wrap64 (x7_1 + 1)),(by first|rfl|(simp;done)|(simp [*];done)),(by first|rfl|(simp;done)|(simp [*];done)),H',⟨by have:=HK1.out;omega⟩,⟨by (with_reducible repeat (first|refine bN ?_ _|refine bD ?_|refine bA ?_ _));exact BK110.out⟩,⟨by repeat (first|(with_reducible first|exact HB.out|apply wA|apply wN_|apply wD|refine wS ?_ GE110.out)|exact HB.out)⟩⟩
     ·rw [if_neg c9] at H
      exact absurd H (by simp)
    ·rw [if_neg c8] at H
     have c8b0 : decide (x7_1 < (l0.length : Int)) = false := decide_eq_false c8
     clear c8
     obtain ⟨y112, hy112⟩ : ∃ y_ : List (S29), y_ = (([] : List (S29))) := ⟨_, rfl⟩
     replace H : (if 0 ≤ x6_1 then (if x6_1 ≤ (l0.length : Int) then ((some (l0.take (x6_1 : Int).toNat : List (S29))).bind fun y115 => (if y112.length + y115.length < 8796093022208 then ((some (y112 ++ y115 : List (S29))).bind fun y119 => ((some (([(⟨a1_0, a1_1⟩ : S29)] : List (S29)) : List (S29))).bind fun y122 => (if y119.length + y122.length < 8796093022208 then ((some (y119 ++ y122 : List (S29))).bind fun y125 => ((some (l0.drop (x6_1 : Int).toNat : List (S29))).bind fun y128 => (if y125.length + y128.length < 8796093022208 then (some ((y125 ++ y128), 0)) else (none)))) else (none)))) else (none))) else (none)) else (none)) = some (r1, r2) := by first | (rw [hy112]; with_reducible exact H) | (have H2_ := (Option.bind_some _ _).symm.trans H; rw [hy112]; with_reducible exact H2_) | (have H2_ := (Option.bind_some _ _).symm.trans H; with_reducible exact H2_) | with_reducible exact H | (rw [hy112]; exact H) | exact H
     have Ny112 := aM hy112
     clear hy112
     by_cases c24 : 0 ≤ x6_1
     ·rw [if_pos c24] at H
      have c24b0 := eq_true c24
      have c24b1 : decide (0 ≤ x6_1) = true := decide_eq_true c24
      clear c24
      by_cases c25 : x6_1 ≤ (l0.length : Int)
      ·rw [if_pos c25] at H
       have c25b0 := eq_true c25
       have c25b1 : decide (x6_1 ≤ (l0.length : Int)) = true := decide_eq_true c25
       clear c25
       obtain ⟨y115, hy115⟩ : ∃ y_ : List (S29), y_ = (l0.take (x6_1 : Int).toNat) := ⟨_, rfl⟩
       replace H : (if y112.length + y115.length < 8796093022208 then ((some (y112 ++ y115 : List (S29))).bind fun y119 => ((some (([(⟨a1_0, a1_1⟩ : S29)] : List (S29)) : List (S29))).bind fun y122 => (if y119.length + y122.length < 8796093022208 then ((some (y119 ++ y122 : List (S29))).bind fun y125 => ((some (l0.drop (x6_1 : Int).toNat : List (S29))).bind fun y128 => (if y125.length + y128.length < 8796093022208 then (some ((y125 ++ y128), 0)) else (none)))) else (none)))) else (none)) = some (r1, r2) := by first | (rw [hy115]; with_reducible exact H) | (have H2_ := (Option.bind_some _ _).symm.trans H; rw [hy115]; with_reducible exact H2_) | (have H2_ := (Option.bind_some _ _).symm.trans H; with_reducible exact H2_) | with_reducible exact H | (rw [hy115]; exact H) | exact H
       have Ny115 := aM hy115
       clear hy115
       by_cases c26 : y112.length + y115.length < 8796093022208
       ·rw [if_pos c26] at H
        have LMc26 := aM c26
        clear c26
        obtain ⟨y119, hy119⟩ : ∃ y_ : List (S29), y_ = (y112 ++ y115) := ⟨_, rfl⟩
        replace H : ((some (([(⟨a1_0, a1_1⟩ : S29)] : List (S29)) : List (S29))).bind fun y122 => (if y119.length + y122.length < 8796093022208 then ((some (y119 ++ y122 : List (S29))).bind fun y125 => ((some (l0.drop (x6_1 : Int).toNat : List (S29))).bind fun y128 => (if y125.length + y128.length < 8796093022208 then (some ((y125 ++ y128), 0)) else (none)))) else (none))) = some (r1, r2) := by first | (rw [hy119]; with_reducible exact H) | (have H2_ := (Option.bind_some _ _).symm.trans H; rw [hy119]; with_reducible exact H2_) | (have H2_ := (Option.bind_some _ _).symm.trans H; with_reducible exact H2_) | with_reducible exact H | (rw [hy119]; exact H) | exact H
        have Ny119 := aM hy119
        clear hy119
        obtain ⟨y122, hy122⟩ : ∃ y_ : List (S29), y_ = (([(⟨a1_0, a1_1⟩ : S29)] : List (S29))) := ⟨_, rfl⟩
        replace H : (if y119.length + y122.length < 8796093022208 then ((some (y119 ++ y122 : List (S29))).bind fun y125 => ((some (l0.drop (x6_1 : Int).toNat : List (S29))).bind fun y128 => (if y125.length + y128.length < 8796093022208 then (some ((y125 ++ y128), 0)) else (none)))) else (none)) = some (r1, r2) := by first | (rw [hy122]; with_reducible exact H) | (have H2_ := (Option.bind_some _ _).symm.trans H; rw [hy122]; with_reducible exact H2_) | (have H2_ := (Option.bind_some _ _).symm.trans H; with_reducible exact H2_) | with_reducible exact H | (rw [hy122]; exact H) | exact H
        have Ny122 := aM hy122
        clear hy122
        by_cases c27 : y119.length + y122.length < 8796093022208
        ·rw [if_pos c27] at H
         have LMc27 := aM c27
         clear c27
         obtain ⟨y125, hy125⟩ : ∃ y_ : List (S29), y_ = (y119 ++ y122) := ⟨_, rfl⟩
         replace H : ((some (l0.drop (x6_1 : Int).toNat : List (S29))).bind fun y128 => (if y125.length + y128.length < 8796093022208 then (some ((y125 ++ y128), 0)) else (none))) = some (r1, r2) := by first | (rw [hy125]; with_reducible exact H) | (have H2_ := (Option.bind_some _ _).symm.trans H; rw [hy125]; with_reducible exact H2_) | (have H2_ := (Option.bind_some _ _).symm.trans H; with_reducible exact H2_) | with_reducible exact H | (rw [hy125]; exact H) | exact H
         have Ny125 := aM hy125
         clear hy125
         have c28b0 := eq_true (oD (by first | (with_reducible assumption) | assumption) : 0 ≤ x6_1)
         have c29b0 := eq_true (oD (by first | (with_reducible assumption) | assumption) : x6_1 ≤ (l0.length : Int))
         obtain ⟨y128, hy128⟩ : ∃ y_ : List (S29), y_ = (l0.drop (x6_1 : Int).toNat) := ⟨_, rfl⟩
         replace H : (if y125.length + y128.length < 8796093022208 then (some ((y125 ++ y128), 0)) else (none)) = some (r1, r2) := by first | (rw [hy128]; with_reducible exact H) | (have H2_ := (Option.bind_some _ _).symm.trans H; rw [hy128]; with_reducible exact H2_) | (have H2_ := (Option.bind_some _ _).symm.trans H; with_reducible exact H2_) | with_reducible exact H | (rw [hy128]; exact H) | exact H
         have Ny128 := aM hy128
         clear hy128
         by_cases c30 : y125.length + y128.length < 8796093022208
         ·rw [if_pos c30] at H
          have LMc30 := aM c30
          clear c30
          obtain ⟨y132, hy132⟩ : ∃ y_ : List (S29), y_ = (y125 ++ y128) := ⟨_, rfl⟩
          replace H : (some (y132, 0)) = some (r1, r2) := by first | (rw [hy132]; with_reducible exact H) | (have H2_ := (Option.bind_some _ _).symm.trans H; rw [hy132]; with_reducible exact H2_) | (have H2_ := (Option.bind_some _ _).symm.trans H; with_reducible exact H2_) | with_reducible exact H | (rw [hy132]; exact H) | exact H
          have Ny132 := aM hy132
          clear hy132
          simp only [Option.some.injEq, Prod.mk.injEq] at H
          obtain ⟨rfl, rfl⟩ := H
          try go_wp2
          have n0_ := aM (bD BK110.out)
          have n1_ := aM (wD HB.out)
          clear BK110
          clear HB
          have BK110 := n0_
          have HB := n1_
          clear n0_ n1_
          have q32 : (x6_1 : Int) ≤ ((l0.length : Int) : Int) := oD (by first | (with_reducible assumption) | assumption)
          obtain ⟨i032, hi032, _, hsz32, _⟩ := info_parts info29
          have hroom32 : l0.length ≤ c0 := HC0.out
          have hC32 : Kd.C k29 _ A0 l0.length l0 := HR0.out
          have hcut32 := cut_to (P := Try.prog) 23 29 .i64 Try.underlying23 hi032 A0 l0.length c0 x6_1 (oD (by first | (with_reducible assumption) | assumption)) q32 hroom32
          have hr32 := Kd.C_take (m := (x6_1 : Int).toNat) hC32 (by omega)
          have hy32 : y115.length = (x6_1 : Int).toNat := (by rw [Ny115.out, lT]; omega)
          rw [← Ny115.out] at hr32
          rw [← hy32] at hcut32
          have HR118 := aM hr32
          have HC118 := aM (show y115.length ≤ c0 from by omega)
          clear hr32 hC32 hroom32 hi032 hsz32
          have KY32 := aM hy32
          clear hy32
          replace q32 := eq_true q32
          have q33 : (x6_1 : Int) ≤ ((l0.length : Int) : Int) := oD (by first | (with_reducible assumption) | assumption)
          obtain ⟨i033, hi033, _, hsz33, _⟩ := info_parts info29
          have hroom33 : l0.length ≤ c0 := HC0.out
          have hC33 : Kd.C k29 _ A0 l0.length l0 := HR0.out
          have q033 : (0 : Int) ≤ (x6_1 : Int) := oD (by first | (with_reducible assumption) | assumption)
          have hcut33 := cut_from (P := Try.prog) 23 29 .i64 Try.underlying23 hi033 2 hsz33 A0 l0.length c0 x6_1 q033 q33
          have hr33 := Kd.C_drop (m := (x6_1 : Int).toNat) (c := c0) hC33 (by omega) hroom33
          obtain ⟨A33, hA33⟩ : ∃ A1, A1 = (if c0 = (x6_1 : Int).toNat then A0 else (A0 : Option Addr).map (·.add ((x6_1 : Int).toNat * 2))) := ⟨_, rfl⟩
          obtain ⟨c33, hc33⟩ : ∃ c1, c1 = c0 - (x6_1 : Int).toNat := ⟨_, rfl⟩
          have hy33 : y128.length = l0.length - (x6_1 : Int).toNat := (by rw [Ny128.out, lD] <;> omega)
          rw [show (l0).drop (x6_1 : Int).toNat = y128 from Ny128.out.symm] at hr33
          replace hr33 : Kd.C k29 _ A33 y128.length y128 := (by rw [hA33]; exact hr33)
          rw [← hy33, ← hA33, ← hc33] at hcut33
          have HR131 := aM hr33
          have HC131 := aM (show y128.length ≤ c33 from by rw [hy33, hc33]; exact Nat.sub_le_sub_right hroom33 _)
          clear hr33 hC33 hroom33 hi033 hsz33 hc33
          have KY33 := aM hy33
          have KA33 := aM hA33
          clear hy33 hA33
          replace q33 := eq_true q33
          refine start_ (n := 14) (S := fun w' => w'.cell? ⟨gb110, 0, none⟩ = some (.int .i64 a1_0) ∧ w'.cell? ⟨gb110, 1, none⟩ = some (.int .i64 a1_1)) (ds := []) #[false, false, false, false, false, false, false, false, false, false, false, false, false, false] (by kernel_rfl) rfl rfl ⟨(bC BK110.out 0).trans rfl, (bC BK110.out 1).trans rfl⟩ (fun hHeld => ?_); refine with_tabW rickyardref9_PutBig.tab11 rickyardref9_PutBig.bits11 (fun HT_ HW_ => ?_)
          generalize wr.drew = w31 at BK110 HB HR118 HR131 hHeld ⊢
          refine pure_ (i := 1) (N := some 32) (v := ?_) (a' := ?_) #[false, true, false, false, false, false, false, false, false, false, false, false, false, false] rfl rfl (any_of HT_.out (by kernel_rfl)) (fun _ _ _ h => h) (Or.inl ⟨by rfl, ?_⟩) ?_ ?_
          rotate_left
          ·intro w'
           go_simp
           with_reducible rfl
          rotate_left
          ·simp only [Act.put, lS, lZ, lU, i64_w, i32_w]
           rfl
          refine pure_ (i := 2) (N := some 33) (v := ?_) (a' := ?_) #[false, true, true, false, false, false, false, false, false, false, false, false, false, false] rfl rfl (any_of HT_.out (by kernel_rfl)) (fun _ _ _ h => h) (Or.inl ⟨by rfl, ?_⟩) ?_ ?_
          rotate_left
          ·intro w'
           go_simp
           with_reducible rfl
          rotate_left
          ·simp only [Act.put, lS, lZ, lU, i64_w, i32_w]
           rfl
          refine pure_ (i := 3) (N := some 34) (v := ?_) (a' := ?_) #[false, true, true, true, false, false, false, false, false, false, false, false, false, false] rfl rfl (any_of HT_.out (by kernel_rfl)) (fun _ _ _ h => h) (Or.inl ⟨by rfl, ?_⟩) ?_ ?_
          rotate_left
          ·intro w'
           go_simp
           with_reducible rfl
          rotate_left
          ·simp only [Act.put, lS, lZ, lU, i64_w, i32_w]
           rfl
          refine pure_ (i := 8) (N := some 39) (v := ?_) (a' := ?_) #[false, true, true, true, false, false, false, false, true, false, false, false, false, false] rfl rfl (any_of HT_.out (by kernel_rfl)) (fun _ _ _ h => h) (Or.inl ⟨by rfl, ?_⟩) ?_ ?_
          rotate_left
          ·intro w'
           go_simp
           with_reducible rfl
          rotate_left
          ·simp only [Act.put, lS, lZ, lU, i64_w, i32_w]
           rfl
          refine pure_ (i := 9) (N := some 40) (v := ?_) (a' := ?_) #[false, true, true, true, false, false, false, false, true, true, false, false, false, false] rfl rfl (any_of HT_.out (by kernel_rfl)) (fun _ _ _ h => h) (Or.inl ⟨by rfl, ?_⟩) ?_ ?_
          rotate_left
          ·intro w'
           go_simp
           with_reducible rfl
          rotate_left
          ·simp only [Act.put, lS, lZ, lU, i64_w, i32_w]
           rfl
          refine pure_ (i := 10) (N := some 41) (v := ?_) (a' := ?_) #[false, true, true, true, false, false, false, false, true, true, true, false, false, false] rfl rfl (any_of HT_.out (by kernel_rfl)) (fun _ _ _ h => h) (Or.inl ⟨by rfl, ?_⟩) ?_ ?_
          rotate_left
          ·intro w'
           go_simp
           with_reducible rfl
          rotate_left
          ·simp only [Act.put, lS, lZ, lU, i64_w, i32_w]
           rfl
          refine take_ (i := 5) (N := some 36) (v := ?_) (a' := ?_) #[false, true, true, true, false, true, false, false, true, true, true, false, false, false] rfl rfl (take_ofW HT_.out HW_.out (by kernel_rfl)) (fun _ _ _ h => h) (Or.inl ⟨by rfl, ?_⟩) hHeld ?_ ?_
          rotate_left
          ·rintro w' ⟨s0, s1⟩
           go_simp
           with_reducible rfl
          rotate_left
          ·simp only [Act.put, lS, lZ, lU, i64_w, i32_w]
           rfl
          refine join_ (σ := Value × Value × Value) 4 #[true, true, true, true, true, true, true, false, true, true, true, false, false, false] (fun s_ => [(31, s_.1), (35, s_.2.1), (37, s_.2.2)]) (fun s_ w' => (w'.cell? ⟨gb110, 0, none⟩ = some (.int .i64 a1_0) ∧ w'.cell? ⟨gb110, 1, none⟩ = some (.int .i64 a1_1)) ∧ (Kd.R k29 29 w' w.heap.size (fun k_ => some k_ ≠ (s_.2.2 : Value).ownBlock ∧ k_ ≠ gb110) s_.2.1 y119) ∧ (Kd.R k29 29 w' w.heap.size (fun k_ => some k_ ≠ (s_.2.1 : Value).ownBlock ∧ k_ ≠ gb110) s_.2.2 y122) ∧ (w'.heap[gb110]? = some (.cells #[.int .i64 a1_0, .int .i64 a1_1] 29 (0, 0))) ∧ (Below w.heap.size w w')) ?_ ?_
          rotate_left
          ·intro hCont
           refine two_ (i := 0) (j := 6) (Ni := some 31) (Nj := some 37) #[true, true, true, true, false, true, false, false, true, true, true, false, false, false] #[false, true, true, true, false, true, true, false, true, true, true, false, false, false] rfl rfl rfl rfl (two_of HT_.out (by kernel_rfl)) (by decide) (by decide) (fun K hK => ?_) (fun K hK => ?_)
           ·skip
            refine Kd.R_lit_step k29 _ 29 ?hg (N:=31) ?hd (xs:=([] : List (S29))) (inner:=[]) (ok:=fun _ => True) (okp:=fun _ => True) ?hr ?hp (fun _ hk => hk) trivial (Below.refl _ _) (Nat.le_refl _) (by simp) ?_;(case hd => rfl);(case hg => rfl);(case hr => first|(go_simp;done)|(go_simp;rfl));(case hp => exact (Reps.none _ _))
            intro v113 w34 ho35 hb hg_ hnew_
            clear hg_ hnew_
            (first | rw [← Ny112.out] at ho35 | (simp only [Int.reduceToNat] at ho35; rw [← Ny112.out] at ho35))
            have n0_ := aM (Kd.R_lower (Kd.R_newB ho35 (g := gb110) (o := .cells #[.int .i64 a1_0, .int .i64 a1_1] 29 (0, 0)) (by (with_reducible repeat (first | refine bN ?_ _ | refine bD ?_ | refine bA ?_ _)); exact BK110.out)) (wZ (by repeat (first | (with_reducible first | exact HB.out | apply wA | apply wN_ | apply wD | refine wS ?_ GE110.out) | exact HB.out))))
            have n1_ := aM (bB (g := gb110) (o := .cells #[.int .i64 a1_0, .int .i64 a1_1] 29 (0, 0)) (by (with_reducible repeat (first | refine bN ?_ _ | refine bD ?_ | refine bA ?_ _)); exact BK110.out) hb)
            have n2_ := aM (wT (by repeat (first | (with_reducible first | exact HB.out | apply wA | apply wN_ | apply wD | refine wS ?_ GE110.out) | exact HB.out)) hb)
            clear BK110
            clear HB
            have HO114 := n0_
            have BK110 := n1_
            have HB := n2_
            clear n0_ n1_ n2_
            clear hb ho35
            refine hK.out _ _ ⟨(bC BK110.out 0).trans rfl, (bC BK110.out 1).trans rfl⟩ (fun hHeld => ?_)
            clear hK K
            refine norm_ (a' := ?_) ?_ ?_
            rotate_left
            ·show Act.put _ (some 31) _ = _
             simp only [Act.put, lS, lZ, lU, i64_w, i32_w]
             rfl
            refine two_ (i := 4) (j := 6) (Ni := some 35) (Nj := some 37) #[true, true, true, true, true, true, false, false, true, true, true, false, false, false] #[true, true, true, true, false, true, true, false, true, true, true, false, false, false] rfl rfl rfl rfl (two_of HT_.out (by kernel_rfl)) (by decide) (by decide) (fun K hK => ?_) (fun K hK => ?_)
            ·skip
             refine Kd.R_append_rows_step k29 (w0 := w) w.heap.size (by rfl) (.tmp 31) (.tmp 34) 23 29 (.agg #[(.int .i64 0), (.int .i64 0)]) 16 rfl Try.underlying23 info29 rfl (by decide) (by omega) v113 y112 y115 _ _ _ (fun k_ => k_ ≠ gb110) (fun _ => False) rfl rfl ?aO ?aR (fun _ _ h => h) (fun _ h => h.elim) ?aF ?aB ?aS ?aL ?_
             (case aR => repeat (first|exact (cB HR118.out HB.out)|(with_reducible refine cA ?_ _)|(with_reducible refine cN ?_ _)|(with_reducible refine cD ?_)))
             (case aB => exact (by repeat (first|(with_reducible first|exact HB.out|apply wA|apply wN_|apply wD|refine wS ?_ GE110.out)|exact HB.out)))
             (case aF => exact (fun k_ hk => Kd.freshB (g:=gb110) (o:=.cells #[.int .i64 a1_0,.int .i64 a1_1] 29 (0,0)) (by (with_reducible repeat (first|refine bN ?_ _|refine bD ?_|refine bA ?_ _));exact BK110.out) k_ hk))
             (case aO => exact (by (with_reducible repeat (first|apply rA|apply rN|apply rD));exact rM HO114.out (fun _ hk => hk.2)))
             (case aS => exact (wZ (by repeat (first|(with_reducible first|exact HB.out|apply wA|apply wN_|apply wD|refine wS ?_ GE110.out)|exact HB.out))))
             (case aL => have:=LMc26.out;omega)
             intro v120 w36 ho hb hg hat
             rw [← Ny119.out] at ho
             have n0_ := aM (blk_grown (g := gb110) (o := .cells #[.int .i64 a1_0, .int .i64 a1_1] 29 (0, 0)) (by (with_reducible repeat (first | refine bN ?_ _ | refine bD ?_ | refine bA ?_ _)); exact BK110.out) hg (Kd.R_away HO114.out (fun _ hk => hk.2)))
             have n1_ := aM (hb)
             have n2_ := aM (ho)
             clear BK110
             clear HB
             clear HO114
             have BK110 := n0_
             have HB := n1_
             have HO121 := n2_
             clear n0_ n1_ n2_
             clear ho hb hg hat
             refine hK.out _ _ ⟨(bC BK110.out 0).trans rfl, (bC BK110.out 1).trans rfl⟩ (fun hHeld => ?_)
             clear hK K
             refine norm_ (a' := ?_) ?_ ?_
             rotate_left
             ·show Act.put _ (some 35) _ = _
              simp only [Act.put, lS, lZ, lU, i64_w, i32_w]
              rfl
             refine one_ (i := 6) (N := some 37) #[true, true, true, true, true, true, true, false, true, true, true, false, false, false] rfl rfl (one_of HT_.out (by kernel_rfl)) (by decide) (fun K hK => ?_)
             refine Kd.R_lit_step k29 _ 29 ?hg (N:=37) ?hd (xs:=([(⟨a1_0,a1_1⟩ : S29)] : List (S29))) (inner:=[.int .i64 a1_0,.int .i64 a1_1]) (ok:=fun _ => True) (okp:=fun _ => True) ?hr ?hp (fun _ hk => hk) trivial (Below.refl _ _) (Nat.le_refl _) (by simp) ?_;(case hd => rfl);(case hg => rfl);(case hr => first|(go_simp;done)|(go_simp;rfl));(case hp => exact (Reps.c2 (show Kd.M k29 _ _ _ (⟨a1_0,a1_1⟩ : S29) [.int .i64 a1_0,.int .i64 a1_1] from (k29_mkM _ _ _ (⟨a1_0,a1_1⟩ : S29) )) (Reps.none _ _)))
             intro v123 w37 ho38 hb hg_ hnew_
             clear hg_ hnew_
             (first | rw [← Ny122.out] at ho38 | (simp only [Int.reduceToNat] at ho38; rw [← Ny122.out] at ho38))
             have n0_ := aM (Kd.R_elder' (by (with_reducible repeat (first | apply rA | apply rN | apply rD)); exact HO121.out) (Kd.R_base ho38) hb)
             have n1_ := aM (Kd.R_lower (Kd.R_newB (Kd.R_new' ho38 (Kd.R_lt (by (with_reducible repeat (first | apply rA | apply rN | apply rD)); exact HO121.out))) (g := gb110) (o := .cells #[.int .i64 a1_0, .int .i64 a1_1] 29 (0, 0)) (by (with_reducible repeat (first | refine bN ?_ _ | refine bD ?_ | refine bA ?_ _)); exact BK110.out)) (wZ (by repeat (first | (with_reducible first | exact HB.out | apply wA | apply wN_ | apply wD | refine wS ?_ GE110.out) | exact HB.out))))
             have n2_ := aM (bB (g := gb110) (o := .cells #[.int .i64 a1_0, .int .i64 a1_1] 29 (0, 0)) (by (with_reducible repeat (first | refine bN ?_ _ | refine bD ?_ | refine bA ?_ _)); exact BK110.out) hb)
             have n3_ := aM (wT (by repeat (first | (with_reducible first | exact HB.out | apply wA | apply wN_ | apply wD | refine wS ?_ GE110.out) | exact HB.out)) hb)
             clear HO121
             clear BK110
             clear HB
             have HO121 := n0_
             have HO124 := n1_
             have BK110 := n2_
             have HB := n3_
             clear n0_ n1_ n2_ n3_
             clear hb ho38
             refine hK.out _ _ ⟨(bC BK110.out 0).trans rfl, (bC BK110.out 1).trans rfl⟩ (fun hHeld => ?_)
             clear hK K
             refine norm_ (a' := ?_) ?_ ?_
             rotate_left
             ·show Act.put _ (some 37) _ = _
              simp only [Act.put, lS, lZ, lU, i64_w, i32_w]
              rfl
             exact norm_ (by simp only [putAll, Act.put, lS, lZ, lU]) (hCont (v113, v120, v123) _ ⟨hHeld, (by (with_reducible repeat (first | apply rA | apply rN | apply rD)); exact rM HO121.out (fun _ hk => ⟨hk.2, hk.1⟩)), (by (with_reducible repeat (first | apply rA | apply rN | apply rD)); exact rM HO124.out (fun _ hk => ⟨hk.1.2, hk.2⟩)), (by (with_reducible repeat (first | refine bN ?_ _ | refine bD ?_ | refine bA ?_ _)); exact BK110.out), (by repeat (first | (with_reducible first | exact HB.out | apply wA | apply wN_ | apply wD | refine wS ?_ GE110.out) | exact HB.out))⟩)
            ·skip
             refine Kd.R_lit_step k29 _ 29 ?hg (N:=37) ?hd (xs:=([(⟨a1_0,a1_1⟩ : S29)] : List (S29))) (inner:=[.int .i64 a1_0,.int .i64 a1_1]) (ok:=fun _ => True) (okp:=fun _ => True) ?hr ?hp (fun _ hk => hk) trivial (Below.refl _ _) (Nat.le_refl _) (by simp) ?_;(case hd => rfl);(case hg => rfl);(case hr => first|(go_simp;done)|(go_simp;rfl));(case hp => exact (Reps.c2 (show Kd.M k29 _ _ _ (⟨a1_0,a1_1⟩ : S29) [.int .i64 a1_0,.int .i64 a1_1] from (k29_mkM _ _ _ (⟨a1_0,a1_1⟩ : S29) )) (Reps.none _ _)))
             intro v123 w36 ho37 hb hg_ hnew_
             clear hg_ hnew_
             (first | rw [← Ny122.out] at ho37 | (simp only [Int.reduceToNat] at ho37; rw [← Ny122.out] at ho37))
             have n0_ := aM (Kd.R_elder' (by (with_reducible repeat (first | apply rA | apply rN | apply rD)); exact HO114.out) (Kd.R_base ho37) hb)
             have n1_ := aM (Kd.R_lower (Kd.R_newB (Kd.R_new' ho37 (Kd.R_lt (by (with_reducible repeat (first | apply rA | apply rN | apply rD)); exact HO114.out))) (g := gb110) (o := .cells #[.int .i64 a1_0, .int .i64 a1_1] 29 (0, 0)) (by (with_reducible repeat (first | refine bN ?_ _ | refine bD ?_ | refine bA ?_ _)); exact BK110.out)) (wZ (by repeat (first | (with_reducible first | exact HB.out | apply wA | apply wN_ | apply wD | refine wS ?_ GE110.out) | exact HB.out))))
             have n2_ := aM (bB (g := gb110) (o := .cells #[.int .i64 a1_0, .int .i64 a1_1] 29 (0, 0)) (by (with_reducible repeat (first | refine bN ?_ _ | refine bD ?_ | refine bA ?_ _)); exact BK110.out) hb)
             have n3_ := aM (wT (by repeat (first | (with_reducible first | exact HB.out | apply wA | apply wN_ | apply wD | refine wS ?_ GE110.out) | exact HB.out)) hb)
             clear HO114
             clear BK110
             clear HB
             have HO114 := n0_
             have HO124 := n1_
             have BK110 := n2_
             have HB := n3_
             clear n0_ n1_ n2_ n3_
             clear hb ho37
             refine hK.out _ _ ⟨(bC BK110.out 0).trans rfl, (bC BK110.out 1).trans rfl⟩ (fun hHeld => ?_)
             clear hK K
             refine norm_ (a' := ?_) ?_ ?_
             rotate_left
             ·show Act.put _ (some 37) _ = _
              simp only [Act.put, lS, lZ, lU, i64_w, i32_w]
              rfl
             refine one_ (i := 4) (N := some 35) #[true, true, true, true, true, true, true, false, true, true, true, false, false, false] rfl rfl (one_of HT_.out (by kernel_rfl)) (by decide) (fun K hK => ?_)
             refine Kd.R_append_rows_step k29 (w0 := w) w.heap.size (by rfl) (.tmp 31) (.tmp 34) 23 29 (.agg #[(.int .i64 0), (.int .i64 0)]) 16 rfl Try.underlying23 info29 rfl (by decide) (by omega) v113 y112 y115 _ _ _ (fun k_ => some k_ ≠ (v123 : Value).ownBlock ∧ k_ ≠ gb110) (fun _ => False) rfl rfl ?aO ?aR (fun _ _ h => h) (fun _ h => h.elim) ?aF ?aB ?aS ?aL ?_
             (case aR => repeat (first|exact (cB HR118.out HB.out)|(with_reducible refine cA ?_ _)|(with_reducible refine cN ?_ _)|(with_reducible refine cD ?_)))
             (case aB => exact (by repeat (first|(with_reducible first|exact HB.out|apply wA|apply wN_|apply wD|refine wS ?_ GE110.out)|exact HB.out)))
             (case aF => exact (fun k_ hk => ⟨Kd.fresh' (Kd.R_lt (by (with_reducible repeat (first|apply rA|apply rN|apply rD));exact HO124.out)) k_ hk,Kd.freshB (g:=gb110) (o:=.cells #[.int .i64 a1_0,.int .i64 a1_1] 29 (0,0)) (by (with_reducible repeat (first|refine bN ?_ _|refine bD ?_|refine bA ?_ _));exact BK110.out) k_ hk⟩))
             (case aO => exact (by (with_reducible repeat (first|apply rA|apply rN|apply rD));exact rM HO114.out (fun _ hk => ⟨hk.2,hk.1.2⟩)))
             (case aS => exact (wZ (by repeat (first|(with_reducible first|exact HB.out|apply wA|apply wN_|apply wD|refine wS ?_ GE110.out)|exact HB.out))))
             (case aL => have:=LMc26.out;omega)
             intro v120 w38 ho hb hg hat
             rw [← Ny119.out] at ho
             have n0_ := aM (blk_grown (g := gb110) (o := .cells #[.int .i64 a1_0, .int .i64 a1_1] 29 (0, 0)) (by (with_reducible repeat (first | refine bN ?_ _ | refine bD ?_ | refine bA ?_ _)); exact BK110.out) hg (Kd.R_away HO114.out (fun _ hk => hk.1.2)))
             have n1_ := aM (Kd.R_after (ok := (fun k_ => k_ ≠ gb110)) (by (with_reducible repeat (first | apply rA | apply rN | apply rD)); exact rM HO124.out (fun _ hk => ⟨hk.2, hk.1.2⟩)) hg hat)
             have n2_ := aM (hb)
             have n3_ := aM (ho)
             clear BK110
             clear HO124
             clear HB
             clear HO114
             have BK110 := n0_
             have HO124 := n1_
             have HB := n2_
             have HO121 := n3_
             clear n0_ n1_ n2_ n3_
             clear ho hb hg hat
             refine hK.out _ _ ⟨(bC BK110.out 0).trans rfl, (bC BK110.out 1).trans rfl⟩ (fun hHeld => ?_)
             clear hK K
             refine norm_ (a' := ?_) ?_ ?_
             rotate_left
             ·show Act.put _ (some 35) _ = _
              simp only [Act.put, lS, lZ, lU, i64_w, i32_w]
              rfl
             exact norm_ (by simp only [putAll, Act.put, lS, lZ, lU]) (hCont (v113, v120, v123) _ ⟨hHeld, (by (with_reducible repeat (first | apply rA | apply rN | apply rD)); exact HO121.out), (by (with_reducible repeat (first | apply rA | apply rN | apply rD)); exact rM HO124.out (fun _ hk => ⟨hk.2, hk.1⟩)), (by (with_reducible repeat (first | refine bN ?_ _ | refine bD ?_ | refine bA ?_ _)); exact BK110.out), (by repeat (first | (with_reducible first | exact HB.out | apply wA | apply wN_ | apply wD | refine wS ?_ GE110.out) | exact HB.out))⟩)
           ·skip
            refine Kd.R_lit_step k29 _ 29 ?hg (N:=37) ?hd (xs:=([(⟨a1_0,a1_1⟩ : S29)] : List (S29))) (inner:=[.int .i64 a1_0,.int .i64 a1_1]) (ok:=fun _ => True) (okp:=fun _ => True) ?hr ?hp (fun _ hk => hk) trivial (Below.refl _ _) (Nat.le_refl _) (by simp) ?_;(case hd => rfl);(case hg => rfl);(case hr => first|(go_simp;done)|(go_simp;rfl));(case hp => exact (Reps.c2 (show Kd.M k29 _ _ _ (⟨a1_0,a1_1⟩ : S29) [.int .i64 a1_0,.int .i64 a1_1] from (k29_mkM _ _ _ (⟨a1_0,a1_1⟩ : S29) )) (Reps.none _ _)))
            intro v123 w34 ho35 hb hg_ hnew_
            clear hg_ hnew_
            (first | rw [← Ny122.out] at ho35 | (simp only [Int.reduceToNat] at ho35; rw [← Ny122.out] at ho35))
            have n0_ := aM (Kd.R_lower (Kd.R_newB ho35 (g := gb110) (o := .cells #[.int .i64 a1_0, .int .i64 a1_1] 29 (0, 0)) (by (with_reducible repeat (first | refine bN ?_ _ | refine bD ?_ | refine bA ?_ _)); exact BK110.out)) (wZ (by repeat (first | (with_reducible first | exact HB.out | apply wA | apply wN_ | apply wD | refine wS ?_ GE110.out) | exact HB.out))))
            have n1_ := aM (bB (g := gb110) (o := .cells #[.int .i64 a1_0, .int .i64 a1_1] 29 (0, 0)) (by (with_reducible repeat (first | refine bN ?_ _ | refine bD ?_ | refine bA ?_ _)); exact BK110.out) hb)
            have n2_ := aM (wT (by repeat (first | (with_reducible first | exact HB.out | apply wA | apply wN_ | apply wD | refine wS ?_ GE110.out) | exact HB.out)) hb)
            clear BK110
            clear HB
            have HO124 := n0_
            have BK110 := n1_
            have HB := n2_
            clear n0_ n1_ n2_
            clear hb ho35
            refine hK.out _ _ ⟨(bC BK110.out 0).trans rfl, (bC BK110.out 1).trans rfl⟩ (fun hHeld => ?_)
            clear hK K
            refine norm_ (a' := ?_) ?_ ?_
            rotate_left
            ·show Act.put _ (some 37) _ = _
             simp only [Act.put, lS, lZ, lU, i64_w, i32_w]
             rfl
            refine one_ (i := 0) (N := some 31) #[true, true, true, true, false, true, true, false, true, true, true, false, false, false] rfl rfl (one_of HT_.out (by kernel_rfl)) (by decide) (fun K hK => ?_)
            refine Kd.R_lit_step k29 _ 29 ?hg (N:=31) ?hd (xs:=([] : List (S29))) (inner:=[]) (ok:=fun _ => True) (okp:=fun _ => True) ?hr ?hp (fun _ hk => hk) trivial (Below.refl _ _) (Nat.le_refl _) (by simp) ?_;(case hd => rfl);(case hg => rfl);(case hr => first|(go_simp;done)|(go_simp;rfl));(case hp => exact (Reps.none _ _))
            intro v113 w36 ho37 hb hg_ hnew_
            clear hg_ hnew_
            (first | rw [← Ny112.out] at ho37 | (simp only [Int.reduceToNat] at ho37; rw [← Ny112.out] at ho37))
            have n0_ := aM (Kd.R_elder' (by (with_reducible repeat (first | apply rA | apply rN | apply rD)); exact HO124.out) (Kd.R_base ho37) hb)
            have n1_ := aM (Kd.R_lower (Kd.R_newB (Kd.R_new' ho37 (Kd.R_lt (by (with_reducible repeat (first | apply rA | apply rN | apply rD)); exact HO124.out))) (g := gb110) (o := .cells #[.int .i64 a1_0, .int .i64 a1_1] 29 (0, 0)) (by (with_reducible repeat (first | refine bN ?_ _ | refine bD ?_ | refine bA ?_ _)); exact BK110.out)) (wZ (by repeat (first | (with_reducible first | exact HB.out | apply wA | apply wN_ | apply wD | refine wS ?_ GE110.out) | exact HB.out))))
            have n2_ := aM (bB (g := gb110) (o := .cells #[.int .i64 a1_0, .int .i64 a1_1] 29 (0, 0)) (by (with_reducible repeat (first | refine bN ?_ _ | refine bD ?_ | refine bA ?_ _)); exact BK110.out) hb)
            have n3_ := aM (wT (by repeat (first | (with_reducible first | exact HB.out | apply wA | apply wN_ | apply wD | refine wS ?_ GE110.out) | exact HB.out)) hb)
            clear HO124
            clear BK110
            clear HB
            have HO124 := n0_
            have HO114 := n1_
            have BK110 := n2_
            have HB := n3_
            clear n0_ n1_ n2_ n3_
            clear hb ho37
            refine hK.out _ _ ⟨(bC BK110.out 0).trans rfl, (bC BK110.out 1).trans rfl⟩ (fun hHeld => ?_)
            clear hK K
            refine norm_ (a' := ?_) ?_ ?_
            rotate_left
            ·show Act.put _ (some 31) _ = _
             simp only [Act.put, lS, lZ, lU, i64_w, i32_w]
             rfl
            refine one_ (i := 4) (N := some 35) #[true, true, true, true, true, true, true, false, true, true, true, false, false, false] rfl rfl (one_of HT_.out (by kernel_rfl)) (by decide) (fun K hK => ?_)
            refine Kd.R_append_rows_step k29 (w0 := w) w.heap.size (by rfl) (.tmp 31) (.tmp 34) 23 29 (.agg #[(.int .i64 0), (.int .i64 0)]) 16 rfl Try.underlying23 info29 rfl (by decide) (by omega) v113 y112 y115 _ _ _ (fun k_ => some k_ ≠ (v123 : Value).ownBlock ∧ k_ ≠ gb110) (fun _ => False) rfl rfl ?aO ?aR (fun _ _ h => h) (fun _ h => h.elim) ?aF ?aB ?aS ?aL ?_
            (case aR => repeat (first|exact (cB HR118.out HB.out)|(with_reducible refine cA ?_ _)|(with_reducible refine cN ?_ _)|(with_reducible refine cD ?_)))
            (case aB => exact (by repeat (first|(with_reducible first|exact HB.out|apply wA|apply wN_|apply wD|refine wS ?_ GE110.out)|exact HB.out)))
            (case aF => exact (fun k_ hk => ⟨Kd.fresh' (Kd.R_lt (by (with_reducible repeat (first|apply rA|apply rN|apply rD));exact HO124.out)) k_ hk,Kd.freshB (g:=gb110) (o:=.cells #[.int .i64 a1_0,.int .i64 a1_1] 29 (0,0)) (by (with_reducible repeat (first|refine bN ?_ _|refine bD ?_|refine bA ?_ _));exact BK110.out) k_ hk⟩))
            (case aO => exact (by (with_reducible repeat (first|apply rA|apply rN|apply rD));exact rM HO114.out (fun _ hk => ⟨hk.1.2,hk.2⟩)))
            (case aS => exact (wZ (by repeat (first|(with_reducible first|exact HB.out|apply wA|apply wN_|apply wD|refine wS ?_ GE110.out)|exact HB.out))))
            (case aL => have:=LMc26.out;omega)
            intro v120 w38 ho hb hg hat
            rw [← Ny119.out] at ho
            have n0_ := aM (blk_grown (g := gb110) (o := .cells #[.int .i64 a1_0, .int .i64 a1_1] 29 (0, 0)) (by (with_reducible repeat (first | refine bN ?_ _ | refine bD ?_ | refine bA ?_ _)); exact BK110.out) hg (Kd.R_away HO114.out (fun _ hk => hk.2)))
            have n1_ := aM (Kd.R_after (ok := (fun k_ => k_ ≠ gb110)) (by (with_reducible repeat (first | apply rA | apply rN | apply rD)); exact rM HO124.out (fun _ hk => ⟨hk.1.2, hk.2⟩)) hg hat)
            have n2_ := aM (hb)
            have n3_ := aM (ho)
            clear BK110
            clear HO124
            clear HB
            clear HO114
            have BK110 := n0_
            have HO124 := n1_
            have HB := n2_
            have HO121 := n3_
            clear n0_ n1_ n2_ n3_
            clear ho hb hg hat
            refine hK.out _ _ ⟨(bC BK110.out 0).trans rfl, (bC BK110.out 1).trans rfl⟩ (fun hHeld => ?_)
            clear hK K
            refine norm_ (a' := ?_) ?_ ?_
            rotate_left
            ·show Act.put _ (some 35) _ = _
             simp only [Act.put, lS, lZ, lU, i64_w, i32_w]
             rfl
            exact norm_ (by simp only [putAll, Act.put, lS, lZ, lU]) (hCont (v113, v120, v123) _ ⟨hHeld, (by (with_reducible repeat (first | apply rA | apply rN | apply rD)); exact HO121.out), (by (with_reducible repeat (first | apply rA | apply rN | apply rD)); exact rM HO124.out (fun _ hk => ⟨hk.2, hk.1⟩)), (by (with_reducible repeat (first | refine bN ?_ _ | refine bD ?_ | refine bA ?_ _)); exact BK110.out), (by repeat (first | (with_reducible first | exact HB.out | apply wA | apply wN_ | apply wD | refine wS ?_ GE110.out) | exact HB.out))⟩)
          rintro ⟨v113, v120, v123⟩ w39 ⟨hS_, h0_, h1_, h2_, h3_⟩
          have n0_ : Aside0 (Kd.R k29 29 w39 w.heap.size (fun k_ => some k_ ≠ (v123 : Value).ownBlock ∧ k_ ≠ gb110) v120 y119) := ⟨h0_⟩
          have n1_ : Aside0 (Kd.R k29 29 w39 w.heap.size (fun k_ => some k_ ≠ (v120 : Value).ownBlock ∧ k_ ≠ gb110) v123 y122) := ⟨h1_⟩
          have n2_ : Aside0 (w39.heap[gb110]? = some (.cells #[.int .i64 a1_0, .int .i64 a1_1] 29 (0, 0))) := ⟨h2_⟩
          have n3_ : Aside0 (Below w.heap.size w w39) := ⟨h3_⟩
          clear BK110
          clear HB
          clear h0_ h1_ h2_ h3_
          have HO121 := n0_
          have HO124 := n1_
          have BK110 := n2_
          have HB := n3_
          clear n0_ n1_ n2_ n3_
          have hHeld : w39.cell? ⟨gb110, 0, none⟩ = some (.int .i64 a1_0) ∧ w39.cell? ⟨gb110, 1, none⟩ = some (.int .i64 a1_1) := hS_
          obtain ⟨Ao41, co41, eo41⟩ := Kd.R_slice HO124.out
          (first | subst eo41 | (injection eo41 with f1_ f2_ f3_; have f4_ := f1_.symm; have f5_ := f3_.symm; clear f1_ f2_ f3_; subst f4_; subst f5_))
          refine norm_ (a' := ?_) ?_ ?_
          rotate_left
          ·simp only [putAll, Act.put, lS, lZ, lU]
           rfl
          refine one_ (i := 7) (N := some 38) #[true, true, true, true, true, true, true, true, true, true, true, false, false, false] rfl rfl (one_of HT_.out (by kernel_rfl)) (by decide) (fun K hK => ?_)
          refine Kd.R_append_rows_step k29 (w0 := w) w.heap.size (by rfl) (.tmp 35) (.tmp 37) 23 29 (.agg #[(.int .i64 0), (.int .i64 0)]) 16 rfl Try.underlying23 info29 rfl (by decide) (by omega) v120 y119 y122 _ _ _ (fun k_ => some k_ ≠ (.slice Ao41 y122.length co41 : Value).ownBlock ∧ k_ ≠ gb110) (fun _ => False) rfl rfl ?aO ?aR (fun _ _ h => h) (fun _ h => h.elim) ?aF ?aB ?aS ?aL ?_
          (case aR => repeat (first|exact (Kd.R_reads' HO124.out).2.2|(with_reducible refine cA ?_ _)|(with_reducible refine cN ?_ _)|(with_reducible refine cD ?_)))
          (case aB => exact (by repeat (first|(with_reducible first|exact HB.out|apply wA|apply wN_|apply wD|refine wS ?_ GE110.out)|exact HB.out)))
          (case aF => exact (fun k_ hk => ⟨Kd.fresh' (Kd.R_lt (by (with_reducible repeat (first|apply rA|apply rN|apply rD));exact HO124.out)) k_ hk,Kd.freshB (g:=gb110) (o:=.cells #[.int .i64 a1_0,.int .i64 a1_1] 29 (0,0)) (by (with_reducible repeat (first|refine bN ?_ _|refine bD ?_|refine bA ?_ _));exact BK110.out) k_ hk⟩))
          (case aO => exact (by (with_reducible repeat (first|apply rA|apply rN|apply rD));exact HO121.out))
          (case aS => exact (wZ (by repeat (first|(with_reducible first|exact HB.out|apply wA|apply wN_|apply wD|refine wS ?_ GE110.out)|exact HB.out))))
          (case aL => have:=LMc27.out;omega)
          intro v126 w40 ho hb hg hat
          rw [← Ny125.out] at ho
          have n0_ := aM (blk_grown (g := gb110) (o := .cells #[.int .i64 a1_0, .int .i64 a1_1] 29 (0, 0)) (by (with_reducible repeat (first | refine bN ?_ _ | refine bD ?_ | refine bA ?_ _)); exact BK110.out) hg (Kd.R_away HO121.out (fun _ hk => hk.2)))
          have n1_ := aM (Kd.R_after (ok := (fun k_ => k_ ≠ gb110)) (by (with_reducible repeat (first | apply rA | apply rN | apply rD)); exact rM HO124.out (fun _ hk => ⟨hk.2, hk.1⟩)) hg hat)
          have n2_ := aM (hb)
          have n3_ := aM (ho)
          clear BK110
          clear HO124
          clear HB
          clear HO121
          have BK110 := n0_
          have HO124 := n1_
          have HB := n2_
          have HO127 := n3_
          clear n0_ n1_ n2_ n3_
          clear ho hb hg hat
          refine hK.out _ _ ⟨(bC BK110.out 0).trans rfl, (bC BK110.out 1).trans rfl⟩ (fun hHeld => ?_)
          clear hK K
          refine norm_ (a' := ?_) ?_ ?_
          rotate_left
          ·show Act.put _ (some 38) _ = _
           simp only [Act.put, lS, lZ, lU, i64_w, i32_w]
           rfl
          refine one_ (i := 11) (N := some 42) #[true, true, true, true, true, true, true, true, true, true, true, true, false, false] rfl rfl (one_of HT_.out (by kernel_rfl)) (by decide) (fun K hK => ?_)
          refine Kd.R_append_rows_step k29 (w0 := w) w.heap.size (by rfl) (.tmp 38) (.tmp 41) 23 29 (.agg #[(.int .i64 0), (.int .i64 0)]) 16 rfl Try.underlying23 info29 rfl (by decide) (by omega) v126 y125 y128 _ _ _ (fun k_ => some k_ ≠ (.slice Ao41 y122.length co41 : Value).ownBlock ∧ k_ ≠ gb110) (fun _ => False) rfl rfl ?aO ?aR (fun _ _ h => h) (fun _ h => h.elim) ?aF ?aB ?aS ?aL ?_
          (case aR => repeat (first|exact (cB HR131.out HB.out)|(with_reducible refine cA ?_ _)|(with_reducible refine cN ?_ _)|(with_reducible refine cD ?_)))
          (case aB => exact (by repeat (first|(with_reducible first|exact HB.out|apply wA|apply wN_|apply wD|refine wS ?_ GE110.out)|exact HB.out)))
          (case aF => exact (fun k_ hk => ⟨Kd.fresh' (Kd.R_lt (by (with_reducible repeat (first|apply rA|apply rN|apply rD));exact HO124.out)) k_ hk,Kd.freshB (g:=gb110) (o:=.cells #[.int .i64 a1_0,.int .i64 a1_1] 29 (0,0)) (by (with_reducible repeat (first|refine bN ?_ _|refine bD ?_|refine bA ?_ _));exact BK110.out) k_ hk⟩))
          (case aO => exact (by (with_reducible repeat (first|apply rA|apply rN|apply rD));exact HO127.out))
          (case aS => exact (wZ (by repeat (first|(with_reducible first|exact HB.out|apply wA|apply wN_|apply wD|refine wS ?_ GE110.out)|exact HB.out))))
          (case aL => have:=LMc30.out;omega)
          intro v133 w42 ho hb hg hat
          rw [← Ny132.out] at ho
          have n0_ := aM (blk_grown (g := gb110) (o := .cells #[.int .i64 a1_0, .int .i64 a1_1] 29 (0, 0)) (by (with_reducible repeat (first | refine bN ?_ _ | refine bD ?_ | refine bA ?_ _)); exact BK110.out) hg (Kd.R_away HO127.out (fun _ hk => hk.2)))
          have n1_ := aM (Kd.R_after (ok := (fun k_ => k_ ≠ gb110)) (by (with_reducible repeat (first | apply rA | apply rN | apply rD)); exact HO124.out) hg hat)
          have n2_ := aM (hb)
          have n3_ := aM (ho)
          clear BK110
          clear HO124
          clear HB
          clear HO127
          have BK110 := n0_
          have HO124 := n1_
          have HB := n2_
          have HO134 := n3_
          clear n0_ n1_ n2_ n3_
          clear ho hb hg hat
          refine hK.out _ _ ⟨(bC BK110.out 0).trans rfl, (bC BK110.out 1).trans rfl⟩ (fun hHeld => ?_)
          clear hK K
          refine norm_ (a' := ?_) ?_ ?_
          rotate_left
          ·show Act.put _ (some 42) _ = _
           simp only [Act.put, lS, lZ, lU, i64_w, i32_w]
           rfl
          refine pure_ (i := 12) (N := some 4) (v := ?_) (a' := ?_) #[true, true, true, true, true, true, true, true, true, true, true, true, true, false] rfl rfl (any_of HT_.out (by kernel_rfl)) (fun _ _ _ h => h) (Or.inl ⟨by rfl, ?_⟩) ?_ ?_
          rotate_left
          ·intro w'
           go_simp
           with_reducible rfl
          rotate_left
          ·simp only [Act.put, lS, lZ, lU, i64_w, i32_w]
           rfl
          refine pure_ (i := 13) (N := some 5) (v := ?_) (a' := ?_) #[true, true, true, true, true, true, true, true, true, true, true, true, true, true] rfl rfl (any_of HT_.out (by kernel_rfl)) (fun _ _ _ h => h) (Or.inl ⟨by rfl, ?_⟩) ?_ ?_
          rotate_left
          ·intro w'
           go_simp
           with_reducible rfl
          rotate_left
          ·simp only [Act.put, lS, lZ, lU, i64_w, i32_w]
           rfl
          refine done_ (done_of HT_.out (by kernel_rfl)) ?_
          try go_wp2
          go_ret2
          exact ⟨_, by first | rfl | (simp [errW_none, errW_some] <;> rfl) | (simp [*, errW_none, errW_some] <;> rfl), by (with_reducible repeat (first | apply rA | apply rN | apply rD)); exact rM HO134.out (fun _ hk => trivial), by repeat (first | (with_reducible first | exact HB.out | apply wA | apply wN_ | apply wD | refine wS ?_ GE110.out) | exact HB.out)⟩
         ·rw [if_neg c30] at H
          exact absurd H (by simp)
        ·rw [if_neg c27] at H
         exact absurd H (by simp)
       ·rw [if_neg c26] at H
        exact absurd H (by simp)
      ·rw [if_neg c25] at H
       exact absurd H (by simp)
     ·rw [if_neg c24] at H
      exact absurd H (by simp)
 ·replace c4 := Bool.eq_false_iff.mpr c4
  subst c4
  have H1 : (some (([] : List (S29)), 1)) = some (r1, r2) := by rw [if_neg (show ¬ (false = true) by decide)] at H; exact H
  clear H
  have H := H1
  clear H1
  simp only [Option.some.injEq, Prod.mk.injEq] at H
  obtain ⟨rfl, rfl⟩ := H
  go_enter Try.func38, Try.ntmps38
  go_wp2_with (first|((with_reducible refine gate_dst (N:=3) rfl ?_);refine box_event ?hg (N:=3) ?hd (cs:=#[.int .i64 a1_0,.int .i64 a1_1]) (t:=29) ?hr ?_;(case hd => rfl);(case hg => rfl);(case hr => first|(go_simp;done)|(go_simp;rfl));intro gb110 hg w43 hbox hb;have n0_:=aM (wT (by repeat (first|(with_reducible first|exact HB.out|apply wA|apply wN_|apply wD)|exact HB.out)) hb);have n1_:=aM (hbox);have n2_:=aM ((by rw [hg];exact (wZ (by repeat (first|(with_reducible first|exact HB.out|apply wA|apply wN_|apply wD)|exact HB.out))) : w.heap.size ≤ gb110));have n3_:=aM ((by rw [hg];exact (wZ (by repeat (first|(with_reducible first|exact HB.out|apply wA|apply wN_|apply wD)|exact HB.out))) : w.heap.size ≤ gb110));clear HB;have HB:=n0_;have BK110:=n1_;have GW110:=n2_;have GE110:=n3_;clear n0_ n1_ n2_ n3_;clear hb hbox hg;have hcz44_0 : w43.cell? ⟨gb110,0,none⟩ = some (.int .i64 a1_0):=(bC BK110.out 0).trans rfl;have hcz44_1 : w43.cell? ⟨gb110,1,none⟩ = some (.int .i64 a1_1):=(bC BK110.out 1).trans rfl;have hfz44_0:=bF BK110.out 0;have hfz44_1:=bF BK110.out 1)|((with_reducible refine gate_callee (f:=65) rfl ?_);refine goesL_ (some 9) rfl rfl Try.func65 (by kernel_rfl) rfl #[.agg #[.int .i64 a1_0,.int .i64 a1_1]] rfl (by (try simp only [lM,lC,lN]);first|done|rfl|(simp only [lD,lT];rfl)) ?_;(with_reducible refine (rickyardref9_MayBig.calls a1_0 a1_1 false _ A3.out).mono ?_);rintro e w45 ⟨rfl,hb⟩;refine ⟨_,rfl,?_⟩;have n0_:=aM (bB (g:=gb110) (o:=.cells #[.int .i64 a1_0,.int .i64 a1_1] 29 (0,0)) (by (with_reducible repeat (first|refine bN ?_ _|refine bD ?_|refine bA ?_ _));exact BK110.out) hb);have n1_:=aM (wT (by repeat (first|(with_reducible first|exact HB.out|apply wA|apply wN_|apply wD|refine wS ?_ GE110.out)|exact HB.out)) hb);clear BK110;clear HB;have BK110:=n0_;have HB:=n1_;clear n0_ n1_;(try clear hb);(try clear hb2);(try clear hk);(try clear hi)))
  go_ret2
  exact ⟨_, by first | rfl | (simp [errW_none, errW_some] <;> rfl) | (simp [*, errW_none, errW_some] <;> rfl), by first | exact Kd.R_nil _ _ _ _ _ | exact Kd.N_nil _ _ _ _ _ | exact Kd.V_nil _ _ _ _ _ | exact Kd.Q_nil _ _ _ _ _ | exact Kd.S_nil _ _ _ _ _, by repeat (first | (with_reducible first | exact HB.out | apply wA | apply wN_ | apply wD | refine wS ?_ GE110.out) | exact HB.out)⟩

end Go.Proofs.Ytflhbakjlbmfbaa.Pr
