-- Printed by a program of this session (wip/tools/myprint.py) that runs the kit's print with contracts of this session's own.
import Derived.Test.YtflhbakjlbmfbaaPrx0
import Derived.Test.YtflhbakjlbmfbaaWTab
import Derived.Test.YtflhbakjlbmfbaaShort
import Derived.Test.YtflhbakjlbmfbaaScope
import Derived.Test.YtflhbakjlbmfbaaPrx7
import Derived.Test.YtflhbakjlbmfbaaPrx9
import Derived.Test.YtflhbakjlbmfbaaPrx12
namespace Go.Proofs.Ytflhbakjlbmfbaa.Pr
open Go.RowKit Go.Proofs.YtflhbakjlbmfbaaW.PrintWords Go.Proofs.YtflhbakjlbmfbaaW.PrintLast Go.Proofs.YtflhbakjlbmfbaaW.PrintMore
attribute [local go_sem] max2_int min2_int max_two min_two max_three min_three max_four min_four   -- for this text's walks alone
set_option linter.unusedVariables false
set_option linter.unusedSimpArgs false

/-! ### large_Right: function 27 -/
mutual
def large_Right.l0 : Nat → List (S29) → List (S29) → Int → Int → Option (Bool)
 | 0, _, _, _, _ => none
 | k + 1, x0, x5, x6, x7 => if x7 < x6 then (if 0 ≤ x7 then (if x7 < (x5.length : Int) then ((large_may.f ((rd_T29 x5 x7).f0) ((rd_T29 x5 x7).f1)).bind fun t430 => (if t430 = true then (if x7 > 0 then (if 0 ≤ (wrap64 (x7 - 1)) then (if (wrap64 (x7 - 1)) < (x0.length : Int) then ((large_order.f k ((rd_T29 x0 (wrap64 (x7 - 1))).f0) ((rd_T29 x0 (wrap64 (x7 - 1))).f1) ((rd_T29 x5 x7).f0) ((rd_T29 x5 x7).f1)).bind fun t432 => (large_Right.j1 k x0 x7 x5 x6 x7 (decide (t432 ≥ 0)) ((rd_T29 x5 x7).f0) ((rd_T29 x5 x7).f1))) else (none)) else (none)) else (large_Right.j1 k x0 x7 x5 x6 x7 false ((rd_T29 x5 x7).f0) ((rd_T29 x5 x7).f1))) else (large_Right.j1 k x0 x7 x5 x6 x7 true ((rd_T29 x5 x7).f0) ((rd_T29 x5 x7).f1)))) else (none)) else (none)) else (some true)
def large_Right.j1 : Nat → List (S29) → Int → List (S29) → Int → Int → Bool → Int → Int → Option (Bool)
 | 0, _, _, _, _, _, _, _, _ => none
 | k + 1, x0, x3, x5, x6, x7, x28, x430000, x430001 => if x28 = true then (some false) else (if 0 ≤ x3 then (if x3 ≤ (x0.length : Int) then ((api_Big_40_61.f (x0.take (x3 : Int).toNat) x430000 x430001).bind fun t437 => (if t437 = true then (some false) else (large_Right.l0 k x0 x5 x6 (wrap64 (x7 + 1))))) else (none)) else (none))
end
def large_Right.f (k : Nat) (l0 : List (S29)) : Option (Bool) := large_Right.l0 k l0 l0 (l0.length : Int) 0
theorem large_Right.mono_l : ∀ k, (∀ y0 y1 y2 y3, LeO (large_Right.l0 k y0 y1 y2 y3) (large_Right.l0 (k + 1) y0 y1 y2 y3)) ∧ (∀ y0 y1 y2 y3 y4 y5 y6 y7, LeO (large_Right.j1 k y0 y1 y2 y3 y4 y5 y6 y7) (large_Right.j1 (k + 1) y0 y1 y2 y3 y4 y5 y6 y7))
 | 0 => ⟨fun _ _ _ _ r h => by simp [large_Right.l0] at h, fun _ _ _ _ _ _ _ _ r h => by simp [large_Right.j1] at h⟩
 | k + 1 => by
  obtain ⟨ih0, ih1⟩ := large_Right.mono_l k
  refine ⟨?_, ?_⟩
  ·intro y0 y1 y2 y3
   unfold large_Right.l0
   repeat' first
   | (with_reducible exact ih0 _ _ _ _)
   | (with_reducible exact ih1 _ _ _ _ _ _ _ _)
   | (with_reducible exact large_order.mono _ _ _ _ _)
   | (with_reducible exact LeO.refl _)
   | (with_reducible exact LeO.none _)
   | (with_reducible refine LeO.ite ?_ ?_)
   | (with_reducible refine LeO.bind ?_ (fun _ => ?_))
   | exact ih0 _ _ _ _
   | exact ih1 _ _ _ _ _ _ _ _
   | exact large_order.mono _ _ _ _ _
   | exact LeO.none _
   | refine LeO.ite ?_ ?_
   | refine LeO.bind ?_ (fun _ => ?_)
  ·intro y0 y1 y2 y3 y4 y5 y6 y7
   unfold large_Right.j1
   repeat' first
   | (with_reducible exact ih0 _ _ _ _)
   | (with_reducible exact ih1 _ _ _ _ _ _ _ _)
   | (with_reducible exact large_order.mono _ _ _ _ _)
   | (with_reducible exact LeO.refl _)
   | (with_reducible exact LeO.none _)
   | (with_reducible refine LeO.ite ?_ ?_)
   | (with_reducible refine LeO.bind ?_ (fun _ => ?_))
   | exact ih0 _ _ _ _
   | exact ih1 _ _ _ _ _ _ _ _
   | exact large_order.mono _ _ _ _ _
   | exact LeO.none _
   | refine LeO.ite ?_ ?_
   | refine LeO.bind ?_ (fun _ => ?_)
theorem large_Right.mono : ∀ a0 k, LeO (large_Right.f k a0) (large_Right.f (k + 1) a0) := by
 intro a0 k
 obtain ⟨ih0, ih1⟩ := large_Right.mono_l k
 unfold large_Right.f
 repeat' first
   | (with_reducible exact ih0 _ _ _ _)
   | (with_reducible exact ih1 _ _ _ _ _ _ _ _)
   | (with_reducible exact large_order.mono _ _ _ _ _)
   | (with_reducible exact LeO.refl _)
   | (with_reducible exact LeO.none _)
   | (with_reducible refine LeO.ite ?_ ?_)
   | (with_reducible refine LeO.bind ?_ (fun _ => ?_))
   | exact ih0 _ _ _ _
   | exact ih1 _ _ _ _ _ _ _ _
   | exact large_order.mono _ _ _ _ _
   | exact LeO.none _
   | refine LeO.ite ?_ ?_
   | refine LeO.bind ?_ (fun _ => ?_)
def large_Right.T4 : Bool × List (List Nat × List Nat) := (true, [([], []), ([0], [0]), ([1], [1]), ([2, 1], [2]), ([3], [3]), ([4, 3], [3, 4]), ([5, 3, 3], [3, 5]), ([6], [6]), ([6], [6]), ([8, 6], [6, 8]), ([7, 9, 6], [6, 7, 9]), ([10, 6], [6, 10]), ([6], [6]), ([11, 12, 6, 6], [6, 11, 12]), ([13, 6], [6, 13]), ([6, 14, 3], [3, 6, 14]), ([3, 15], [3, 15])])
def large_Right.B4 : List Nat := [0, 1, 3, 7, 15, 31, 63, 127, 127, 383, 1023, 2047, 127, 8191, 16383, 32767, 65535]
theorem large_Right.tab4 : rtab .any (opsOf Try.f27 4) = large_Right.T4 := by kernel_rfl
theorem large_Right.bits4 : waitsOk large_Right.T4.2 large_Right.B4 = true := by kernel_rfl
set_option maxHeartbeats 8000000 in
set_option maxRecDepth 100000 in
theorem large_Right.calls (k : Nat) (A0 : Option Addr) (c0 : Nat) (l0 : List (S29)) (r : Bool) (w : World) (hr0 : Kd.C k29 w A0 l0.length l0) (hc0 : l0.length ≤ c0) (h : large_Right.f k l0 = some r) :
  Calls Try.prog 27 #[.slice A0 l0.length c0] w fun e w' => e = .returned (.bool r) ∧ Below w.heap.size w w' := by
 have hu29 := Try.underlying29
 have HR0 := aM hr0
 have HC0 := aM hc0
 clear hr0 hc0
 have HB := aM (Below.refl w.heap.size w)
 have H : (large_Right.l0 k l0 l0 (l0.length : Int) 0) = some r := h
 clear h
 have H' := aM H
 clear H
 go_enter Try.func27, Try.ntmps27
 go_wp2
 go_loopg [7] k (fun kq v7 w' => ∃ (x7_1 : Int), v7 = .int .i64 x7_1 ∧ Aside0 (large_Right.l0 kq l0 l0 (l0.length : Int) x7_1 = some r) ∧ Aside0 (kq ≤ k) ∧ Aside0 (Below w.heap.size w w'))
 case atStart => exact ⟨(0),(by first|rfl|(simp;done)|(simp [*];done)),H',⟨Nat.le_refl _⟩,⟨by repeat (first|(with_reducible first|exact HB.out|apply wA|apply wN_|apply wD)|exact HB.out)⟩⟩
 case round =>
  clear H'
  obtain ⟨x7_1, rfl, HA, HK1, HB⟩ := hrel
  cases gk with
  | zero => exact absurd HA.out (by simp [large_Right.l0])
  | succ k1 =>
   have H := HA.out
   clear HA
   simp only [large_Right.l0] at H
   by_cases c2 : x7_1 < (l0.length : Int)
   ·rw [if_pos c2] at H
    have c2b0 : decide (x7_1 < (l0.length : Int)) = true := decide_eq_true c2
    clear c2
    by_cases c3 : 0 ≤ x7_1
    ·rw [if_pos c3] at H
     have c3b0 : decide (0 ≤ x7_1) = true := decide_eq_true c3
     clear c3
     by_cases c4 : x7_1 < (l0.length : Int)
     ·rw [if_pos c4] at H
      have c4b0 : decide (x7_1 < (l0.length : Int)) = true := decide_eq_true c4
      clear c4
      have HC5 := aM H
      clear H
      have p428 : 0 ≤ (x7_1 : Int) := oD (by first | (with_reducible assumption) | assumption)
      have q428 : x7_1 < (l0.length : Int) := oD (by first | (with_reducible assumption) | assumption)
      obtain ⟨ad428, e428, hx428_0, hx428_1⟩ := at_T29 HR0.out x7_1 p428 q428
      cases e428
      replace hx428_0 := (HB.out.cell (wL w _ hx428_0)).trans hx428_0
      replace hx428_1 := (HB.out.cell (wL w _ hx428_1)).trans hx428_1
      replace p428 := eq_true p428
      replace q428 := eq_true q428
      go_upto_region 4 with (first|((with_reducible refine gate_dst (N:=4) rfl ?_);refine box_event ?hg (N:=4) ?hd (cs:=#[.int .i64 0,.int .i64 0]) (t:=29) ?hr ?_;(case hd => rfl);(case hg => rfl);(case hr => first|(go_simp;done)|(go_simp;rfl));intro gb429 hg w6 hbox hb;have n0_:=aM (wT (by repeat (first|(with_reducible first|exact HB.out|apply wA|apply wN_|apply wD)|exact HB.out)) hb);have n1_:=aM (hbox);have n2_:=aM ((by rw [hg];exact (wZ (by repeat (first|(with_reducible first|exact HB.out|apply wA|apply wN_|apply wD)|exact HB.out))) : w.heap.size ≤ gb429));have n3_:=aM ((by rw [hg];exact (wZ (by repeat (first|(with_reducible first|exact HB.out|apply wA|apply wN_|apply wD)|exact HB.out))) : w.heap.size ≤ gb429));clear HB;have HB:=n0_;have BK429:=n1_;have GW429:=n2_;have GE429:=n3_;clear n0_ n1_ n2_ n3_;clear hb hbox hg;have hcz7_0 : w6.cell? ⟨gb429,0,none⟩ = some (.int .i64 0):=(bC BK429.out 0).trans rfl;have hcz7_1 : w6.cell? ⟨gb429,1,none⟩ = some (.int .i64 0):=(bC BK429.out 1).trans rfl;have hfz7_0:=bF BK429.out 0;have hfz7_1:=bF BK429.out 1))
      (try simp only [Act.put, lS, lZ, lU])
      go_cut [28] (fun v28 wc => ∃ (kq : Nat) (x28_4 : Bool), v28 = .bool x28_4 ∧ Aside0 (large_Right.j1 kq l0 x7_1 l0 (l0.length : Int) x7_1 x28_4 ((rd_T29 l0 x7_1).f0) ((rd_T29 l0 x7_1).f1) = some r) ∧ Aside0 (kq ≤ k1) ∧ Aside0 (wc.heap[gb429]? = some (.cells #[.int .i64 ((rd_T29 l0 x7_1).f0), .int .i64 ((rd_T29 l0 x7_1).f1)] 29 (0, 0))) ∧ Aside0 (Below w.heap.size w wc))
      case first =>
       have H := HC5.out
       clear HC5
       replace H := Option.bind_eq_some_iff.mp H
       obtain ⟨t430, A80, H⟩ := H
       replace H : (if t430 = true then (if x7_1 > 0 then (if 0 ≤ (wrap64 (x7_1 - 1)) then (if (wrap64 (x7_1 - 1)) < (l0.length : Int) then ((large_order.f k1 ((rd_T29 l0 (wrap64 (x7_1 - 1))).f0) ((rd_T29 l0 (wrap64 (x7_1 - 1))).f1) ((rd_T29 l0 x7_1).f0) ((rd_T29 l0 x7_1).f1)).bind fun t432 => (large_Right.j1 k1 l0 x7_1 l0 (l0.length : Int) x7_1 (decide (t432 ≥ 0)) ((rd_T29 l0 x7_1).f0) ((rd_T29 l0 x7_1).f1))) else (none)) else (none)) else (large_Right.j1 k1 l0 x7_1 l0 (l0.length : Int) x7_1 false ((rd_T29 l0 x7_1).f0) ((rd_T29 l0 x7_1).f1))) else (large_Right.j1 k1 l0 x7_1 l0 (l0.length : Int) x7_1 true ((rd_T29 l0 x7_1).f0) ((rd_T29 l0 x7_1).f1))) = some r := H
       have A8 := aM A80
       clear A80
       by_cases c9 : t430 = true
       ·subst c9
        have H1 : (if x7_1 > 0 then (if 0 ≤ (wrap64 (x7_1 - 1)) then (if (wrap64 (x7_1 - 1)) < (l0.length : Int) then ((large_order.f k1 ((rd_T29 l0 (wrap64 (x7_1 - 1))).f0) ((rd_T29 l0 (wrap64 (x7_1 - 1))).f1) ((rd_T29 l0 x7_1).f0) ((rd_T29 l0 x7_1).f1)).bind fun t432 => (large_Right.j1 k1 l0 x7_1 l0 (l0.length : Int) x7_1 (decide (t432 ≥ 0)) ((rd_T29 l0 x7_1).f0) ((rd_T29 l0 x7_1).f1))) else (none)) else (none)) else (large_Right.j1 k1 l0 x7_1 l0 (l0.length : Int) x7_1 false ((rd_T29 l0 x7_1).f0) ((rd_T29 l0 x7_1).f1))) = some r := by rw [if_pos rfl] at H; exact H
        clear H
        have H := H1
        clear H1
        by_cases c10 : x7_1 > 0
        ·rw [if_pos c10] at H
         have c10b0 : decide (0 < x7_1) = true := decide_eq_true c10
         clear c10
         (first | rw [c10b0] | (simp only [i64_w, i32_w]; rw [c10b0]) | skip)
         obtain ⟨ji11, hji11⟩ : ∃ j_ : Int, (wrap64 (x7_1 - 1)) = j_ := ⟨_, rfl⟩
         replace H : (if 0 ≤ (ji11) then (if (ji11) < (l0.length : Int) then ((large_order.f k1 ((rd_T29 l0 (ji11)).f0) ((rd_T29 l0 (ji11)).f1) ((rd_T29 l0 x7_1).f0) ((rd_T29 l0 x7_1).f1)).bind fun t432 => (large_Right.j1 k1 l0 x7_1 l0 (l0.length : Int) x7_1 (decide (t432 ≥ 0)) ((rd_T29 l0 x7_1).f0) ((rd_T29 l0 x7_1).f1))) else (none)) else (none)) = some r := by first | (rw [hji11] at H; exact H) | (simp only [hji11] at H ⊢; exact H)
         (try rw [hji11] at A8)
         have hji11w : (IntKind.i64.wrap (x7_1 - 1)) = ji11 := (i64_w _).trans hji11
         by_cases c12 : 0 ≤ (ji11)
         ·rw [if_pos c12] at H
          have c12b0 : decide (0 ≤ (ji11)) = true := decide_eq_true c12
          clear c12
          by_cases c13 : (ji11) < (l0.length : Int)
          ·rw [if_pos c13] at H
           have c13b0 : decide ((ji11) < (l0.length : Int)) = true := decide_eq_true c13
           clear c13
           replace H := Option.bind_eq_some_iff.mp H
           obtain ⟨t432, A140, H⟩ := H
           replace H : (large_Right.j1 k1 l0 x7_1 l0 (l0.length : Int) x7_1 (decide (t432 ≥ 0)) ((rd_T29 l0 x7_1).f0) ((rd_T29 l0 x7_1).f1)) = some r := H
           have A14 := aM A140
           clear A140
           have H' := aM H
           clear H
           try go_wp2
           have n0_ : Aside0 (((w6.setCell ⟨gb429, 0, none⟩ (.int .i64 ((rd_T29 l0 x7_1).f0))).setCell ⟨gb429, 1, none⟩ (.int .i64 ((rd_T29 l0 x7_1).f1))).heap[gb429]? = some (.cells #[.int .i64 ((rd_T29 l0 x7_1).f0), .int .i64 ((rd_T29 l0 x7_1).f1)] 29 (0, 0))) := ⟨by (with_reducible repeat (first | refine bN ?_ _ | refine bD ?_ | refine bA ?_ _)); refine bP (cs := #[.int .i64 ((rd_T29 l0 x7_1).f0), .int .i64 0]) ?_ 1 _ rfl; (with_reducible repeat (first | refine bN ?_ _ | refine bD ?_ | refine bA ?_ _)); refine bP (cs := #[.int .i64 0, .int .i64 0]) ?_ 0 _ rfl; (with_reducible repeat (first | refine bN ?_ _ | refine bD ?_ | refine bA ?_ _)); exact BK429.out⟩
           have n1_ : Aside0 (Below w.heap.size w ((w6.setCell ⟨gb429, 0, none⟩ (.int .i64 ((rd_T29 l0 x7_1).f0))).setCell ⟨gb429, 1, none⟩ (.int .i64 ((rd_T29 l0 x7_1).f1)))) := ⟨by repeat (first | (with_reducible first | exact HB.out | apply wA | apply wN_ | apply wD | refine wS ?_ GE429.out) | exact HB.out)⟩
           (try clear BK429)
           (try clear HB)
           generalize ((w6.setCell ⟨gb429, 0, none⟩ (.int .i64 ((rd_T29 l0 x7_1).f0))).setCell ⟨gb429, 1, none⟩ (.int .i64 ((rd_T29 l0 x7_1).f1))) = w15 at n0_ n1_ ⊢
           have BK429 := n0_
           have HB := n1_
           clear n0_ n1_
           have n0_ := aM (bD BK429.out)
           have n1_ := aM (wD HB.out)
           clear BK429
           clear HB
           have BK429 := n0_
           have HB := n1_
           clear n0_ n1_
           have p431 : 0 ≤ ((ji11) : Int) := oD (by first | (with_reducible assumption) | assumption)
           have q431 : (ji11) < (l0.length : Int) := oD (by first | (with_reducible assumption) | assumption)
           obtain ⟨ad431, e431, hx431_0, hx431_1⟩ := at_T29 HR0.out (ji11) p431 q431
           have hw431_1 := hx431_1
           have hw431_0 := hx431_0
           obtain rfl : ad428 = ad431 := (by injection e431)
           replace hx431_0 := (HB.out.cell (wL w _ hx431_0)).trans hx431_0
           replace hx431_1 := (HB.out.cell (wL w _ hx431_1)).trans hx431_1
           replace p431 := eq_true p431
           replace q431 := eq_true q431
           refine start_ (n := 17) (S := fun w' => w'.cell? ⟨gb429, 0, none⟩ = some (.int .i64 ((rd_T29 l0 x7_1).f0)) ∧ w'.cell? ⟨gb429, 1, none⟩ = some (.int .i64 ((rd_T29 l0 x7_1).f1)) ∧ w'.cell? (ad428.add (((ji11)).toNat * 2)) = some (.int .i64 ((rd_T29 l0 (ji11)).f0)) ∧ w'.cell? ⟨(ad428.add (((ji11)).toNat * 2)).block, (ad428.add (((ji11)).toNat * 2)).off + 1, none⟩ = some (.int .i64 ((rd_T29 l0 (ji11)).f1))) (ds := []) (msk 0 17) (by kernel_rfl) rfl rfl ⟨(bC BK429.out 0).trans rfl, (bC BK429.out 1).trans rfl, ((HB.out.cell (wL w _ hw431_0)).trans hw431_0), ((HB.out.cell (wL w _ hw431_1)).trans hw431_1)⟩ (fun hHeld => ?_); refine with_tabW large_Right.tab4 large_Right.bits4 (fun HT_ HW_ => ?_)
           generalize w15.drew = w16 at BK429 HB hx431_0 hx431_1 hHeld ⊢
           refine take_ (i := 0) (N := some 12) (v := ?_) (a' := ?_) (msk 1 16) rfl rfl (take_ofW HT_.out HW_.out (by kernel_rfl)) (fun _ _ _ h => h) (Or.inl ⟨by rfl, ?_⟩) hHeld ?_ ?_
           rotate_left
           ·rintro w' ⟨s0, s1, s2, s3⟩
            go_simp
            with_reducible rfl
           rotate_left
           ·simp only [Act.put, lS, lZ, lU, i64_w, i32_w]
            rfl
           refine one_ (i := 1) (N := some 13) (msk 2 15) rfl rfl (one_of HT_.out (by kernel_rfl)) (by decide) (fun K hK => ?_)
           refine goes_ Try.func39 (by kernel_rfl) rfl #[.agg #[.int .i64 ((rd_T29 l0 x7_1).f0), .int .i64 ((rd_T29 l0 x7_1).f1)]] (by rfl) rfl rfl (by (try simp only [lM, lC, lN]); first | done | rfl | (simp only [lD, lT]; rfl)) ?_
           with_reducible refine (large_may.calls ((rd_T29 l0 x7_1).f0) ((rd_T29 l0 x7_1).f1) true _ A8.out).mono ?_
           rintro e w17 ⟨rfl, hb⟩
           refine ⟨_, rfl, ?_⟩
           have n0_ := aM (bB (g := gb429) (o := .cells #[.int .i64 ((rd_T29 l0 x7_1).f0), .int .i64 ((rd_T29 l0 x7_1).f1)] 29 (0, 0)) (by (with_reducible repeat (first | refine bN ?_ _ | refine bD ?_ | refine bA ?_ _)); exact BK429.out) hb)
           have n1_ := aM (wT (by repeat (first | (with_reducible first | exact HB.out | apply wA | apply wN_ | apply wD | refine wS ?_ GE429.out) | exact HB.out)) hb)
           clear BK429
           clear HB
           have BK429 := n0_
           have HB := n1_
           clear n0_ n1_
           (try clear hb)
           (try clear hb2)
           (try clear hk)
           (try clear hi)
           refine hK.out _ _ ⟨(bC BK429.out 0).trans rfl, (bC BK429.out 1).trans rfl, ((HB.out.cell (wL w _ hw431_0)).trans hw431_0), ((HB.out.cell (wL w _ hw431_1)).trans hw431_1)⟩ (fun hHeld => ?_)
           clear hK K
           refine norm_ (a' := ?_) ?_ ?_
           rotate_left
           ·show Act.put _ (some 13) _ = _
            simp only [Act.put, lS, lZ, lU, i64_w, i32_w]
            rfl
           refine pure_ (i := 2) (N := some 14) (v := ?_) (a' := ?_) (msk 3 14) rfl rfl (any_of HT_.out (by kernel_rfl)) (fun _ _ _ h => h) (Or.inl ⟨by rfl, ?_⟩) ?_ ?_
           rotate_left
           ·intro w'
            go_simp
            with_reducible rfl
           rotate_left
           ·simp only [Act.put, lS, lZ, lU, i64_w, i32_w]
            rfl
           refine pure_ (i := 3) (N := some 15) (v := ?_) (a' := ?_) (msk 4 13) rfl rfl (any_of HT_.out (by kernel_rfl)) (fun _ _ _ h => h) (Or.inl ⟨by rfl, ?_⟩) ?_ ?_
           rotate_left
           ·intro w'
            go_simp
            with_reducible rfl
           rotate_left
           ·simp only [Act.put, lS, lZ, lU, i64_w, i32_w]
            rfl
           refine pure_ (i := 4) (N := some 16) (v := ?_) (a' := ?_) (msk 5 12) rfl rfl (any_of HT_.out (by kernel_rfl)) (fun _ _ _ h => h) (Or.inl ⟨by rfl, ?_⟩) ?_ ?_
           rotate_left
           ·intro w'
            go_simp
            with_reducible rfl
           rotate_left
           ·simp only [Act.put, lS, lZ, lU, i64_w, i32_w]
            rfl
           refine pure_ (i := 5) (N := some 17) (v := ?_) (a' := ?_) (msk 6 11) rfl rfl (any_of HT_.out (by kernel_rfl)) (fun _ _ _ h => h) (Or.inl ⟨by rfl, ?_⟩) ?_ ?_
           rotate_left
           ·intro w'
            go_simp
            with_reducible rfl
           rotate_left
           ·simp only [Act.put, lS, lZ, lU, i64_w, i32_w]
            rfl
           refine pure_ (i := 6) (N := some 18) (v := ?_) (a' := ?_) (msk 7 10) rfl rfl (any_of HT_.out (by kernel_rfl)) (fun _ _ _ h => h) (Or.inl ⟨by rfl, ?_⟩) ?_ ?_
           rotate_left
           ·intro w'
            go_simp
            with_reducible rfl
           rotate_left
           ·simp only [Act.put, lS, lZ, lU, i64_w, i32_w]
            rfl
           refine pure_ (i := 7) (N := some 19) (v := ?_) (a' := ?_) (msk 8 9) rfl rfl (any_of HT_.out (by kernel_rfl)) (fun _ _ _ h => h) (Or.inl ⟨by rfl, ?_⟩) ?_ ?_
           rotate_left
           ·intro w'
            go_simp
            with_reducible rfl
           rotate_left
           ·simp only [Act.put, lS, lZ, lU, i64_w, i32_w]
            rfl
           refine pure_ (i := 8) (N := some 20) (v := ?_) (a' := ?_) (msk 9 8) rfl rfl (any_of HT_.out (by kernel_rfl)) (fun _ _ _ h => h) (Or.inl ⟨by rfl, ?_⟩) ?_ ?_
           rotate_left
           ·intro w'
            go_simp
            with_reducible rfl
           rotate_left
           ·simp only [Act.put, lS, lZ, lU, i64_w, i32_w]
            rfl
           refine pure_ (i := 9) (N := some 21) (v := ?_) (a' := ?_) (msk 10 7) rfl rfl (any_of HT_.out (by kernel_rfl)) (fun _ _ _ h => h) (Or.inl ⟨by rfl, ?_⟩) ?_ ?_
           rotate_left
           ·intro w'
            go_simp
            with_reducible rfl
           rotate_left
           ·simp only [Act.put, lS, lZ, lU, i64_w, i32_w]
            rfl
           refine pure_ (i := 10) (N := some 22) (v := ?_) (a' := ?_) (msk 11 6) rfl rfl (any_of HT_.out (by kernel_rfl)) (fun _ _ _ h => h) (Or.inl ⟨by rfl, ?_⟩) ?_ ?_
           rotate_left
           ·intro w'
            go_simp
            with_reducible rfl
           rotate_left
           ·simp only [Act.put, lS, lZ, lU, i64_w, i32_w]
            rfl
           refine take_ (i := 11) (N := some 23) (v := ?_) (a' := ?_) (msk 12 5) rfl rfl (take_ofW HT_.out HW_.out (by kernel_rfl)) (fun _ _ _ h => h) (Or.inl ⟨by rfl, ?_⟩) hHeld ?_ ?_
           rotate_left
           ·rintro w' ⟨s0, s1, s2, s3⟩
            go_simp
            with_reducible rfl
           rotate_left
           ·simp only [Act.put, lS, lZ, lU, i64_w, i32_w]
            rfl
           refine take_ (i := 12) (N := some 24) (v := ?_) (a' := ?_) (msk 13 4) rfl rfl (take_ofW HT_.out HW_.out (by kernel_rfl)) (fun _ _ _ h => h) (Or.inl ⟨by rfl, ?_⟩) hHeld ?_ ?_
           rotate_left
           ·rintro w' ⟨s0, s1, s2, s3⟩
            go_simp
            with_reducible rfl
           rotate_left
           ·simp only [Act.put, lS, lZ, lU, i64_w, i32_w]
            rfl
           refine one_ (i := 13) (N := some 25) (msk 14 3) rfl rfl (one_of HT_.out (by kernel_rfl)) (by decide) (fun K hK => ?_)
           refine goes_ Try.func44 (by kernel_rfl) rfl #[.agg #[.int .i64 ((rd_T29 l0 (ji11)).f0), .int .i64 ((rd_T29 l0 (ji11)).f1)], .agg #[.int .i64 ((rd_T29 l0 x7_1).f0), .int .i64 ((rd_T29 l0 x7_1).f1)]] (by rfl) rfl rfl (by (try simp only [lM, lC, lN]); first | done | (simp only [hji11]; rfl) | rfl | (simp only [lD, lT]; rfl)) ?_
           with_reducible refine (large_order.calls k1 ((rd_T29 l0 (ji11)).f0) ((rd_T29 l0 (ji11)).f1) ((rd_T29 l0 x7_1).f0) ((rd_T29 l0 x7_1).f1) t432 _ A14.out).mono ?_
           rintro e w18 ⟨rfl, hb⟩
           refine ⟨_, rfl, ?_⟩
           have n0_ := aM (bB (g := gb429) (o := .cells #[.int .i64 ((rd_T29 l0 x7_1).f0), .int .i64 ((rd_T29 l0 x7_1).f1)] 29 (0, 0)) (by (with_reducible repeat (first | refine bN ?_ _ | refine bD ?_ | refine bA ?_ _)); exact BK429.out) hb)
           have n1_ := aM (wT (by repeat (first | (with_reducible first | exact HB.out | apply wA | apply wN_ | apply wD | refine wS ?_ GE429.out) | exact HB.out)) hb)
           clear BK429
           clear HB
           have BK429 := n0_
           have HB := n1_
           clear n0_ n1_
           (try clear hb)
           (try clear hb2)
           (try clear hk)
           (try clear hi)
           refine hK.out _ _ ⟨(bC BK429.out 0).trans rfl, (bC BK429.out 1).trans rfl, ((HB.out.cell (wL w _ hw431_0)).trans hw431_0), ((HB.out.cell (wL w _ hw431_1)).trans hw431_1)⟩ (fun hHeld => ?_)
           clear hK K
           refine norm_ (a' := ?_) ?_ ?_
           rotate_left
           ·show Act.put _ (some 25) _ = _
            simp only [Act.put, lS, lZ, lU, i64_w, i32_w]
            rfl
           refine pure_ (i := 14) (N := some 26) (v := ?_) (a' := ?_) (msk 15 2) rfl rfl (any_of HT_.out (by kernel_rfl)) (fun _ _ _ h => h) (Or.inl ⟨by rfl, ?_⟩) ?_ ?_
           rotate_left
           ·intro w'
            go_simp
            with_reducible rfl
           rotate_left
           ·simp only [Act.put, lS, lZ, lU, i64_w, i32_w]
            rfl
           refine pure_ (i := 15) (N := some 27) (v := ?_) (a' := ?_) (msk 16 1) rfl rfl (any_of HT_.out (by kernel_rfl)) (fun _ _ _ h => h) (Or.inl ⟨by rfl, ?_⟩) ?_ ?_
           rotate_left
           ·intro w'
            go_simp
            with_reducible rfl
           rotate_left
           ·simp only [Act.put, lS, lZ, lU, i64_w, i32_w]
            rfl
           refine pure_ (i := 16) (N := some 28) (v := ?_) (a' := ?_) (msk 17 0) rfl rfl (any_of HT_.out (by kernel_rfl)) (fun _ _ _ h => h) (Or.inl ⟨by rfl, ?_⟩) ?_ ?_
           rotate_left
           ·intro w'
            go_simp
            with_reducible rfl
           rotate_left
           ·simp only [Act.put, lS, lZ, lU, i64_w, i32_w]
            rfl
           refine done_ (done_of HT_.out (by kernel_rfl)) ?_
           try go_wp2
           go_meet
           case rel => exact ⟨_,(decide (t432 ≥ 0)),(by first|rfl|(simp;done)|(simp [*];done)),H',⟨by have:=HK1.out;first|omega|exact Nat.le_refl _⟩,⟨by (with_reducible repeat (first|refine bN ?_ _|refine bD ?_|refine bA ?_ _));exact BK429.out⟩,⟨by repeat (first|(with_reducible first|exact HB.out|apply wA|apply wN_|apply wD|refine wS ?_ GE429.out)|exact HB.out)⟩⟩
          ·rw [if_neg c13] at H
           exact absurd H (by simp)
         ·rw [if_neg c12] at H
          exact absurd H (by simp)
        ·rw [if_neg c10] at H
         have c10b0 : decide (0 < x7_1) = false := decide_eq_false c10
         clear c10
         (first | rw [c10b0] | (simp only [i64_w, i32_w]; rw [c10b0]) | skip)
         have H' := aM H
         clear H
         try go_wp2
         have n0_ : Aside0 (((w6.setCell ⟨gb429, 0, none⟩ (.int .i64 ((rd_T29 l0 x7_1).f0))).setCell ⟨gb429, 1, none⟩ (.int .i64 ((rd_T29 l0 x7_1).f1))).heap[gb429]? = some (.cells #[.int .i64 ((rd_T29 l0 x7_1).f0), .int .i64 ((rd_T29 l0 x7_1).f1)] 29 (0, 0))) := ⟨by (with_reducible repeat (first | refine bN ?_ _ | refine bD ?_ | refine bA ?_ _)); refine bP (cs := #[.int .i64 ((rd_T29 l0 x7_1).f0), .int .i64 0]) ?_ 1 _ rfl; (with_reducible repeat (first | refine bN ?_ _ | refine bD ?_ | refine bA ?_ _)); refine bP (cs := #[.int .i64 0, .int .i64 0]) ?_ 0 _ rfl; (with_reducible repeat (first | refine bN ?_ _ | refine bD ?_ | refine bA ?_ _)); exact BK429.out⟩
         have n1_ : Aside0 (Below w.heap.size w ((w6.setCell ⟨gb429, 0, none⟩ (.int .i64 ((rd_T29 l0 x7_1).f0))).setCell ⟨gb429, 1, none⟩ (.int .i64 ((rd_T29 l0 x7_1).f1)))) := ⟨by repeat (first | (with_reducible first | exact HB.out | apply wA | apply wN_ | apply wD | refine wS ?_ GE429.out) | exact HB.out)⟩
         (try clear BK429)
         (try clear HB)
         generalize ((w6.setCell ⟨gb429, 0, none⟩ (.int .i64 ((rd_T29 l0 x7_1).f0))).setCell ⟨gb429, 1, none⟩ (.int .i64 ((rd_T29 l0 x7_1).f1))) = w19 at n0_ n1_ ⊢
         have BK429 := n0_
         have HB := n1_
         clear n0_ n1_
         have n0_ := aM (bD BK429.out)
         have n1_ := aM (wD HB.out)
         clear BK429
         clear HB
         have BK429 := n0_
         have HB := n1_
         clear n0_ n1_
         refine start_ (n := 17) (S := fun w' => w'.cell? ⟨gb429, 0, none⟩ = some (.int .i64 ((rd_T29 l0 x7_1).f0)) ∧ w'.cell? ⟨gb429, 1, none⟩ = some (.int .i64 ((rd_T29 l0 x7_1).f1))) (ds := []) (msk 0 17) (by kernel_rfl) rfl rfl ⟨(bC BK429.out 0).trans rfl, (bC BK429.out 1).trans rfl⟩ (fun hHeld => ?_); refine with_tabW large_Right.tab4 large_Right.bits4 (fun HT_ HW_ => ?_)
         generalize w19.drew = w20 at BK429 HB hHeld ⊢
         refine take_ (i := 0) (N := some 12) (v := ?_) (a' := ?_) (msk 1 16) rfl rfl (take_ofW HT_.out HW_.out (by kernel_rfl)) (fun _ _ _ h => h) (Or.inl ⟨by rfl, ?_⟩) hHeld ?_ ?_
         rotate_left
         ·rintro w' ⟨s0, s1⟩
          go_simp
          with_reducible rfl
         rotate_left
         ·simp only [Act.put, lS, lZ, lU, i64_w, i32_w]
          rfl
         refine one_ (i := 1) (N := some 13) (msk 2 15) rfl rfl (one_of HT_.out (by kernel_rfl)) (by decide) (fun K hK => ?_)
         refine goes_ Try.func39 (by kernel_rfl) rfl #[.agg #[.int .i64 ((rd_T29 l0 x7_1).f0), .int .i64 ((rd_T29 l0 x7_1).f1)]] (by rfl) rfl rfl (by (try simp only [lM, lC, lN]); first | done | rfl | (simp only [lD, lT]; rfl)) ?_
         with_reducible refine (large_may.calls ((rd_T29 l0 x7_1).f0) ((rd_T29 l0 x7_1).f1) true _ A8.out).mono ?_
         rintro e w21 ⟨rfl, hb⟩
         refine ⟨_, rfl, ?_⟩
         have n0_ := aM (bB (g := gb429) (o := .cells #[.int .i64 ((rd_T29 l0 x7_1).f0), .int .i64 ((rd_T29 l0 x7_1).f1)] 29 (0, 0)) (by (with_reducible repeat (first | refine bN ?_ _ | refine bD ?_ | refine bA ?_ _)); exact BK429.out) hb)
         have n1_ := aM (wT (by repeat (first | (with_reducible first | exact HB.out | apply wA | apply wN_ | apply wD | refine wS ?_ GE429.out) | exact HB.out)) hb)
         clear BK429
         clear HB
         have BK429 := n0_
         have HB := n1_
         clear n0_ n1_
         (try clear hb)
         (try clear hb2)
         (try clear hk)
         (try clear hi)
         refine hK.out _ _ ⟨(bC BK429.out 0).trans rfl, (bC BK429.out 1).trans rfl⟩ (fun hHeld => ?_)
         clear hK K
         refine norm_ (a' := ?_) ?_ ?_
         rotate_left
         ·show Act.put _ (some 13) _ = _
          simp only [Act.put, lS, lZ, lU, i64_w, i32_w]
          rfl
         refine pure_ (i := 2) (N := some 14) (v := ?_) (a' := ?_) (msk 3 14) rfl rfl (any_of HT_.out (by kernel_rfl)) (fun _ _ _ h => h) (Or.inl ⟨by rfl, ?_⟩) ?_ ?_
         rotate_left
         ·intro w'
          go_simp
          with_reducible rfl
         rotate_left
         ·simp only [Act.put, lS, lZ, lU, i64_w, i32_w]
          rfl
         refine pure_ (i := 3) (N := some 15) (v := ?_) (a' := ?_) (msk 4 13) rfl rfl (any_of HT_.out (by kernel_rfl)) (fun _ _ _ h => h) (Or.inl ⟨by rfl, ?_⟩) ?_ ?_
         rotate_left
         ·intro w'
          go_simp
          with_reducible rfl
         rotate_left
         ·simp only [Act.put, lS, lZ, lU, i64_w, i32_w]
          rfl
         refine pure_ (i := 4) (N := some 16) (v := ?_) (a' := ?_) (msk 5 12) rfl rfl (any_of HT_.out (by kernel_rfl)) (fun _ _ _ h => h) (Or.inl ⟨by rfl, ?_⟩) ?_ ?_
         rotate_left
         ·intro w'
          go_simp
          with_reducible rfl
         rotate_left
         ·simp only [Act.put, lS, lZ, lU, i64_w, i32_w]
          rfl
         refine pure_ (i := 5) (N := some 17) (v := ?_) (a' := ?_) (msk 6 11) rfl rfl (any_of HT_.out (by kernel_rfl)) (fun _ _ _ h => h) (Or.inl ⟨by rfl, ?_⟩) ?_ ?_
         rotate_left
         ·intro w'
          go_simp
          with_reducible rfl
         rotate_left
         ·simp only [Act.put, lS, lZ, lU, i64_w, i32_w]
          rfl
         refine pure_ (i := 6) (N := some 18) (v := ?_) (a' := ?_) (msk 7 10) rfl rfl (any_of HT_.out (by kernel_rfl)) (fun _ _ _ h => h) (Or.inl ⟨by rfl, ?_⟩) ?_ ?_
         rotate_left
         ·intro w'
          go_simp
          with_reducible rfl
         rotate_left
         ·simp only [Act.put, lS, lZ, lU, i64_w, i32_w]
          rfl
         refine pure_ (i := 7) (N := some 19) (v := undef) (a' := ?_) (msk 8 9) rfl rfl (any_of HT_.out (by kernel_rfl)) (fun _ _ _ h => h) (Or.inr ⟨by rfl, rfl⟩) ?_ ?_
         rotate_left
         ·simp only [Act.put, lS, lZ, lU, i64_w, i32_w]
          rfl
         refine pure_ (i := 8) (N := some 20) (v := undef) (a' := ?_) (msk 9 8) rfl rfl (any_of HT_.out (by kernel_rfl)) (fun _ _ _ h => h) (Or.inr ⟨by rfl, rfl⟩) ?_ ?_
         rotate_left
         ·simp only [Act.put, lS, lZ, lU, i64_w, i32_w]
          rfl
         refine pure_ (i := 9) (N := some 21) (v := undef) (a' := ?_) (msk 10 7) rfl rfl (any_of HT_.out (by kernel_rfl)) (fun _ _ _ h => h) (Or.inr ⟨by rfl, rfl⟩) ?_ ?_
         rotate_left
         ·simp only [Act.put, lS, lZ, lU, i64_w, i32_w]
          rfl
         refine pure_ (i := 10) (N := some 22) (v := undef) (a' := ?_) (msk 11 6) rfl rfl (any_of HT_.out (by kernel_rfl)) (fun _ _ _ h => h) (Or.inr ⟨by rfl, rfl⟩) ?_ ?_
         rotate_left
         ·simp only [Act.put, lS, lZ, lU, i64_w, i32_w]
          rfl
         refine pure_ (i := 11) (N := some 23) (v := undef) (a' := ?_) (msk 12 5) rfl rfl (any_of HT_.out (by kernel_rfl)) (fun _ _ _ h => h) (Or.inr ⟨by rfl, rfl⟩) ?_ ?_
         rotate_left
         ·simp only [Act.put, lS, lZ, lU, i64_w, i32_w]
          rfl
         refine pure_ (i := 12) (N := some 24) (v := undef) (a' := ?_) (msk 13 4) rfl rfl (any_of HT_.out (by kernel_rfl)) (fun _ _ _ h => h) (Or.inr ⟨by rfl, rfl⟩) ?_ ?_
         rotate_left
         ·simp only [Act.put, lS, lZ, lU, i64_w, i32_w]
          rfl
         refine pure_ (i := 13) (N := some 25) (v := undef) (a' := ?_) (msk 14 3) rfl rfl (any_of HT_.out (by kernel_rfl)) (fun _ _ _ h => h) (Or.inr ⟨by rfl, rfl⟩) ?_ ?_
         rotate_left
         ·simp only [Act.put, lS, lZ, lU, i64_w, i32_w]
          rfl
         refine pure_ (i := 14) (N := some 26) (v := undef) (a' := ?_) (msk 15 2) rfl rfl (any_of HT_.out (by kernel_rfl)) (fun _ _ _ h => h) (Or.inr ⟨by rfl, rfl⟩) ?_ ?_
         rotate_left
         ·simp only [Act.put, lS, lZ, lU, i64_w, i32_w]
          rfl
         refine pure_ (i := 15) (N := some 27) (v := ?_) (a' := ?_) (msk 16 1) rfl rfl (any_of HT_.out (by kernel_rfl)) (fun _ _ _ h => h) (Or.inl ⟨by rfl, ?_⟩) ?_ ?_
         rotate_left
         ·intro w'
          go_simp
          with_reducible rfl
         rotate_left
         ·simp only [Act.put, lS, lZ, lU, i64_w, i32_w]
          rfl
         refine pure_ (i := 16) (N := some 28) (v := ?_) (a' := ?_) (msk 17 0) rfl rfl (any_of HT_.out (by kernel_rfl)) (fun _ _ _ h => h) (Or.inl ⟨by rfl, ?_⟩) ?_ ?_
         rotate_left
         ·intro w'
          go_simp
          with_reducible rfl
         rotate_left
         ·simp only [Act.put, lS, lZ, lU, i64_w, i32_w]
          rfl
         refine done_ (done_of HT_.out (by kernel_rfl)) ?_
         try go_wp2
         go_meet
         case rel => exact ⟨_,(false),(by first|rfl|(simp;done)|(simp [*];done)),H',⟨by have:=HK1.out;first|omega|exact Nat.le_refl _⟩,⟨by (with_reducible repeat (first|refine bN ?_ _|refine bD ?_|refine bA ?_ _));exact BK429.out⟩,⟨by repeat (first|(with_reducible first|exact HB.out|apply wA|apply wN_|apply wD|refine wS ?_ GE429.out)|exact HB.out)⟩⟩
       ·replace c9 := Bool.eq_false_iff.mpr c9
        subst c9
        have H1 : (large_Right.j1 k1 l0 x7_1 l0 (l0.length : Int) x7_1 true ((rd_T29 l0 x7_1).f0) ((rd_T29 l0 x7_1).f1)) = some r := by rw [if_neg (show ¬ (false = true) by decide)] at H; exact H
        clear H
        have H := H1
        clear H1
        have H' := aM H
        clear H
        try go_wp2
        have n0_ : Aside0 (((w6.setCell ⟨gb429, 0, none⟩ (.int .i64 ((rd_T29 l0 x7_1).f0))).setCell ⟨gb429, 1, none⟩ (.int .i64 ((rd_T29 l0 x7_1).f1))).heap[gb429]? = some (.cells #[.int .i64 ((rd_T29 l0 x7_1).f0), .int .i64 ((rd_T29 l0 x7_1).f1)] 29 (0, 0))) := ⟨by (with_reducible repeat (first | refine bN ?_ _ | refine bD ?_ | refine bA ?_ _)); refine bP (cs := #[.int .i64 ((rd_T29 l0 x7_1).f0), .int .i64 0]) ?_ 1 _ rfl; (with_reducible repeat (first | refine bN ?_ _ | refine bD ?_ | refine bA ?_ _)); refine bP (cs := #[.int .i64 0, .int .i64 0]) ?_ 0 _ rfl; (with_reducible repeat (first | refine bN ?_ _ | refine bD ?_ | refine bA ?_ _)); exact BK429.out⟩
        have n1_ : Aside0 (Below w.heap.size w ((w6.setCell ⟨gb429, 0, none⟩ (.int .i64 ((rd_T29 l0 x7_1).f0))).setCell ⟨gb429, 1, none⟩ (.int .i64 ((rd_T29 l0 x7_1).f1)))) := ⟨by repeat (first | (with_reducible first | exact HB.out | apply wA | apply wN_ | apply wD | refine wS ?_ GE429.out) | exact HB.out)⟩
        (try clear BK429)
        (try clear HB)
        generalize ((w6.setCell ⟨gb429, 0, none⟩ (.int .i64 ((rd_T29 l0 x7_1).f0))).setCell ⟨gb429, 1, none⟩ (.int .i64 ((rd_T29 l0 x7_1).f1))) = w22 at n0_ n1_ ⊢
        have BK429 := n0_
        have HB := n1_
        clear n0_ n1_
        have n0_ := aM (bD BK429.out)
        have n1_ := aM (wD HB.out)
        clear BK429
        clear HB
        have BK429 := n0_
        have HB := n1_
        clear n0_ n1_
        refine start_ (n := 17) (S := fun w' => w'.cell? ⟨gb429, 0, none⟩ = some (.int .i64 ((rd_T29 l0 x7_1).f0)) ∧ w'.cell? ⟨gb429, 1, none⟩ = some (.int .i64 ((rd_T29 l0 x7_1).f1))) (ds := []) (msk 0 17) (by kernel_rfl) rfl rfl ⟨(bC BK429.out 0).trans rfl, (bC BK429.out 1).trans rfl⟩ (fun hHeld => ?_); refine with_tabW large_Right.tab4 large_Right.bits4 (fun HT_ HW_ => ?_)
        generalize w22.drew = w23 at BK429 HB hHeld ⊢
        refine take_ (i := 0) (N := some 12) (v := ?_) (a' := ?_) (msk 1 16) rfl rfl (take_ofW HT_.out HW_.out (by kernel_rfl)) (fun _ _ _ h => h) (Or.inl ⟨by rfl, ?_⟩) hHeld ?_ ?_
        rotate_left
        ·rintro w' ⟨s0, s1⟩
         go_simp
         with_reducible rfl
        rotate_left
        ·simp only [Act.put, lS, lZ, lU, i64_w, i32_w]
         rfl
        refine one_ (i := 1) (N := some 13) (msk 2 15) rfl rfl (one_of HT_.out (by kernel_rfl)) (by decide) (fun K hK => ?_)
        refine goes_ Try.func39 (by kernel_rfl) rfl #[.agg #[.int .i64 ((rd_T29 l0 x7_1).f0), .int .i64 ((rd_T29 l0 x7_1).f1)]] (by rfl) rfl rfl (by (try simp only [lM, lC, lN]); first | done | rfl | (simp only [lD, lT]; rfl)) ?_
        with_reducible refine (large_may.calls ((rd_T29 l0 x7_1).f0) ((rd_T29 l0 x7_1).f1) false _ A8.out).mono ?_
        rintro e w24 ⟨rfl, hb⟩
        refine ⟨_, rfl, ?_⟩
        have n0_ := aM (bB (g := gb429) (o := .cells #[.int .i64 ((rd_T29 l0 x7_1).f0), .int .i64 ((rd_T29 l0 x7_1).f1)] 29 (0, 0)) (by (with_reducible repeat (first | refine bN ?_ _ | refine bD ?_ | refine bA ?_ _)); exact BK429.out) hb)
        have n1_ := aM (wT (by repeat (first | (with_reducible first | exact HB.out | apply wA | apply wN_ | apply wD | refine wS ?_ GE429.out) | exact HB.out)) hb)
        clear BK429
        clear HB
        have BK429 := n0_
        have HB := n1_
        clear n0_ n1_
        (try clear hb)
        (try clear hb2)
        (try clear hk)
        (try clear hi)
        refine hK.out _ _ ⟨(bC BK429.out 0).trans rfl, (bC BK429.out 1).trans rfl⟩ (fun hHeld => ?_)
        clear hK K
        refine norm_ (a' := ?_) ?_ ?_
        rotate_left
        ·show Act.put _ (some 13) _ = _
         simp only [Act.put, lS, lZ, lU, i64_w, i32_w]
         rfl
        refine pure_ (i := 2) (N := some 14) (v := ?_) (a' := ?_) (msk 3 14) rfl rfl (any_of HT_.out (by kernel_rfl)) (fun _ _ _ h => h) (Or.inl ⟨by rfl, ?_⟩) ?_ ?_
        rotate_left
        ·intro w'
         go_simp
         with_reducible rfl
        rotate_left
        ·simp only [Act.put, lS, lZ, lU, i64_w, i32_w]
         rfl
        refine pure_ (i := 3) (N := some 15) (v := ?_) (a' := ?_) (msk 4 13) rfl rfl (any_of HT_.out (by kernel_rfl)) (fun _ _ _ h => h) (Or.inl ⟨by rfl, ?_⟩) ?_ ?_
        rotate_left
        ·intro w'
         go_simp
         with_reducible rfl
        rotate_left
        ·simp only [Act.put, lS, lZ, lU, i64_w, i32_w]
         rfl
        refine pure_ (i := 4) (N := some 16) (v := undef) (a' := ?_) (msk 5 12) rfl rfl (any_of HT_.out (by kernel_rfl)) (fun _ _ _ h => h) (Or.inr ⟨by rfl, rfl⟩) ?_ ?_
        rotate_left
        ·simp only [Act.put, lS, lZ, lU, i64_w, i32_w]
         rfl
        refine pure_ (i := 5) (N := some 17) (v := undef) (a' := ?_) (msk 6 11) rfl rfl (any_of HT_.out (by kernel_rfl)) (fun _ _ _ h => h) (Or.inr ⟨by rfl, rfl⟩) ?_ ?_
        rotate_left
        ·simp only [Act.put, lS, lZ, lU, i64_w, i32_w]
         rfl
        refine pure_ (i := 6) (N := some 18) (v := undef) (a' := ?_) (msk 7 10) rfl rfl (any_of HT_.out (by kernel_rfl)) (fun _ _ _ h => h) (Or.inr ⟨by rfl, rfl⟩) ?_ ?_
        rotate_left
        ·simp only [Act.put, lS, lZ, lU, i64_w, i32_w]
         rfl
        refine pure_ (i := 7) (N := some 19) (v := undef) (a' := ?_) (msk 8 9) rfl rfl (any_of HT_.out (by kernel_rfl)) (fun _ _ _ h => h) (Or.inr ⟨by rfl, rfl⟩) ?_ ?_
        rotate_left
        ·simp only [Act.put, lS, lZ, lU, i64_w, i32_w]
         rfl
        refine pure_ (i := 8) (N := some 20) (v := undef) (a' := ?_) (msk 9 8) rfl rfl (any_of HT_.out (by kernel_rfl)) (fun _ _ _ h => h) (Or.inr ⟨by rfl, rfl⟩) ?_ ?_
        rotate_left
        ·simp only [Act.put, lS, lZ, lU, i64_w, i32_w]
         rfl
        refine pure_ (i := 9) (N := some 21) (v := undef) (a' := ?_) (msk 10 7) rfl rfl (any_of HT_.out (by kernel_rfl)) (fun _ _ _ h => h) (Or.inr ⟨by rfl, rfl⟩) ?_ ?_
        rotate_left
        ·simp only [Act.put, lS, lZ, lU, i64_w, i32_w]
         rfl
        refine pure_ (i := 10) (N := some 22) (v := undef) (a' := ?_) (msk 11 6) rfl rfl (any_of HT_.out (by kernel_rfl)) (fun _ _ _ h => h) (Or.inr ⟨by rfl, rfl⟩) ?_ ?_
        rotate_left
        ·simp only [Act.put, lS, lZ, lU, i64_w, i32_w]
         rfl
        refine pure_ (i := 11) (N := some 23) (v := undef) (a' := ?_) (msk 12 5) rfl rfl (any_of HT_.out (by kernel_rfl)) (fun _ _ _ h => h) (Or.inr ⟨by rfl, rfl⟩) ?_ ?_
        rotate_left
        ·simp only [Act.put, lS, lZ, lU, i64_w, i32_w]
         rfl
        refine pure_ (i := 12) (N := some 24) (v := undef) (a' := ?_) (msk 13 4) rfl rfl (any_of HT_.out (by kernel_rfl)) (fun _ _ _ h => h) (Or.inr ⟨by rfl, rfl⟩) ?_ ?_
        rotate_left
        ·simp only [Act.put, lS, lZ, lU, i64_w, i32_w]
         rfl
        refine pure_ (i := 13) (N := some 25) (v := undef) (a' := ?_) (msk 14 3) rfl rfl (any_of HT_.out (by kernel_rfl)) (fun _ _ _ h => h) (Or.inr ⟨by rfl, rfl⟩) ?_ ?_
        rotate_left
        ·simp only [Act.put, lS, lZ, lU, i64_w, i32_w]
         rfl
        refine pure_ (i := 14) (N := some 26) (v := undef) (a' := ?_) (msk 15 2) rfl rfl (any_of HT_.out (by kernel_rfl)) (fun _ _ _ h => h) (Or.inr ⟨by rfl, rfl⟩) ?_ ?_
        rotate_left
        ·simp only [Act.put, lS, lZ, lU, i64_w, i32_w]
         rfl
        refine pure_ (i := 15) (N := some 27) (v := undef) (a' := ?_) (msk 16 1) rfl rfl (any_of HT_.out (by kernel_rfl)) (fun _ _ _ h => h) (Or.inr ⟨by rfl, rfl⟩) ?_ ?_
        rotate_left
        ·simp only [Act.put, lS, lZ, lU, i64_w, i32_w]
         rfl
        refine pure_ (i := 16) (N := some 28) (v := ?_) (a' := ?_) (msk 17 0) rfl rfl (any_of HT_.out (by kernel_rfl)) (fun _ _ _ h => h) (Or.inl ⟨by rfl, ?_⟩) ?_ ?_
        rotate_left
        ·intro w'
         go_simp
         with_reducible rfl
        rotate_left
        ·simp only [Act.put, lS, lZ, lU, i64_w, i32_w]
         rfl
        refine done_ (done_of HT_.out (by kernel_rfl)) ?_
        try go_wp2
        go_meet
        case rel => exact ⟨_,(true),(by first|rfl|(simp;done)|(simp [*];done)),H',⟨by have:=HK1.out;first|omega|exact Nat.le_refl _⟩,⟨by (with_reducible repeat (first|refine bN ?_ _|refine bD ?_|refine bA ?_ _));exact BK429.out⟩,⟨by repeat (first|(with_reducible first|exact HB.out|apply wA|apply wN_|apply wD|refine wS ?_ GE429.out)|exact HB.out)⟩⟩
      case rest =>
       clear HC5
       try clear c1
       try clear c2
       try clear c2b0
       try clear p2
       try clear c3
       try clear c3b0
       try clear c4
       try clear c4b0
       try clear p4
       try clear q4
       try clear hx4
       try clear p6
       try clear c9
       try clear c10
       try clear c10b0
       try clear c12
       try clear c12b0
       try clear c13
       try clear c13b0
       try clear hcz7_0
       try clear hcz7_1
       try clear hfz7_0
       try clear hfz7_1
       try clear hx428_0
       try clear hx428_1
       try clear hx431_0
       try clear hx431_1
       try clear p428
       try clear p431
       try clear q428
       try clear q431
       obtain ⟨kq, x28_4, rfl, HA, HJ4, BK429, HB⟩ := hcut
       cases kq with
       | zero => exact absurd HA.out (by simp [large_Right.j1])
       | succ kj4 =>
        have H := HA.out
        clear HA
        simp only [large_Right.j1] at H
        by_cases c25 : x28_4 = true
        ·subst c25
         have H1 : (some false) = some r := by rw [if_pos rfl] at H; exact H
         clear H
         have H := H1
         clear H1
         obtain rfl := Option.some.inj H
         go_wp2
         go_ret
         exact ⟨by first | rfl | (simp [errW_none, errW_some] <;> rfl) | (simp [*, errW_none, errW_some] <;> rfl), by repeat (first | (with_reducible first | exact HB.out | apply wA | apply wN_ | apply wD | refine wS ?_ GE429.out) | exact HB.out)⟩
        ·replace c25 := Bool.eq_false_iff.mpr c25
         subst c25
         have H1 : (if 0 ≤ x7_1 then (if x7_1 ≤ (l0.length : Int) then ((api_Big_40_61.f (l0.take (x7_1 : Int).toNat) ((rd_T29 l0 x7_1).f0) ((rd_T29 l0 x7_1).f1)).bind fun t437 => (if t437 = true then (some false) else (large_Right.l0 kj4 l0 l0 (l0.length : Int) (wrap64 (x7_1 + 1))))) else (none)) else (none)) = some r := by rw [if_neg (show ¬ (false = true) by decide)] at H; exact H
         clear H
         have H := H1
         clear H1
         by_cases c26 : 0 ≤ x7_1
         ·rw [if_pos c26] at H
          have c26b0 := eq_true c26
          have c26b1 : decide (0 ≤ x7_1) = true := decide_eq_true c26
          clear c26
          by_cases c27 : x7_1 ≤ (l0.length : Int)
          ·rw [if_pos c27] at H
           have c27b0 := eq_true c27
           have c27b1 : decide (x7_1 ≤ (l0.length : Int)) = true := decide_eq_true c27
           clear c27
           obtain ⟨y433, hy433⟩ : ∃ y_ : List (S29), y_ = (l0.take (x7_1 : Int).toNat) := ⟨_, rfl⟩
           replace H : ((api_Big_40_61.f y433 ((rd_T29 l0 x7_1).f0) ((rd_T29 l0 x7_1).f1)).bind fun t437 => (if t437 = true then (some false) else (large_Right.l0 kj4 l0 l0 (l0.length : Int) (wrap64 (x7_1 + 1))))) = some r := by first | (rw [hy433]; with_reducible exact H) | (have H2_ := (Option.bind_some _ _).symm.trans H; rw [hy433]; with_reducible exact H2_) | (have H2_ := (Option.bind_some _ _).symm.trans H; with_reducible exact H2_) | with_reducible exact H | (rw [hy433]; exact H) | exact H
           have Ny433 := aM hy433
           clear hy433
           replace H := Option.bind_eq_some_iff.mp H
           obtain ⟨t437, A280, H⟩ := H
           replace H : (if t437 = true then (some false) else (large_Right.l0 kj4 l0 l0 (l0.length : Int) (wrap64 (x7_1 + 1)))) = some r := H
           have A28 := aM A280
           clear A280
           by_cases c29 : t437 = true
           ·subst c29
            have H1 : (some false) = some r := by rw [if_pos rfl] at H; exact H
            clear H
            have H := H1
            clear H1
            obtain rfl := Option.some.inj H
            have q30 : (x7_1 : Int) ≤ ((l0.length : Int) : Int) := oD (by first | (with_reducible assumption) | assumption)
            obtain ⟨i030, hi030, _, hsz30, _⟩ := info_parts info29
            have hroom30 : l0.length ≤ c0 := HC0.out
            have hC30 : Kd.C k29 _ (some ad428) l0.length l0 := HR0.out
            have hcut30 := cut_to (P := Try.prog) 23 29 .i64 Try.underlying23 hi030 (some ad428) l0.length c0 x7_1 (oD (by first | (with_reducible assumption) | assumption)) q30 hroom30
            have hr30 := Kd.C_take (m := (x7_1 : Int).toNat) hC30 (by omega)
            have hy30 : y433.length = (x7_1 : Int).toNat := (by rw [Ny433.out, lT]; omega)
            rw [← Ny433.out] at hr30
            rw [← hy30] at hcut30
            have HR436 := aM hr30
            have HC436 := aM (show y433.length ≤ c0 from by omega)
            clear hr30 hC30 hroom30 hi030 hsz30
            have KY30 := aM hy30
            clear hy30
            replace q30 := eq_true q30
            go_wp2_with (first|((with_reducible refine gate_callee (f:=40) rfl ?_);refine goesL_ (some 33) rfl rfl Try.func40 (by kernel_rfl) rfl #[.slice (some ad428) y433.length c0,.func (.func 61) #[] #[.pointer (some ⟨gb429,0,none⟩)]] rfl (by (try simp only [lM,lC,lN]);first|done|rfl|(simp only [lD,lT];rfl)) ?_;(with_reducible refine (api_Big_40_61.calls _ _ y433 gb429 ((rd_T29 l0 x7_1).f0) ((rd_T29 l0 x7_1).f1) true _ ?side1 ?side2 ?side3 A28.out).mono ?_);(case side1 => repeat (first|exact (cB HR436.out HB.out)|(with_reducible refine cA ?_ _)|(with_reducible refine cN ?_ _)|(with_reducible refine cD ?_)));(case side2 => exact HC436.out);(case side3 => (with_reducible repeat (first|refine bN ?_ _|refine bD ?_|refine bA ?_ _));exact BK429.out);rintro e w31 ⟨rfl,hb⟩;refine ⟨_,rfl,?_⟩;have n0_:=aM (bB (g:=gb429) (o:=.cells #[.int .i64 ((rd_T29 l0 x7_1).f0),.int .i64 ((rd_T29 l0 x7_1).f1)] 29 (0,0)) (by (with_reducible repeat (first|refine bN ?_ _|refine bD ?_|refine bA ?_ _));exact BK429.out) hb);have n1_:=aM (wT (by repeat (first|(with_reducible first|exact HB.out|apply wA|apply wN_|apply wD|refine wS ?_ GE429.out)|exact HB.out)) hb);clear BK429;clear HB;have BK429:=n0_;have HB:=n1_;clear n0_ n1_;(try clear hb);(try clear hb2);(try clear hk);(try clear hi)))
            go_ret
            exact ⟨by first | rfl | (simp [errW_none, errW_some] <;> rfl) | (simp [*, errW_none, errW_some] <;> rfl), by repeat (first | (with_reducible first | exact HB.out | apply wA | apply wN_ | apply wD | refine wS ?_ GE429.out) | exact HB.out)⟩
           ·replace c29 := Bool.eq_false_iff.mpr c29
            subst c29
            have H1 : (large_Right.l0 kj4 l0 l0 (l0.length : Int) (wrap64 (x7_1 + 1))) = some r := by rw [if_neg (show ¬ (false = true) by decide)] at H; exact H
            clear H
            have H := H1
            clear H1
            have H' := aM H
            clear H
            have q32 : (x7_1 : Int) ≤ ((l0.length : Int) : Int) := oD (by first | (with_reducible assumption) | assumption)
            obtain ⟨i032, hi032, _, hsz32, _⟩ := info_parts info29
            have hroom32 : l0.length ≤ c0 := HC0.out
            have hC32 : Kd.C k29 _ (some ad428) l0.length l0 := HR0.out
            have hcut32 := cut_to (P := Try.prog) 23 29 .i64 Try.underlying23 hi032 (some ad428) l0.length c0 x7_1 (oD (by first | (with_reducible assumption) | assumption)) q32 hroom32
            have hr32 := Kd.C_take (m := (x7_1 : Int).toNat) hC32 (by omega)
            have hy32 : y433.length = (x7_1 : Int).toNat := (by rw [Ny433.out, lT]; omega)
            rw [← Ny433.out] at hr32
            rw [← hy32] at hcut32
            have HR436 := aM hr32
            have HC436 := aM (show y433.length ≤ c0 from by omega)
            clear hr32 hC32 hroom32 hi032 hsz32
            have KY32 := aM hy32
            clear hy32
            replace q32 := eq_true q32
            go_wp2_with (first|((with_reducible refine gate_callee (f:=40) rfl ?_);refine goesL_ (some 33) rfl rfl Try.func40 (by kernel_rfl) rfl #[.slice (some ad428) y433.length c0,.func (.func 61) #[] #[.pointer (some ⟨gb429,0,none⟩)]] rfl (by (try simp only [lM,lC,lN]);first|done|rfl|(simp only [lD,lT];rfl)) ?_;(with_reducible refine (api_Big_40_61.calls _ _ y433 gb429 ((rd_T29 l0 x7_1).f0) ((rd_T29 l0 x7_1).f1) false _ ?side1 ?side2 ?side3 A28.out).mono ?_);(case side1 => repeat (first|exact (cB HR436.out HB.out)|(with_reducible refine cA ?_ _)|(with_reducible refine cN ?_ _)|(with_reducible refine cD ?_)));(case side2 => exact HC436.out);(case side3 => (with_reducible repeat (first|refine bN ?_ _|refine bD ?_|refine bA ?_ _));exact BK429.out);rintro e w33 ⟨rfl,hb⟩;refine ⟨_,rfl,?_⟩;have n0_:=aM (bB (g:=gb429) (o:=.cells #[.int .i64 ((rd_T29 l0 x7_1).f0),.int .i64 ((rd_T29 l0 x7_1).f1)] 29 (0,0)) (by (with_reducible repeat (first|refine bN ?_ _|refine bD ?_|refine bA ?_ _));exact BK429.out) hb);have n1_:=aM (wT (by repeat (first|(with_reducible first|exact HB.out|apply wA|apply wN_|apply wD|refine wS ?_ GE429.out)|exact HB.out)) hb);clear BK429;clear HB;have BK429:=n0_;have HB:=n1_;clear n0_ n1_;(try clear hb);(try clear hb2);(try clear hk);(try clear hi)))
            go_roundg kj4
            case measure => have:=HK1.out;have:=HJ4.out;omega
            case rel => exact ⟨(wrap64 (x7_1 + 1)),(by first|rfl|(simp;done)|(simp [*];done)),H',⟨by have:=HK1.out;have:=HJ4.out;omega⟩,⟨by repeat (first|(with_reducible first|exact HB.out|apply wA|apply wN_|apply wD|refine wS ?_ GE429.out)|exact HB.out)⟩⟩
          ·rw [if_neg c27] at H
           exact absurd H (by simp)
         ·rw [if_neg c26] at H
          exact absurd H (by simp)
     ·rw [if_neg c4] at H
      exact absurd H (by simp)
    ·rw [if_neg c3] at H
     exact absurd H (by simp)
   ·rw [if_neg c2] at H
    have c2b0 : decide (x7_1 < (l0.length : Int)) = false := decide_eq_false c2
    clear c2
    obtain rfl := Option.some.inj H
    go_wp2
    go_ret
    exact ⟨by first | rfl | (simp [errW_none, errW_some] <;> rfl) | (simp [*, errW_none, errW_some] <;> rfl), by repeat (first | (with_reducible first | exact HB.out | apply wA | apply wN_ | apply wD) | exact HB.out)⟩

end Go.Proofs.Ytflhbakjlbmfbaa.Pr
