-- Printed by a program of this session (wip/tools/myprint.py) that runs the kit's print with contracts of this session's own.
import Derived.Test.YthbknmblehecaaaPrx0
import Derived.Test.YthbknmblehecaaaShort
import Derived.Test.YthbknmblehecaaaWTab
import Derived.Test.YthbknmblehecaaaScope
import Derived.Test.YthbknmblehecaaaPrx3
namespace Go.Proofs.Ythbknmblehecaaa.Pr
open Go.RowKit Go.Proofs.YthbknmblehecaaaW.PrintWords Go.Proofs.YthbknmblehecaaaW.PrintLast Go.Proofs.YthbknmblehecaaaW.PrintMore
attribute [local go_sem] max2_int min2_int max_two min_two max_three min_three max_four min_four   -- for this text's walks alone
set_option linter.unusedVariables false
set_option linter.unusedSimpArgs false

/-! ### runs_Right: function 24 -/
mutual
def runs_Right.j0 : Nat → List (S32) → Int → Bool → Option (Bool)
 | 0, _, _, _ => none
 | k + 1, x0, x1, x12 => if x12 = true then (some false) else (runs_Right.l0 k x0 x1 x0 (x0.length : Int) 0)
def runs_Right.l0 : Nat → List (S32) → Int → List (S32) → Int → Int → Option (Bool)
 | 0, _, _, _, _, _ => none
 | k + 1, x0, x1, x13, x14, x15 => if x15 < x14 then (if 0 ≤ x15 then (if x15 < (x13.length : Int) then ((runs_within.f ((rd_T32 x13 x15).f0) ((rd_T32 x13 x15).f1) x1).bind fun t349 => (if t349 = true then (if x15 > 0 then (if 0 ≤ (wrap64 (x15 - 1)) then (if (wrap64 (x15 - 1)) < (x0.length : Int) then ((runs_end.f ((rd_T32 x0 (wrap64 (x15 - 1))).f0) ((rd_T32 x0 (wrap64 (x15 - 1))).f1)).bind fun t351 => (if ((rd_T32 x13 x15).f0) ≤ t351 then (some false) else (runs_Right.l0 k x0 x1 x13 x14 (wrap64 (x15 + 1))))) else (none)) else (none)) else (runs_Right.l0 k x0 x1 x13 x14 (wrap64 (x15 + 1)))) else (some false))) else (none)) else (none)) else (some true)
end
def runs_Right.f (k : Nat) (l0 : List (S32)) (a1 : Int) : Option (Bool) := if a1 < 0 then (runs_Right.j0 k l0 a1 true) else (runs_Right.j0 k l0 a1 (decide (a1 > 256)))
theorem runs_Right.mono_l : ∀ k, (∀ y0 y1 y2, LeO (runs_Right.j0 k y0 y1 y2) (runs_Right.j0 (k + 1) y0 y1 y2)) ∧ (∀ y0 y1 y2 y3 y4, LeO (runs_Right.l0 k y0 y1 y2 y3 y4) (runs_Right.l0 (k + 1) y0 y1 y2 y3 y4))
 | 0 => ⟨fun _ _ _ r h => by simp [runs_Right.j0] at h, fun _ _ _ _ _ r h => by simp [runs_Right.l0] at h⟩
 | k + 1 => by
  obtain ⟨ih0, ih1⟩ := runs_Right.mono_l k
  refine ⟨?_, ?_⟩
  ·intro y0 y1 y2
   unfold runs_Right.j0
   repeat' first
   | (with_reducible exact ih0 _ _ _)
   | (with_reducible exact ih1 _ _ _ _ _)
   | (with_reducible exact LeO.refl _)
   | (with_reducible exact LeO.none _)
   | (with_reducible refine LeO.ite ?_ ?_)
   | (with_reducible refine LeO.bind ?_ (fun _ => ?_))
   | exact ih0 _ _ _
   | exact ih1 _ _ _ _ _
   | exact LeO.none _
   | refine LeO.ite ?_ ?_
   | refine LeO.bind ?_ (fun _ => ?_)
  ·intro y0 y1 y2 y3 y4
   unfold runs_Right.l0
   repeat' first
   | (with_reducible exact ih0 _ _ _)
   | (with_reducible exact ih1 _ _ _ _ _)
   | (with_reducible exact LeO.refl _)
   | (with_reducible exact LeO.none _)
   | (with_reducible refine LeO.ite ?_ ?_)
   | (with_reducible refine LeO.bind ?_ (fun _ => ?_))
   | exact ih0 _ _ _
   | exact ih1 _ _ _ _ _
   | exact LeO.none _
   | refine LeO.ite ?_ ?_
   | refine LeO.bind ?_ (fun _ => ?_)
theorem runs_Right.mono : ∀ a0 a1 k, LeO (runs_Right.f k a0 a1) (runs_Right.f (k + 1) a0 a1) := by
 intro a0 a1 k
 obtain ⟨ih0, ih1⟩ := runs_Right.mono_l k
 unfold runs_Right.f
 repeat' first
   | (with_reducible exact ih0 _ _ _)
   | (with_reducible exact ih1 _ _ _ _ _)
   | (with_reducible exact LeO.refl _)
   | (with_reducible exact LeO.none _)
   | (with_reducible refine LeO.ite ?_ ?_)
   | (with_reducible refine LeO.bind ?_ (fun _ => ?_))
   | exact ih0 _ _ _
   | exact ih1 _ _ _ _ _
   | exact LeO.none _
   | refine LeO.ite ?_ ?_
   | refine LeO.bind ?_ (fun _ => ?_)
def runs_Right.T6 : Bool × List (List Nat × List Nat) := (true, [([], []), ([], []), ([0, 1], [0, 1]), ([2], [2]), ([3, 2], [3]), ([4], [4]), ([5, 4], [4, 5]), ([6, 4, 4], [4, 6]), ([7], [7]), ([8, 7], [7, 8]), ([7], [7]), ([7], [7]), ([11, 7], [7, 11]), ([10, 12, 7], [7, 10, 12]), ([13, 7], [7, 13]), ([14, 7, 7], [7, 14]), ([9, 15, 7], [7, 9, 15]), ([7, 16, 4], [4, 7, 16]), ([4, 17], [4, 17])])
def runs_Right.B6 : List Nat := [0, 0, 3, 7, 15, 31, 63, 127, 255, 511, 255, 255, 2303, 7423, 15615, 31999, 65535, 131071, 262143]
theorem runs_Right.tab6 : rtab .any (opsOf Try.f24 6) = runs_Right.T6 := by kernel_rfl
theorem runs_Right.bits6 : waitsOk runs_Right.T6.2 runs_Right.B6 = true := by kernel_rfl
set_option maxHeartbeats 8000000 in
set_option maxRecDepth 100000 in
theorem runs_Right.calls (k : Nat) (A0 : Option Addr) (c0 : Nat) (l0 : List (S32)) (a1 : Int) (r : Bool) (w : World) (hr0 : Kd.C k32 w A0 l0.length l0) (hc0 : l0.length ≤ c0) (h : runs_Right.f k l0 a1 = some r) :
  Calls Try.prog 24 #[.slice A0 l0.length c0, .int .i64 a1] w fun e w' => e = .returned (.bool r) ∧ Below w.heap.size w w' := by
 have hu32 := Try.underlying32
 have HR0 := aM hr0
 have HC0 := aM hc0
 clear hr0 hc0
 have HB := aM (Below.refl w.heap.size w)
 have H : (if a1 < 0 then (runs_Right.j0 k l0 a1 true) else (runs_Right.j0 k l0 a1 (decide (a1 > 256)))) = some r := h
 clear h
 have HC3 := aM H
 clear H
 go_enter Try.func24, Try.ntmps24
 go_upto_region 1 with (fail)
 go_cut [12] (fun v12 wc => ∃ (kq : Nat) (x12_2 : Bool), v12 = .bool x12_2 ∧ Aside0 (runs_Right.j0 kq l0 a1 x12_2 = some r) ∧ Aside0 (kq ≤ k) ∧ Aside0 (Below w.heap.size w wc))
 case first =>
  have H := HC3.out
  clear HC3
  by_cases c4 : a1 < 0
  ·rw [if_pos c4] at H
   have c4b0 : decide (a1 < 0) = true := decide_eq_true c4
   clear c4
   (first | rw [c4b0] | (simp only [i64_w, i32_w]; rw [c4b0]) | skip)
   have H' := aM H
   clear H
   go_wp2
   go_meet
   case rel => exact ⟨_,(true),(by first|rfl|(simp;done)|(simp [*];done)),H',⟨by first|omega|exact Nat.le_refl _⟩,⟨by repeat (first|(with_reducible first|exact HB.out|apply wA|apply wN_|apply wD)|exact HB.out)⟩⟩
  ·rw [if_neg c4] at H
   have c4b0 : decide (a1 < 0) = false := decide_eq_false c4
   clear c4
   (first | rw [c4b0] | (simp only [i64_w, i32_w]; rw [c4b0]) | skip)
   have H' := aM H
   clear H
   go_wp2
   go_meet
   case rel => exact ⟨_,(decide (a1 > 256)),(by first|rfl|(simp;done)|(simp [*];done)),H',⟨by first|omega|exact Nat.le_refl _⟩,⟨by repeat (first|(with_reducible first|exact HB.out|apply wA|apply wN_|apply wD)|exact HB.out)⟩⟩
 case rest =>
  clear HC3
  try clear c2
  try clear p2
  try clear c4
  try clear c4b0
  obtain ⟨kq, x12_2, rfl, HA, HJ2, HB⟩ := hcut
  cases kq with
  | zero => exact absurd HA.out (by simp [runs_Right.j0])
  | succ kj2 =>
   have H := HA.out
   clear HA
   simp only [runs_Right.j0] at H
   by_cases c5 : x12_2 = true
   ·subst c5
    have H1 : (some false) = some r := by rw [if_pos rfl] at H; exact H
    clear H
    have H := H1
    clear H1
    obtain rfl := Option.some.inj H
    go_wp2
    go_ret
    exact ⟨by first | rfl | (simp [errW_none, errW_some] <;> rfl) | (simp [*, errW_none, errW_some] <;> rfl), by repeat (first | (with_reducible first | exact HB.out | apply wA | apply wN_ | apply wD) | exact HB.out)⟩
   ·replace c5 := Bool.eq_false_iff.mpr c5
    subst c5
    have H1 : (runs_Right.l0 kj2 l0 a1 l0 (l0.length : Int) 0) = some r := by rw [if_neg (show ¬ (false = true) by decide)] at H; exact H
    clear H
    have H := H1
    clear H1
    have H' := aM H
    clear H
    go_wp2
    go_loopg [15] kj2 (fun kq v15 w' => ∃ (x15_2 : Int), v15 = .int .i64 x15_2 ∧ Aside0 (runs_Right.l0 kq l0 a1 l0 (l0.length : Int) x15_2 = some r) ∧ Aside0 (kq ≤ kj2) ∧ Aside0 (Below w.heap.size w w'))
    case atStart => exact ⟨(0),(by first|rfl|(simp;done)|(simp [*];done)),H',⟨Nat.le_refl _⟩,⟨by repeat (first|(with_reducible first|exact HB.out|apply wA|apply wN_|apply wD)|exact HB.out)⟩⟩
    case round =>
     clear H'
     try clear c2
     try clear p2
     try clear c4
     try clear c4b0
     try clear c5
     try clear p2
     obtain ⟨x15_2, rfl, HA, HK2, HB⟩ := hrel
     cases gk with
     | zero => exact absurd HA.out (by simp [runs_Right.l0])
     | succ k2 =>
      have H := HA.out
      clear HA
      simp only [runs_Right.l0] at H
      by_cases c6 : x15_2 < (l0.length : Int)
      ·rw [if_pos c6] at H
       have c6b0 : decide (x15_2 < (l0.length : Int)) = true := decide_eq_true c6
       clear c6
       by_cases c7 : 0 ≤ x15_2
       ·rw [if_pos c7] at H
        have c7b0 : decide (0 ≤ x15_2) = true := decide_eq_true c7
        clear c7
        by_cases c8 : x15_2 < (l0.length : Int)
        ·rw [if_pos c8] at H
         have c8b0 : decide (x15_2 < (l0.length : Int)) = true := decide_eq_true c8
         clear c8
         replace H := Option.bind_eq_some_iff.mp H
         obtain ⟨t349, A90, H⟩ := H
         replace H : (if t349 = true then (if x15_2 > 0 then (if 0 ≤ (wrap64 (x15_2 - 1)) then (if (wrap64 (x15_2 - 1)) < (l0.length : Int) then ((runs_end.f ((rd_T32 l0 (wrap64 (x15_2 - 1))).f0) ((rd_T32 l0 (wrap64 (x15_2 - 1))).f1)).bind fun t351 => (if ((rd_T32 l0 x15_2).f0) ≤ t351 then (some false) else (runs_Right.l0 k2 l0 a1 l0 (l0.length : Int) (wrap64 (x15_2 + 1))))) else (none)) else (none)) else (runs_Right.l0 k2 l0 a1 l0 (l0.length : Int) (wrap64 (x15_2 + 1)))) else (some false)) = some r := H
         have A9 := aM A90
         clear A90
         by_cases c10 : t349 = true
         ·subst c10
          have H1 : (if x15_2 > 0 then (if 0 ≤ (wrap64 (x15_2 - 1)) then (if (wrap64 (x15_2 - 1)) < (l0.length : Int) then ((runs_end.f ((rd_T32 l0 (wrap64 (x15_2 - 1))).f0) ((rd_T32 l0 (wrap64 (x15_2 - 1))).f1)).bind fun t351 => (if ((rd_T32 l0 x15_2).f0) ≤ t351 then (some false) else (runs_Right.l0 k2 l0 a1 l0 (l0.length : Int) (wrap64 (x15_2 + 1))))) else (none)) else (none)) else (runs_Right.l0 k2 l0 a1 l0 (l0.length : Int) (wrap64 (x15_2 + 1)))) = some r := by rw [if_pos rfl] at H; exact H
          clear H
          have H := H1
          clear H1
          by_cases c11 : x15_2 > 0
          ·rw [if_pos c11] at H
           have c11b0 : decide (0 < x15_2) = true := decide_eq_true c11
           clear c11
           obtain ⟨ji12, hji12⟩ : ∃ j_ : Int, (wrap64 (x15_2 - 1)) = j_ := ⟨_, rfl⟩
           replace H : (if 0 ≤ (ji12) then (if (ji12) < (l0.length : Int) then ((runs_end.f ((rd_T32 l0 (ji12)).f0) ((rd_T32 l0 (ji12)).f1)).bind fun t351 => (if ((rd_T32 l0 x15_2).f0) ≤ t351 then (some false) else (runs_Right.l0 k2 l0 a1 l0 (l0.length : Int) (wrap64 (x15_2 + 1))))) else (none)) else (none)) = some r := by first | (rw [hji12] at H; exact H) | (simp only [hji12] at H ⊢; exact H)
           (try rw [hji12] at A9)
           have hji12w : (IntKind.i64.wrap (x15_2 - 1)) = ji12 := (i64_w _).trans hji12
           by_cases c13 : 0 ≤ (ji12)
           ·rw [if_pos c13] at H
            have c13b0 : decide (0 ≤ (ji12)) = true := decide_eq_true c13
            clear c13
            by_cases c14 : (ji12) < (l0.length : Int)
            ·rw [if_pos c14] at H
             have c14b0 : decide ((ji12) < (l0.length : Int)) = true := decide_eq_true c14
             clear c14
             replace H := Option.bind_eq_some_iff.mp H
             obtain ⟨t351, A150, H⟩ := H
             replace H : (if ((rd_T32 l0 x15_2).f0) ≤ t351 then (some false) else (runs_Right.l0 k2 l0 a1 l0 (l0.length : Int) (wrap64 (x15_2 + 1)))) = some r := H
             have A15 := aM A150
             clear A150
             by_cases c16 : ((rd_T32 l0 x15_2).f0) ≤ t351
             ·rw [if_pos c16] at H
              have c16b0 : decide (((rd_T32 l0 x15_2).f0) ≤ t351) = true := decide_eq_true c16
              clear c16
              obtain rfl := Option.some.inj H
              have p347 : 0 ≤ (x15_2 : Int) := oD (by first | (with_reducible assumption) | assumption)
              have q347 : x15_2 < (l0.length : Int) := oD (by first | (with_reducible assumption) | assumption)
              obtain ⟨ad347, e347, hx347_0, hx347_1⟩ := at_T32 HR0.out x15_2 p347 q347
              cases e347
              replace hx347_0 := (HB.out.cell (wL w _ hx347_0)).trans hx347_0
              replace hx347_1 := (HB.out.cell (wL w _ hx347_1)).trans hx347_1
              replace p347 := eq_true p347
              replace q347 := eq_true q347
              try go_wp2_with (first|((with_reducible refine gate_dst (N:=6) rfl ?_);refine box_event ?hg (N:=6) ?hd (cs:=#[.int .i64 0,.int .i64 0]) (t:=32) ?hr ?_;(case hd => rfl);(case hg => rfl);(case hr => first|(go_simp;done)|(go_simp;rfl));intro gb348 hg w17 hbox hb;have n0_:=aM (wT (by repeat (first|(with_reducible first|exact HB.out|apply wA|apply wN_|apply wD)|exact HB.out)) hb);have n1_:=aM (hbox);have n2_:=aM ((by rw [hg];exact (wZ (by repeat (first|(with_reducible first|exact HB.out|apply wA|apply wN_|apply wD)|exact HB.out))) : w.heap.size ≤ gb348));have n3_:=aM ((by rw [hg];exact (wZ (by repeat (first|(with_reducible first|exact HB.out|apply wA|apply wN_|apply wD)|exact HB.out))) : w.heap.size ≤ gb348));clear HB;have HB:=n0_;have BK348:=n1_;have GW348:=n2_;have GE348:=n3_;clear n0_ n1_ n2_ n3_;clear hb hbox hg;have hcz18_0 : w17.cell? ⟨gb348,0,none⟩ = some (.int .i64 0):=(bC BK348.out 0).trans rfl;have hcz18_1 : w17.cell? ⟨gb348,1,none⟩ = some (.int .i64 0):=(bC BK348.out 1).trans rfl;have hfz18_0:=bF BK348.out 0;have hfz18_1:=bF BK348.out 1))
              have n0_ : Aside0 (((w17.setCell ⟨gb348, 0, none⟩ (.int .i64 ((rd_T32 l0 x15_2).f0))).setCell ⟨gb348, 1, none⟩ (.int .i64 ((rd_T32 l0 x15_2).f1))).heap[gb348]? = some (.cells #[.int .i64 ((rd_T32 l0 x15_2).f0), .int .i64 ((rd_T32 l0 x15_2).f1)] 32 (0, 0))) := ⟨by (with_reducible repeat (first | refine bN ?_ _ | refine bD ?_ | refine bA ?_ _)); refine bP (cs := #[.int .i64 ((rd_T32 l0 x15_2).f0), .int .i64 0]) ?_ 1 _ rfl; (with_reducible repeat (first | refine bN ?_ _ | refine bD ?_ | refine bA ?_ _)); refine bP (cs := #[.int .i64 0, .int .i64 0]) ?_ 0 _ rfl; (with_reducible repeat (first | refine bN ?_ _ | refine bD ?_ | refine bA ?_ _)); exact BK348.out⟩
              have n1_ : Aside0 (Below w.heap.size w ((w17.setCell ⟨gb348, 0, none⟩ (.int .i64 ((rd_T32 l0 x15_2).f0))).setCell ⟨gb348, 1, none⟩ (.int .i64 ((rd_T32 l0 x15_2).f1)))) := ⟨by repeat (first | (with_reducible first | exact HB.out | apply wA | apply wN_ | apply wD | refine wS ?_ GE348.out) | exact HB.out)⟩
              (try clear BK348)
              (try clear HB)
              generalize ((w17.setCell ⟨gb348, 0, none⟩ (.int .i64 ((rd_T32 l0 x15_2).f0))).setCell ⟨gb348, 1, none⟩ (.int .i64 ((rd_T32 l0 x15_2).f1))) = w19 at n0_ n1_ ⊢
              have BK348 := n0_
              have HB := n1_
              clear n0_ n1_
              have n0_ := aM (bD BK348.out)
              have n1_ := aM (wD HB.out)
              clear BK348
              clear HB
              have BK348 := n0_
              have HB := n1_
              clear n0_ n1_
              have p350 : 0 ≤ ((ji12) : Int) := oD (by first | (with_reducible assumption) | assumption)
              have q350 : (ji12) < (l0.length : Int) := oD (by first | (with_reducible assumption) | assumption)
              obtain ⟨ad350, e350, hx350_0, hx350_1⟩ := at_T32 HR0.out (ji12) p350 q350
              have hw350_1 := hx350_1
              have hw350_0 := hx350_0
              obtain rfl : ad347 = ad350 := (by injection e350)
              replace hx350_0 := (HB.out.cell (wL w _ hx350_0)).trans hx350_0
              replace hx350_1 := (HB.out.cell (wL w _ hx350_1)).trans hx350_1
              replace p350 := eq_true p350
              replace q350 := eq_true q350
              refine start_ (n := 19) (S := fun w' => w'.cell? ⟨gb348, 0, none⟩ = some (.int .i64 ((rd_T32 l0 x15_2).f0)) ∧ w'.cell? ⟨gb348, 1, none⟩ = some (.int .i64 ((rd_T32 l0 x15_2).f1)) ∧ w'.cell? (ad347.add (((ji12)).toNat * 2)) = some (.int .i64 ((rd_T32 l0 (ji12)).f0)) ∧ w'.cell? ⟨(ad347.add (((ji12)).toNat * 2)).block, (ad347.add (((ji12)).toNat * 2)).off + 1, none⟩ = some (.int .i64 ((rd_T32 l0 (ji12)).f1))) (ds := []) (msk 0 19) (by kernel_rfl) rfl rfl ⟨(bC BK348.out 0).trans rfl, (bC BK348.out 1).trans rfl, ((HB.out.cell (wL w _ hw350_0)).trans hw350_0), ((HB.out.cell (wL w _ hw350_1)).trans hw350_1)⟩ (fun hHeld => ?_); refine with_tabW runs_Right.tab6 runs_Right.bits6 (fun HT_ HW_ => ?_)
              generalize w19.drew = w20 at BK348 HB hx350_0 hx350_1 hHeld ⊢
              refine pure_ (i := 1) (N := some 21) (v := ?_) (a' := ?_) #[ff,tt,ff,ff,ff,ff,ff,ff,ff,ff,ff,ff,ff,ff,ff,ff,ff,ff,ff] rfl rfl (any_of HT_.out (by kernel_rfl)) (fun _ _ _ h => h) (Or.inl ⟨by rfl, ?_⟩) ?_ ?_
              rotate_left
              ·intro w'
               go_simp
               with_reducible rfl
              rotate_left
              ·simp only [Act.put, lS, lZ, lU, i64_w, i32_w]
               rfl
              refine take_ (i := 0) (N := some 20) (v := ?_) (a' := ?_) (msk 2 17) rfl rfl (take_ofW HT_.out HW_.out (by kernel_rfl)) (fun _ _ _ h => h) (Or.inl ⟨by rfl, ?_⟩) hHeld ?_ ?_
              rotate_left
              ·rintro w' ⟨s0, s1, s2, s3⟩
               go_simp
               with_reducible rfl
              rotate_left
              ·simp only [Act.put, lS, lZ, lU, i64_w, i32_w]
               rfl
              refine one_ (i := 2) (N := some 22) (msk 3 16) rfl rfl (one_of HT_.out (by kernel_rfl)) (by decide) (fun K hK => ?_)
              refine goes_ Try.func44 (by kernel_rfl) rfl #[.agg #[.int .i64 ((rd_T32 l0 x15_2).f0), .int .i64 ((rd_T32 l0 x15_2).f1)], .int .i64 a1] (by rfl) rfl rfl (by (try simp only [lM, lC, lN]); first | done | rfl | (simp only [lD, lT]; rfl)) ?_
              with_reducible refine (runs_within.calls ((rd_T32 l0 x15_2).f0) ((rd_T32 l0 x15_2).f1) a1 true _ A9.out).mono ?_
              rintro e w21 ⟨rfl, hb⟩
              refine ⟨_, rfl, ?_⟩
              have n0_ := aM (bB (g := gb348) (o := .cells #[.int .i64 ((rd_T32 l0 x15_2).f0), .int .i64 ((rd_T32 l0 x15_2).f1)] 32 (0, 0)) (by (with_reducible repeat (first | refine bN ?_ _ | refine bD ?_ | refine bA ?_ _)); exact BK348.out) hb)
              have n1_ := aM (wT (by repeat (first | (with_reducible first | exact HB.out | apply wA | apply wN_ | apply wD | refine wS ?_ GE348.out) | exact HB.out)) hb)
              clear BK348
              clear HB
              have BK348 := n0_
              have HB := n1_
              clear n0_ n1_
              (try clear hb)
              (try clear hb2)
              (try clear hk)
              (try clear hi)
              refine hK.out _ _ ⟨(bC BK348.out 0).trans rfl, (bC BK348.out 1).trans rfl, ((HB.out.cell (wL w _ hw350_0)).trans hw350_0), ((HB.out.cell (wL w _ hw350_1)).trans hw350_1)⟩ (fun hHeld => ?_)
              clear hK K
              refine norm_ (a' := ?_) ?_ ?_
              rotate_left
              ·show Act.put _ (some 22) _ = _
               simp only [Act.put, lS, lZ, lU, i64_w, i32_w]
               rfl
              refine pure_ (i := 3) (N := some 23) (v := ?_) (a' := ?_) (msk 4 15) rfl rfl (any_of HT_.out (by kernel_rfl)) (fun _ _ _ h => h) (Or.inl ⟨by rfl, ?_⟩) ?_ ?_
              rotate_left
              ·intro w'
               go_simp
               with_reducible rfl
              rotate_left
              ·simp only [Act.put, lS, lZ, lU, i64_w, i32_w]
               rfl
              refine pure_ (i := 4) (N := some 24) (v := ?_) (a' := ?_) (msk 5 14) rfl rfl (any_of HT_.out (by kernel_rfl)) (fun _ _ _ h => h) (Or.inl ⟨by rfl, ?_⟩) ?_ ?_
              rotate_left
              ·intro w'
               go_simp
               with_reducible rfl
              rotate_left
              ·simp only [Act.put, lS, lZ, lU, i64_w, i32_w]
               rfl
              refine pure_ (i := 5) (N := some 25) (v := ?_) (a' := ?_) (msk 6 13) rfl rfl (any_of HT_.out (by kernel_rfl)) (fun _ _ _ h => h) (Or.inl ⟨by rfl, ?_⟩) ?_ ?_
              rotate_left
              ·intro w'
               go_simp
               with_reducible rfl
              rotate_left
              ·simp only [Act.put, lS, lZ, lU, i64_w, i32_w]
               rfl
              refine pure_ (i := 6) (N := some 26) (v := ?_) (a' := ?_) (msk 7 12) rfl rfl (any_of HT_.out (by kernel_rfl)) (fun _ _ _ h => h) (Or.inl ⟨by rfl, ?_⟩) ?_ ?_
              rotate_left
              ·intro w'
               go_simp
               with_reducible rfl
              rotate_left
              ·simp only [Act.put, lS, lZ, lU, i64_w, i32_w]
               rfl
              refine pure_ (i := 7) (N := some 27) (v := ?_) (a' := ?_) (msk 8 11) rfl rfl (any_of HT_.out (by kernel_rfl)) (fun _ _ _ h => h) (Or.inl ⟨by rfl, ?_⟩) ?_ ?_
              rotate_left
              ·intro w'
               go_simp
               with_reducible rfl
              rotate_left
              ·simp only [Act.put, lS, lZ, lU, i64_w, i32_w]
               rfl
              refine pure_ (i := 8) (N := some 28) (v := ?_) (a' := ?_) (msk 9 10) rfl rfl (any_of HT_.out (by kernel_rfl)) (fun _ _ _ h => h) (Or.inl ⟨by rfl, ?_⟩) ?_ ?_
              rotate_left
              ·intro w'
               go_simp
               with_reducible rfl
              rotate_left
              ·simp only [Act.put, lS, lZ, lU, i64_w, i32_w]
               rfl
              refine pure_ (i := 10) (N := some 30) (v := ?_) (a' := ?_) #[tt,tt,tt,tt,tt,tt,tt,tt,tt,ff,tt,ff,ff,ff,ff,ff,ff,ff,ff] rfl rfl (any_of HT_.out (by kernel_rfl)) (fun _ _ _ h => h) (Or.inl ⟨by rfl, ?_⟩) ?_ ?_
              rotate_left
              ·intro w'
               go_simp
               with_reducible rfl
              rotate_left
              ·simp only [Act.put, lS, lZ, lU, i64_w, i32_w]
               rfl
              refine pure_ (i := 11) (N := some 31) (v := ?_) (a' := ?_) #[tt,tt,tt,tt,tt,tt,tt,tt,tt,ff,tt,tt,ff,ff,ff,ff,ff,ff,ff] rfl rfl (any_of HT_.out (by kernel_rfl)) (fun _ _ _ h => h) (Or.inl ⟨by rfl, ?_⟩) ?_ ?_
              rotate_left
              ·intro w'
               go_simp
               with_reducible rfl
              rotate_left
              ·simp only [Act.put, lS, lZ, lU, i64_w, i32_w]
               rfl
              refine pure_ (i := 12) (N := some 32) (v := ?_) (a' := ?_) #[tt,tt,tt,tt,tt,tt,tt,tt,tt,ff,tt,tt,tt,ff,ff,ff,ff,ff,ff] rfl rfl (any_of HT_.out (by kernel_rfl)) (fun _ _ _ h => h) (Or.inl ⟨by rfl, ?_⟩) ?_ ?_
              rotate_left
              ·intro w'
               go_simp
               with_reducible rfl
              rotate_left
              ·simp only [Act.put, lS, lZ, lU, i64_w, i32_w]
               rfl
              refine pure_ (i := 13) (N := some 33) (v := ?_) (a' := ?_) #[tt,tt,tt,tt,tt,tt,tt,tt,tt,ff,tt,tt,tt,tt,ff,ff,ff,ff,ff] rfl rfl (any_of HT_.out (by kernel_rfl)) (fun _ _ _ h => h) (Or.inl ⟨by rfl, ?_⟩) ?_ ?_
              rotate_left
              ·intro w'
               go_simp
               with_reducible rfl
              rotate_left
              ·simp only [Act.put, lS, lZ, lU, i64_w, i32_w]
               rfl
              refine take_ (i := 9) (N := some 29) (v := ?_) (a' := ?_) (msk 14 5) rfl rfl (take_ofW HT_.out HW_.out (by kernel_rfl)) (fun _ _ _ h => h) (Or.inl ⟨by rfl, ?_⟩) hHeld ?_ ?_
              rotate_left
              ·rintro w' ⟨s0, s1, s2, s3⟩
               go_simp
               with_reducible rfl
              rotate_left
              ·simp only [Act.put, lS, lZ, lU, i64_w, i32_w]
               rfl
              refine take_ (i := 14) (N := some 34) (v := ?_) (a' := ?_) (msk 15 4) rfl rfl (take_ofW HT_.out HW_.out (by kernel_rfl)) (fun _ _ _ h => h) (Or.inl ⟨by rfl, ?_⟩) hHeld ?_ ?_
              rotate_left
              ·rintro w' ⟨s0, s1, s2, s3⟩
               go_simp
               with_reducible rfl
              rotate_left
              ·simp only [Act.put, lS, lZ, lU, i64_w, i32_w]
               rfl
              refine one_ (i := 15) (N := some 35) (msk 16 3) rfl rfl (one_of HT_.out (by kernel_rfl)) (by decide) (fun K hK => ?_)
              refine goes_ Try.func45 (by kernel_rfl) rfl #[.agg #[.int .i64 ((rd_T32 l0 (ji12)).f0), .int .i64 ((rd_T32 l0 (ji12)).f1)]] (by rfl) rfl rfl (by (try simp only [lM, lC, lN]); first | done | (simp only [hji12]; rfl) | rfl | (simp only [lD, lT]; rfl)) ?_
              with_reducible refine (runs_end.calls ((rd_T32 l0 (ji12)).f0) ((rd_T32 l0 (ji12)).f1) t351 _ A15.out).mono ?_
              rintro e w22 ⟨rfl, hb⟩
              refine ⟨_, rfl, ?_⟩
              have n0_ := aM (bB (g := gb348) (o := .cells #[.int .i64 ((rd_T32 l0 x15_2).f0), .int .i64 ((rd_T32 l0 x15_2).f1)] 32 (0, 0)) (by (with_reducible repeat (first | refine bN ?_ _ | refine bD ?_ | refine bA ?_ _)); exact BK348.out) hb)
              have n1_ := aM (wT (by repeat (first | (with_reducible first | exact HB.out | apply wA | apply wN_ | apply wD | refine wS ?_ GE348.out) | exact HB.out)) hb)
              clear BK348
              clear HB
              have BK348 := n0_
              have HB := n1_
              clear n0_ n1_
              (try clear hb)
              (try clear hb2)
              (try clear hk)
              (try clear hi)
              refine hK.out _ _ ⟨(bC BK348.out 0).trans rfl, (bC BK348.out 1).trans rfl, ((HB.out.cell (wL w _ hw350_0)).trans hw350_0), ((HB.out.cell (wL w _ hw350_1)).trans hw350_1)⟩ (fun hHeld => ?_)
              clear hK K
              refine norm_ (a' := ?_) ?_ ?_
              rotate_left
              ·show Act.put _ (some 35) _ = _
               simp only [Act.put, lS, lZ, lU, i64_w, i32_w]
               rfl
              refine pure_ (i := 16) (N := some 36) (v := ?_) (a' := ?_) (msk 17 2) rfl rfl (any_of HT_.out (by kernel_rfl)) (fun _ _ _ h => h) (Or.inl ⟨by rfl, ?_⟩) ?_ ?_
              rotate_left
              ·intro w'
               go_simp
               with_reducible rfl
              rotate_left
              ·simp only [Act.put, lS, lZ, lU, i64_w, i32_w]
               rfl
              refine pure_ (i := 17) (N := some 37) (v := ?_) (a' := ?_) (msk 18 1) rfl rfl (any_of HT_.out (by kernel_rfl)) (fun _ _ _ h => h) (Or.inl ⟨by rfl, ?_⟩) ?_ ?_
              rotate_left
              ·intro w'
               go_simp
               with_reducible rfl
              rotate_left
              ·simp only [Act.put, lS, lZ, lU, i64_w, i32_w]
               rfl
              refine pure_ (i := 18) (N := some 38) (v := ?_) (a' := ?_) (msk 19 0) rfl rfl (any_of HT_.out (by kernel_rfl)) (fun _ _ _ h => h) (Or.inl ⟨by rfl, ?_⟩) ?_ ?_
              rotate_left
              ·intro w'
               go_simp
               with_reducible rfl
              rotate_left
              ·simp only [Act.put, lS, lZ, lU, i64_w, i32_w]
               rfl
              refine done_ (done_of HT_.out (by kernel_rfl)) ?_
              try go_wp2
              go_ret
              exact ⟨by first | rfl | (simp [errW_none, errW_some] <;> rfl) | (simp only [← hji12]; first | rfl | (simp [errW_none, errW_some] <;> rfl)) | (simp [*, errW_none, errW_some] <;> rfl), by repeat (first | (with_reducible first | exact HB.out | apply wA | apply wN_ | apply wD | refine wS ?_ GE348.out) | exact HB.out)⟩
             ·rw [if_neg c16] at H
              have c16b0 : decide (((rd_T32 l0 x15_2).f0) ≤ t351) = false := decide_eq_false c16
              clear c16
              have H' := aM H
              clear H
              have p347 : 0 ≤ (x15_2 : Int) := oD (by first | (with_reducible assumption) | assumption)
              have q347 : x15_2 < (l0.length : Int) := oD (by first | (with_reducible assumption) | assumption)
              obtain ⟨ad347, e347, hx347_0, hx347_1⟩ := at_T32 HR0.out x15_2 p347 q347
              cases e347
              replace hx347_0 := (HB.out.cell (wL w _ hx347_0)).trans hx347_0
              replace hx347_1 := (HB.out.cell (wL w _ hx347_1)).trans hx347_1
              replace p347 := eq_true p347
              replace q347 := eq_true q347
              try go_wp2_with (first|((with_reducible refine gate_dst (N:=6) rfl ?_);refine box_event ?hg (N:=6) ?hd (cs:=#[.int .i64 0,.int .i64 0]) (t:=32) ?hr ?_;(case hd => rfl);(case hg => rfl);(case hr => first|(go_simp;done)|(go_simp;rfl));intro gb348 hg w23 hbox hb;have n0_:=aM (wT (by repeat (first|(with_reducible first|exact HB.out|apply wA|apply wN_|apply wD)|exact HB.out)) hb);have n1_:=aM (hbox);have n2_:=aM ((by rw [hg];exact (wZ (by repeat (first|(with_reducible first|exact HB.out|apply wA|apply wN_|apply wD)|exact HB.out))) : w.heap.size ≤ gb348));have n3_:=aM ((by rw [hg];exact (wZ (by repeat (first|(with_reducible first|exact HB.out|apply wA|apply wN_|apply wD)|exact HB.out))) : w.heap.size ≤ gb348));clear HB;have HB:=n0_;have BK348:=n1_;have GW348:=n2_;have GE348:=n3_;clear n0_ n1_ n2_ n3_;clear hb hbox hg;have hcz24_0 : w23.cell? ⟨gb348,0,none⟩ = some (.int .i64 0):=(bC BK348.out 0).trans rfl;have hcz24_1 : w23.cell? ⟨gb348,1,none⟩ = some (.int .i64 0):=(bC BK348.out 1).trans rfl;have hfz24_0:=bF BK348.out 0;have hfz24_1:=bF BK348.out 1))
              have n0_ : Aside0 (((w23.setCell ⟨gb348, 0, none⟩ (.int .i64 ((rd_T32 l0 x15_2).f0))).setCell ⟨gb348, 1, none⟩ (.int .i64 ((rd_T32 l0 x15_2).f1))).heap[gb348]? = some (.cells #[.int .i64 ((rd_T32 l0 x15_2).f0), .int .i64 ((rd_T32 l0 x15_2).f1)] 32 (0, 0))) := ⟨by (with_reducible repeat (first | refine bN ?_ _ | refine bD ?_ | refine bA ?_ _)); refine bP (cs := #[.int .i64 ((rd_T32 l0 x15_2).f0), .int .i64 0]) ?_ 1 _ rfl; (with_reducible repeat (first | refine bN ?_ _ | refine bD ?_ | refine bA ?_ _)); refine bP (cs := #[.int .i64 0, .int .i64 0]) ?_ 0 _ rfl; (with_reducible repeat (first | refine bN ?_ _ | refine bD ?_ | refine bA ?_ _)); exact BK348.out⟩
              have n1_ : Aside0 (Below w.heap.size w ((w23.setCell ⟨gb348, 0, none⟩ (.int .i64 ((rd_T32 l0 x15_2).f0))).setCell ⟨gb348, 1, none⟩ (.int .i64 ((rd_T32 l0 x15_2).f1)))) := ⟨by repeat (first | (with_reducible first | exact HB.out | apply wA | apply wN_ | apply wD | refine wS ?_ GE348.out) | exact HB.out)⟩
              (try clear BK348)
              (try clear HB)
              generalize ((w23.setCell ⟨gb348, 0, none⟩ (.int .i64 ((rd_T32 l0 x15_2).f0))).setCell ⟨gb348, 1, none⟩ (.int .i64 ((rd_T32 l0 x15_2).f1))) = w25 at n0_ n1_ ⊢
              have BK348 := n0_
              have HB := n1_
              clear n0_ n1_
              have n0_ := aM (bD BK348.out)
              have n1_ := aM (wD HB.out)
              clear BK348
              clear HB
              have BK348 := n0_
              have HB := n1_
              clear n0_ n1_
              have p350 : 0 ≤ ((ji12) : Int) := oD (by first | (with_reducible assumption) | assumption)
              have q350 : (ji12) < (l0.length : Int) := oD (by first | (with_reducible assumption) | assumption)
              obtain ⟨ad350, e350, hx350_0, hx350_1⟩ := at_T32 HR0.out (ji12) p350 q350
              have hw350_1 := hx350_1
              have hw350_0 := hx350_0
              obtain rfl : ad347 = ad350 := (by injection e350)
              replace hx350_0 := (HB.out.cell (wL w _ hx350_0)).trans hx350_0
              replace hx350_1 := (HB.out.cell (wL w _ hx350_1)).trans hx350_1
              replace p350 := eq_true p350
              replace q350 := eq_true q350
              refine start_ (n := 19) (S := fun w' => w'.cell? ⟨gb348, 0, none⟩ = some (.int .i64 ((rd_T32 l0 x15_2).f0)) ∧ w'.cell? ⟨gb348, 1, none⟩ = some (.int .i64 ((rd_T32 l0 x15_2).f1)) ∧ w'.cell? (ad347.add (((ji12)).toNat * 2)) = some (.int .i64 ((rd_T32 l0 (ji12)).f0)) ∧ w'.cell? ⟨(ad347.add (((ji12)).toNat * 2)).block, (ad347.add (((ji12)).toNat * 2)).off + 1, none⟩ = some (.int .i64 ((rd_T32 l0 (ji12)).f1))) (ds := []) (msk 0 19) (by kernel_rfl) rfl rfl ⟨(bC BK348.out 0).trans rfl, (bC BK348.out 1).trans rfl, ((HB.out.cell (wL w _ hw350_0)).trans hw350_0), ((HB.out.cell (wL w _ hw350_1)).trans hw350_1)⟩ (fun hHeld => ?_); refine with_tabW runs_Right.tab6 runs_Right.bits6 (fun HT_ HW_ => ?_)
              generalize w25.drew = w26 at BK348 HB hx350_0 hx350_1 hHeld ⊢
              refine pure_ (i := 1) (N := some 21) (v := ?_) (a' := ?_) #[ff,tt,ff,ff,ff,ff,ff,ff,ff,ff,ff,ff,ff,ff,ff,ff,ff,ff,ff] rfl rfl (any_of HT_.out (by kernel_rfl)) (fun _ _ _ h => h) (Or.inl ⟨by rfl, ?_⟩) ?_ ?_
              rotate_left
              ·intro w'
               go_simp
               with_reducible rfl
              rotate_left
              ·simp only [Act.put, lS, lZ, lU, i64_w, i32_w]
               rfl
              refine take_ (i := 0) (N := some 20) (v := ?_) (a' := ?_) (msk 2 17) rfl rfl (take_ofW HT_.out HW_.out (by kernel_rfl)) (fun _ _ _ h => h) (Or.inl ⟨by rfl, ?_⟩) hHeld ?_ ?_
              rotate_left
              ·rintro w' ⟨s0, s1, s2, s3⟩
               go_simp
               with_reducible rfl
              rotate_left
              ·simp only [Act.put, lS, lZ, lU, i64_w, i32_w]
               rfl
              refine one_ (i := 2) (N := some 22) (msk 3 16) rfl rfl (one_of HT_.out (by kernel_rfl)) (by decide) (fun K hK => ?_)
              refine goes_ Try.func44 (by kernel_rfl) rfl #[.agg #[.int .i64 ((rd_T32 l0 x15_2).f0), .int .i64 ((rd_T32 l0 x15_2).f1)], .int .i64 a1] (by rfl) rfl rfl (by (try simp only [lM, lC, lN]); first | done | rfl | (simp only [lD, lT]; rfl)) ?_
              with_reducible refine (runs_within.calls ((rd_T32 l0 x15_2).f0) ((rd_T32 l0 x15_2).f1) a1 true _ A9.out).mono ?_
              rintro e w27 ⟨rfl, hb⟩
              refine ⟨_, rfl, ?_⟩
              have n0_ := aM (bB (g := gb348) (o := .cells #[.int .i64 ((rd_T32 l0 x15_2).f0), .int .i64 ((rd_T32 l0 x15_2).f1)] 32 (0, 0)) (by (with_reducible repeat (first | refine bN ?_ _ | refine bD ?_ | refine bA ?_ _)); exact BK348.out) hb)
              have n1_ := aM (wT (by repeat (first | (with_reducible first | exact HB.out | apply wA | apply wN_ | apply wD | refine wS ?_ GE348.out) | exact HB.out)) hb)
              clear BK348
              clear HB
              have BK348 := n0_
              have HB := n1_
              clear n0_ n1_
              (try clear hb)
              (try clear hb2)
              (try clear hk)
              (try clear hi)
              refine hK.out _ _ ⟨(bC BK348.out 0).trans rfl, (bC BK348.out 1).trans rfl, ((HB.out.cell (wL w _ hw350_0)).trans hw350_0), ((HB.out.cell (wL w _ hw350_1)).trans hw350_1)⟩ (fun hHeld => ?_)
              clear hK K
              refine norm_ (a' := ?_) ?_ ?_
              rotate_left
              ·show Act.put _ (some 22) _ = _
               simp only [Act.put, lS, lZ, lU, i64_w, i32_w]
               rfl
              refine pure_ (i := 3) (N := some 23) (v := ?_) (a' := ?_) (msk 4 15) rfl rfl (any_of HT_.out (by kernel_rfl)) (fun _ _ _ h => h) (Or.inl ⟨by rfl, ?_⟩) ?_ ?_
              rotate_left
              ·intro w'
               go_simp
               with_reducible rfl
              rotate_left
              ·simp only [Act.put, lS, lZ, lU, i64_w, i32_w]
               rfl
              refine pure_ (i := 4) (N := some 24) (v := ?_) (a' := ?_) (msk 5 14) rfl rfl (any_of HT_.out (by kernel_rfl)) (fun _ _ _ h => h) (Or.inl ⟨by rfl, ?_⟩) ?_ ?_
              rotate_left
              ·intro w'
               go_simp
               with_reducible rfl
              rotate_left
              ·simp only [Act.put, lS, lZ, lU, i64_w, i32_w]
               rfl
              refine pure_ (i := 5) (N := some 25) (v := ?_) (a' := ?_) (msk 6 13) rfl rfl (any_of HT_.out (by kernel_rfl)) (fun _ _ _ h => h) (Or.inl ⟨by rfl, ?_⟩) ?_ ?_
              rotate_left
              ·intro w'
               go_simp
               with_reducible rfl
              rotate_left
              ·simp only [Act.put, lS, lZ, lU, i64_w, i32_w]
               rfl
              refine pure_ (i := 6) (N := some 26) (v := ?_) (a' := ?_) (msk 7 12) rfl rfl (any_of HT_.out (by kernel_rfl)) (fun _ _ _ h => h) (Or.inl ⟨by rfl, ?_⟩) ?_ ?_
              rotate_left
              ·intro w'
               go_simp
               with_reducible rfl
              rotate_left
              ·simp only [Act.put, lS, lZ, lU, i64_w, i32_w]
               rfl
              refine pure_ (i := 7) (N := some 27) (v := ?_) (a' := ?_) (msk 8 11) rfl rfl (any_of HT_.out (by kernel_rfl)) (fun _ _ _ h => h) (Or.inl ⟨by rfl, ?_⟩) ?_ ?_
              rotate_left
              ·intro w'
               go_simp
               with_reducible rfl
              rotate_left
              ·simp only [Act.put, lS, lZ, lU, i64_w, i32_w]
               rfl
              refine pure_ (i := 8) (N := some 28) (v := ?_) (a' := ?_) (msk 9 10) rfl rfl (any_of HT_.out (by kernel_rfl)) (fun _ _ _ h => h) (Or.inl ⟨by rfl, ?_⟩) ?_ ?_
              rotate_left
              ·intro w'
               go_simp
               with_reducible rfl
              rotate_left
              ·simp only [Act.put, lS, lZ, lU, i64_w, i32_w]
               rfl
              refine pure_ (i := 10) (N := some 30) (v := ?_) (a' := ?_) #[tt,tt,tt,tt,tt,tt,tt,tt,tt,ff,tt,ff,ff,ff,ff,ff,ff,ff,ff] rfl rfl (any_of HT_.out (by kernel_rfl)) (fun _ _ _ h => h) (Or.inl ⟨by rfl, ?_⟩) ?_ ?_
              rotate_left
              ·intro w'
               go_simp
               with_reducible rfl
              rotate_left
              ·simp only [Act.put, lS, lZ, lU, i64_w, i32_w]
               rfl
              refine pure_ (i := 11) (N := some 31) (v := ?_) (a' := ?_) #[tt,tt,tt,tt,tt,tt,tt,tt,tt,ff,tt,tt,ff,ff,ff,ff,ff,ff,ff] rfl rfl (any_of HT_.out (by kernel_rfl)) (fun _ _ _ h => h) (Or.inl ⟨by rfl, ?_⟩) ?_ ?_
              rotate_left
              ·intro w'
               go_simp
               with_reducible rfl
              rotate_left
              ·simp only [Act.put, lS, lZ, lU, i64_w, i32_w]
               rfl
              refine pure_ (i := 12) (N := some 32) (v := ?_) (a' := ?_) #[tt,tt,tt,tt,tt,tt,tt,tt,tt,ff,tt,tt,tt,ff,ff,ff,ff,ff,ff] rfl rfl (any_of HT_.out (by kernel_rfl)) (fun _ _ _ h => h) (Or.inl ⟨by rfl, ?_⟩) ?_ ?_
              rotate_left
              ·intro w'
               go_simp
               with_reducible rfl
              rotate_left
              ·simp only [Act.put, lS, lZ, lU, i64_w, i32_w]
               rfl
              refine pure_ (i := 13) (N := some 33) (v := ?_) (a' := ?_) #[tt,tt,tt,tt,tt,tt,tt,tt,tt,ff,tt,tt,tt,tt,ff,ff,ff,ff,ff] rfl rfl (any_of HT_.out (by kernel_rfl)) (fun _ _ _ h => h) (Or.inl ⟨by rfl, ?_⟩) ?_ ?_
              rotate_left
              ·intro w'
               go_simp
               with_reducible rfl
              rotate_left
              ·simp only [Act.put, lS, lZ, lU, i64_w, i32_w]
               rfl
              refine take_ (i := 9) (N := some 29) (v := ?_) (a' := ?_) (msk 14 5) rfl rfl (take_ofW HT_.out HW_.out (by kernel_rfl)) (fun _ _ _ h => h) (Or.inl ⟨by rfl, ?_⟩) hHeld ?_ ?_
              rotate_left
              ·rintro w' ⟨s0, s1, s2, s3⟩
               go_simp
               with_reducible rfl
              rotate_left
              ·simp only [Act.put, lS, lZ, lU, i64_w, i32_w]
               rfl
              refine take_ (i := 14) (N := some 34) (v := ?_) (a' := ?_) (msk 15 4) rfl rfl (take_ofW HT_.out HW_.out (by kernel_rfl)) (fun _ _ _ h => h) (Or.inl ⟨by rfl, ?_⟩) hHeld ?_ ?_
              rotate_left
              ·rintro w' ⟨s0, s1, s2, s3⟩
               go_simp
               with_reducible rfl
              rotate_left
              ·simp only [Act.put, lS, lZ, lU, i64_w, i32_w]
               rfl
              refine one_ (i := 15) (N := some 35) (msk 16 3) rfl rfl (one_of HT_.out (by kernel_rfl)) (by decide) (fun K hK => ?_)
              refine goes_ Try.func45 (by kernel_rfl) rfl #[.agg #[.int .i64 ((rd_T32 l0 (ji12)).f0), .int .i64 ((rd_T32 l0 (ji12)).f1)]] (by rfl) rfl rfl (by (try simp only [lM, lC, lN]); first | done | (simp only [hji12]; rfl) | rfl | (simp only [lD, lT]; rfl)) ?_
              with_reducible refine (runs_end.calls ((rd_T32 l0 (ji12)).f0) ((rd_T32 l0 (ji12)).f1) t351 _ A15.out).mono ?_
              rintro e w28 ⟨rfl, hb⟩
              refine ⟨_, rfl, ?_⟩
              have n0_ := aM (bB (g := gb348) (o := .cells #[.int .i64 ((rd_T32 l0 x15_2).f0), .int .i64 ((rd_T32 l0 x15_2).f1)] 32 (0, 0)) (by (with_reducible repeat (first | refine bN ?_ _ | refine bD ?_ | refine bA ?_ _)); exact BK348.out) hb)
              have n1_ := aM (wT (by repeat (first | (with_reducible first | exact HB.out | apply wA | apply wN_ | apply wD | refine wS ?_ GE348.out) | exact HB.out)) hb)
              clear BK348
              clear HB
              have BK348 := n0_
              have HB := n1_
              clear n0_ n1_
              (try clear hb)
              (try clear hb2)
              (try clear hk)
              (try clear hi)
              refine hK.out _ _ ⟨(bC BK348.out 0).trans rfl, (bC BK348.out 1).trans rfl, ((HB.out.cell (wL w _ hw350_0)).trans hw350_0), ((HB.out.cell (wL w _ hw350_1)).trans hw350_1)⟩ (fun hHeld => ?_)
              clear hK K
              refine norm_ (a' := ?_) ?_ ?_
              rotate_left
              ·show Act.put _ (some 35) _ = _
               simp only [Act.put, lS, lZ, lU, i64_w, i32_w]
               rfl
              refine pure_ (i := 16) (N := some 36) (v := ?_) (a' := ?_) (msk 17 2) rfl rfl (any_of HT_.out (by kernel_rfl)) (fun _ _ _ h => h) (Or.inl ⟨by rfl, ?_⟩) ?_ ?_
              rotate_left
              ·intro w'
               go_simp
               with_reducible rfl
              rotate_left
              ·simp only [Act.put, lS, lZ, lU, i64_w, i32_w]
               rfl
              refine pure_ (i := 17) (N := some 37) (v := ?_) (a' := ?_) (msk 18 1) rfl rfl (any_of HT_.out (by kernel_rfl)) (fun _ _ _ h => h) (Or.inl ⟨by rfl, ?_⟩) ?_ ?_
              rotate_left
              ·intro w'
               go_simp
               with_reducible rfl
              rotate_left
              ·simp only [Act.put, lS, lZ, lU, i64_w, i32_w]
               rfl
              refine pure_ (i := 18) (N := some 38) (v := ?_) (a' := ?_) (msk 19 0) rfl rfl (any_of HT_.out (by kernel_rfl)) (fun _ _ _ h => h) (Or.inl ⟨by rfl, ?_⟩) ?_ ?_
              rotate_left
              ·intro w'
               go_simp
               with_reducible rfl
              rotate_left
              ·simp only [Act.put, lS, lZ, lU, i64_w, i32_w]
               rfl
              refine done_ (done_of HT_.out (by kernel_rfl)) ?_
              try go_wp2
              go_roundg k2
              case measure => have:=HJ2.out;have:=HK2.out;omega
              case rel => exact ⟨(wrap64 (x15_2 + 1)),(by first|rfl|(simp;done)|(simp [*];done)),H',⟨by have:=HJ2.out;have:=HK2.out;omega⟩,⟨by repeat (first|(with_reducible first|exact HB.out|apply wA|apply wN_|apply wD|refine wS ?_ GE348.out)|exact HB.out)⟩⟩
            ·rw [if_neg c14] at H
             exact absurd H (by simp)
           ·rw [if_neg c13] at H
            exact absurd H (by simp)
          ·rw [if_neg c11] at H
           have c11b0 : decide (0 < x15_2) = false := decide_eq_false c11
           clear c11
           have H' := aM H
           clear H
           have p347 : 0 ≤ (x15_2 : Int) := oD (by first | (with_reducible assumption) | assumption)
           have q347 : x15_2 < (l0.length : Int) := oD (by first | (with_reducible assumption) | assumption)
           obtain ⟨ad347, e347, hx347_0, hx347_1⟩ := at_T32 HR0.out x15_2 p347 q347
           cases e347
           replace hx347_0 := (HB.out.cell (wL w _ hx347_0)).trans hx347_0
           replace hx347_1 := (HB.out.cell (wL w _ hx347_1)).trans hx347_1
           replace p347 := eq_true p347
           replace q347 := eq_true q347
           try go_wp2_with (first|((with_reducible refine gate_dst (N:=6) rfl ?_);refine box_event ?hg (N:=6) ?hd (cs:=#[.int .i64 0,.int .i64 0]) (t:=32) ?hr ?_;(case hd => rfl);(case hg => rfl);(case hr => first|(go_simp;done)|(go_simp;rfl));intro gb348 hg w29 hbox hb;have n0_:=aM (wT (by repeat (first|(with_reducible first|exact HB.out|apply wA|apply wN_|apply wD)|exact HB.out)) hb);have n1_:=aM (hbox);have n2_:=aM ((by rw [hg];exact (wZ (by repeat (first|(with_reducible first|exact HB.out|apply wA|apply wN_|apply wD)|exact HB.out))) : w.heap.size ≤ gb348));have n3_:=aM ((by rw [hg];exact (wZ (by repeat (first|(with_reducible first|exact HB.out|apply wA|apply wN_|apply wD)|exact HB.out))) : w.heap.size ≤ gb348));clear HB;have HB:=n0_;have BK348:=n1_;have GW348:=n2_;have GE348:=n3_;clear n0_ n1_ n2_ n3_;clear hb hbox hg;have hcz30_0 : w29.cell? ⟨gb348,0,none⟩ = some (.int .i64 0):=(bC BK348.out 0).trans rfl;have hcz30_1 : w29.cell? ⟨gb348,1,none⟩ = some (.int .i64 0):=(bC BK348.out 1).trans rfl;have hfz30_0:=bF BK348.out 0;have hfz30_1:=bF BK348.out 1))
           have n0_ : Aside0 (((w29.setCell ⟨gb348, 0, none⟩ (.int .i64 ((rd_T32 l0 x15_2).f0))).setCell ⟨gb348, 1, none⟩ (.int .i64 ((rd_T32 l0 x15_2).f1))).heap[gb348]? = some (.cells #[.int .i64 ((rd_T32 l0 x15_2).f0), .int .i64 ((rd_T32 l0 x15_2).f1)] 32 (0, 0))) := ⟨by (with_reducible repeat (first | refine bN ?_ _ | refine bD ?_ | refine bA ?_ _)); refine bP (cs := #[.int .i64 ((rd_T32 l0 x15_2).f0), .int .i64 0]) ?_ 1 _ rfl; (with_reducible repeat (first | refine bN ?_ _ | refine bD ?_ | refine bA ?_ _)); refine bP (cs := #[.int .i64 0, .int .i64 0]) ?_ 0 _ rfl; (with_reducible repeat (first | refine bN ?_ _ | refine bD ?_ | refine bA ?_ _)); exact BK348.out⟩
           have n1_ : Aside0 (Below w.heap.size w ((w29.setCell ⟨gb348, 0, none⟩ (.int .i64 ((rd_T32 l0 x15_2).f0))).setCell ⟨gb348, 1, none⟩ (.int .i64 ((rd_T32 l0 x15_2).f1)))) := ⟨by repeat (first | (with_reducible first | exact HB.out | apply wA | apply wN_ | apply wD | refine wS ?_ GE348.out) | exact HB.out)⟩
           (try clear BK348)
           (try clear HB)
           generalize ((w29.setCell ⟨gb348, 0, none⟩ (.int .i64 ((rd_T32 l0 x15_2).f0))).setCell ⟨gb348, 1, none⟩ (.int .i64 ((rd_T32 l0 x15_2).f1))) = w31 at n0_ n1_ ⊢
           have BK348 := n0_
           have HB := n1_
           clear n0_ n1_
           have n0_ := aM (bD BK348.out)
           have n1_ := aM (wD HB.out)
           clear BK348
           clear HB
           have BK348 := n0_
           have HB := n1_
           clear n0_ n1_
           refine start_ (n := 19) (S := fun w' => w'.cell? ⟨gb348, 0, none⟩ = some (.int .i64 ((rd_T32 l0 x15_2).f0)) ∧ w'.cell? ⟨gb348, 1, none⟩ = some (.int .i64 ((rd_T32 l0 x15_2).f1))) (ds := []) (msk 0 19) (by kernel_rfl) rfl rfl ⟨(bC BK348.out 0).trans rfl, (bC BK348.out 1).trans rfl⟩ (fun hHeld => ?_); refine with_tabW runs_Right.tab6 runs_Right.bits6 (fun HT_ HW_ => ?_)
           generalize w31.drew = w32 at BK348 HB hHeld ⊢
           refine pure_ (i := 1) (N := some 21) (v := ?_) (a' := ?_) #[ff,tt,ff,ff,ff,ff,ff,ff,ff,ff,ff,ff,ff,ff,ff,ff,ff,ff,ff] rfl rfl (any_of HT_.out (by kernel_rfl)) (fun _ _ _ h => h) (Or.inl ⟨by rfl, ?_⟩) ?_ ?_
           rotate_left
           ·intro w'
            go_simp
            with_reducible rfl
           rotate_left
           ·simp only [Act.put, lS, lZ, lU, i64_w, i32_w]
            rfl
           refine take_ (i := 0) (N := some 20) (v := ?_) (a' := ?_) (msk 2 17) rfl rfl (take_ofW HT_.out HW_.out (by kernel_rfl)) (fun _ _ _ h => h) (Or.inl ⟨by rfl, ?_⟩) hHeld ?_ ?_
           rotate_left
           ·rintro w' ⟨s0, s1⟩
            go_simp
            with_reducible rfl
           rotate_left
           ·simp only [Act.put, lS, lZ, lU, i64_w, i32_w]
            rfl
           refine one_ (i := 2) (N := some 22) (msk 3 16) rfl rfl (one_of HT_.out (by kernel_rfl)) (by decide) (fun K hK => ?_)
           refine goes_ Try.func44 (by kernel_rfl) rfl #[.agg #[.int .i64 ((rd_T32 l0 x15_2).f0), .int .i64 ((rd_T32 l0 x15_2).f1)], .int .i64 a1] (by rfl) rfl rfl (by (try simp only [lM, lC, lN]); first | done | rfl | (simp only [lD, lT]; rfl)) ?_
           with_reducible refine (runs_within.calls ((rd_T32 l0 x15_2).f0) ((rd_T32 l0 x15_2).f1) a1 true _ A9.out).mono ?_
           rintro e w33 ⟨rfl, hb⟩
           refine ⟨_, rfl, ?_⟩
           have n0_ := aM (bB (g := gb348) (o := .cells #[.int .i64 ((rd_T32 l0 x15_2).f0), .int .i64 ((rd_T32 l0 x15_2).f1)] 32 (0, 0)) (by (with_reducible repeat (first | refine bN ?_ _ | refine bD ?_ | refine bA ?_ _)); exact BK348.out) hb)
           have n1_ := aM (wT (by repeat (first | (with_reducible first | exact HB.out | apply wA | apply wN_ | apply wD | refine wS ?_ GE348.out) | exact HB.out)) hb)
           clear BK348
           clear HB
           have BK348 := n0_
           have HB := n1_
           clear n0_ n1_
           (try clear hb)
           (try clear hb2)
           (try clear hk)
           (try clear hi)
           refine hK.out _ _ ⟨(bC BK348.out 0).trans rfl, (bC BK348.out 1).trans rfl⟩ (fun hHeld => ?_)
           clear hK K
           refine norm_ (a' := ?_) ?_ ?_
           rotate_left
           ·show Act.put _ (some 22) _ = _
            simp only [Act.put, lS, lZ, lU, i64_w, i32_w]
            rfl
           refine pure_ (i := 3) (N := some 23) (v := ?_) (a' := ?_) (msk 4 15) rfl rfl (any_of HT_.out (by kernel_rfl)) (fun _ _ _ h => h) (Or.inl ⟨by rfl, ?_⟩) ?_ ?_
           rotate_left
           ·intro w'
            go_simp
            with_reducible rfl
           rotate_left
           ·simp only [Act.put, lS, lZ, lU, i64_w, i32_w]
            rfl
           refine pure_ (i := 4) (N := some 24) (v := ?_) (a' := ?_) (msk 5 14) rfl rfl (any_of HT_.out (by kernel_rfl)) (fun _ _ _ h => h) (Or.inl ⟨by rfl, ?_⟩) ?_ ?_
           rotate_left
           ·intro w'
            go_simp
            with_reducible rfl
           rotate_left
           ·simp only [Act.put, lS, lZ, lU, i64_w, i32_w]
            rfl
           refine pure_ (i := 5) (N := some 25) (v := ?_) (a' := ?_) (msk 6 13) rfl rfl (any_of HT_.out (by kernel_rfl)) (fun _ _ _ h => h) (Or.inl ⟨by rfl, ?_⟩) ?_ ?_
           rotate_left
           ·intro w'
            go_simp
            with_reducible rfl
           rotate_left
           ·simp only [Act.put, lS, lZ, lU, i64_w, i32_w]
            rfl
           refine pure_ (i := 6) (N := some 26) (v := ?_) (a' := ?_) (msk 7 12) rfl rfl (any_of HT_.out (by kernel_rfl)) (fun _ _ _ h => h) (Or.inl ⟨by rfl, ?_⟩) ?_ ?_
           rotate_left
           ·intro w'
            go_simp
            with_reducible rfl
           rotate_left
           ·simp only [Act.put, lS, lZ, lU, i64_w, i32_w]
            rfl
           refine pure_ (i := 7) (N := some 27) (v := ?_) (a' := ?_) (msk 8 11) rfl rfl (any_of HT_.out (by kernel_rfl)) (fun _ _ _ h => h) (Or.inl ⟨by rfl, ?_⟩) ?_ ?_
           rotate_left
           ·intro w'
            go_simp
            with_reducible rfl
           rotate_left
           ·simp only [Act.put, lS, lZ, lU, i64_w, i32_w]
            rfl
           refine pure_ (i := 8) (N := some 28) (v := undef) (a' := ?_) (msk 9 10) rfl rfl (any_of HT_.out (by kernel_rfl)) (fun _ _ _ h => h) (Or.inr ⟨by rfl, rfl⟩) ?_ ?_
           rotate_left
           ·simp only [Act.put, lS, lZ, lU, i64_w, i32_w]
            rfl
           refine pure_ (i := 9) (N := some 29) (v := undef) (a' := ?_) (msk 10 9) rfl rfl (any_of HT_.out (by kernel_rfl)) (fun _ _ _ h => h) (Or.inr ⟨by rfl, rfl⟩) ?_ ?_
           rotate_left
           ·simp only [Act.put, lS, lZ, lU, i64_w, i32_w]
            rfl
           refine pure_ (i := 10) (N := some 30) (v := undef) (a' := ?_) (msk 11 8) rfl rfl (any_of HT_.out (by kernel_rfl)) (fun _ _ _ h => h) (Or.inr ⟨by rfl, rfl⟩) ?_ ?_
           rotate_left
           ·simp only [Act.put, lS, lZ, lU, i64_w, i32_w]
            rfl
           refine pure_ (i := 11) (N := some 31) (v := undef) (a' := ?_) (msk 12 7) rfl rfl (any_of HT_.out (by kernel_rfl)) (fun _ _ _ h => h) (Or.inr ⟨by rfl, rfl⟩) ?_ ?_
           rotate_left
           ·simp only [Act.put, lS, lZ, lU, i64_w, i32_w]
            rfl
           refine pure_ (i := 12) (N := some 32) (v := undef) (a' := ?_) (msk 13 6) rfl rfl (any_of HT_.out (by kernel_rfl)) (fun _ _ _ h => h) (Or.inr ⟨by rfl, rfl⟩) ?_ ?_
           rotate_left
           ·simp only [Act.put, lS, lZ, lU, i64_w, i32_w]
            rfl
           refine pure_ (i := 13) (N := some 33) (v := undef) (a' := ?_) (msk 14 5) rfl rfl (any_of HT_.out (by kernel_rfl)) (fun _ _ _ h => h) (Or.inr ⟨by rfl, rfl⟩) ?_ ?_
           rotate_left
           ·simp only [Act.put, lS, lZ, lU, i64_w, i32_w]
            rfl
           refine pure_ (i := 14) (N := some 34) (v := undef) (a' := ?_) (msk 15 4) rfl rfl (any_of HT_.out (by kernel_rfl)) (fun _ _ _ h => h) (Or.inr ⟨by rfl, rfl⟩) ?_ ?_
           rotate_left
           ·simp only [Act.put, lS, lZ, lU, i64_w, i32_w]
            rfl
           refine pure_ (i := 15) (N := some 35) (v := undef) (a' := ?_) (msk 16 3) rfl rfl (any_of HT_.out (by kernel_rfl)) (fun _ _ _ h => h) (Or.inr ⟨by rfl, rfl⟩) ?_ ?_
           rotate_left
           ·simp only [Act.put, lS, lZ, lU, i64_w, i32_w]
            rfl
           refine pure_ (i := 16) (N := some 36) (v := undef) (a' := ?_) (msk 17 2) rfl rfl (any_of HT_.out (by kernel_rfl)) (fun _ _ _ h => h) (Or.inr ⟨by rfl, rfl⟩) ?_ ?_
           rotate_left
           ·simp only [Act.put, lS, lZ, lU, i64_w, i32_w]
            rfl
           refine pure_ (i := 17) (N := some 37) (v := ?_) (a' := ?_) (msk 18 1) rfl rfl (any_of HT_.out (by kernel_rfl)) (fun _ _ _ h => h) (Or.inl ⟨by rfl, ?_⟩) ?_ ?_
           rotate_left
           ·intro w'
            go_simp
            with_reducible rfl
           rotate_left
           ·simp only [Act.put, lS, lZ, lU, i64_w, i32_w]
            rfl
           refine pure_ (i := 18) (N := some 38) (v := ?_) (a' := ?_) (msk 19 0) rfl rfl (any_of HT_.out (by kernel_rfl)) (fun _ _ _ h => h) (Or.inl ⟨by rfl, ?_⟩) ?_ ?_
           rotate_left
           ·intro w'
            go_simp
            with_reducible rfl
           rotate_left
           ·simp only [Act.put, lS, lZ, lU, i64_w, i32_w]
            rfl
           refine done_ (done_of HT_.out (by kernel_rfl)) ?_
           try go_wp2
           go_roundg k2
           case measure => have:=HJ2.out;have:=HK2.out;omega
           case rel => exact ⟨(wrap64 (x15_2 + 1)),(by first|rfl|(simp;done)|(simp [*];done)),H',⟨by have:=HJ2.out;have:=HK2.out;omega⟩,⟨by repeat (first|(with_reducible first|exact HB.out|apply wA|apply wN_|apply wD|refine wS ?_ GE348.out)|exact HB.out)⟩⟩
         ·replace c10 := Bool.eq_false_iff.mpr c10
          subst c10
          have H1 : (some false) = some r := by rw [if_neg (show ¬ (false = true) by decide)] at H; exact H
          clear H
          have H := H1
          clear H1
          obtain rfl := Option.some.inj H
          have p347 : 0 ≤ (x15_2 : Int) := oD (by first | (with_reducible assumption) | assumption)
          have q347 : x15_2 < (l0.length : Int) := oD (by first | (with_reducible assumption) | assumption)
          obtain ⟨ad347, e347, hx347_0, hx347_1⟩ := at_T32 HR0.out x15_2 p347 q347
          cases e347
          replace hx347_0 := (HB.out.cell (wL w _ hx347_0)).trans hx347_0
          replace hx347_1 := (HB.out.cell (wL w _ hx347_1)).trans hx347_1
          replace p347 := eq_true p347
          replace q347 := eq_true q347
          try go_wp2_with (first|((with_reducible refine gate_dst (N:=6) rfl ?_);refine box_event ?hg (N:=6) ?hd (cs:=#[.int .i64 0,.int .i64 0]) (t:=32) ?hr ?_;(case hd => rfl);(case hg => rfl);(case hr => first|(go_simp;done)|(go_simp;rfl));intro gb348 hg w34 hbox hb;have n0_:=aM (wT (by repeat (first|(with_reducible first|exact HB.out|apply wA|apply wN_|apply wD)|exact HB.out)) hb);have n1_:=aM (hbox);have n2_:=aM ((by rw [hg];exact (wZ (by repeat (first|(with_reducible first|exact HB.out|apply wA|apply wN_|apply wD)|exact HB.out))) : w.heap.size ≤ gb348));have n3_:=aM ((by rw [hg];exact (wZ (by repeat (first|(with_reducible first|exact HB.out|apply wA|apply wN_|apply wD)|exact HB.out))) : w.heap.size ≤ gb348));clear HB;have HB:=n0_;have BK348:=n1_;have GW348:=n2_;have GE348:=n3_;clear n0_ n1_ n2_ n3_;clear hb hbox hg;have hcz35_0 : w34.cell? ⟨gb348,0,none⟩ = some (.int .i64 0):=(bC BK348.out 0).trans rfl;have hcz35_1 : w34.cell? ⟨gb348,1,none⟩ = some (.int .i64 0):=(bC BK348.out 1).trans rfl;have hfz35_0:=bF BK348.out 0;have hfz35_1:=bF BK348.out 1))
          have n0_ : Aside0 (((w34.setCell ⟨gb348, 0, none⟩ (.int .i64 ((rd_T32 l0 x15_2).f0))).setCell ⟨gb348, 1, none⟩ (.int .i64 ((rd_T32 l0 x15_2).f1))).heap[gb348]? = some (.cells #[.int .i64 ((rd_T32 l0 x15_2).f0), .int .i64 ((rd_T32 l0 x15_2).f1)] 32 (0, 0))) := ⟨by (with_reducible repeat (first | refine bN ?_ _ | refine bD ?_ | refine bA ?_ _)); refine bP (cs := #[.int .i64 ((rd_T32 l0 x15_2).f0), .int .i64 0]) ?_ 1 _ rfl; (with_reducible repeat (first | refine bN ?_ _ | refine bD ?_ | refine bA ?_ _)); refine bP (cs := #[.int .i64 0, .int .i64 0]) ?_ 0 _ rfl; (with_reducible repeat (first | refine bN ?_ _ | refine bD ?_ | refine bA ?_ _)); exact BK348.out⟩
          have n1_ : Aside0 (Below w.heap.size w ((w34.setCell ⟨gb348, 0, none⟩ (.int .i64 ((rd_T32 l0 x15_2).f0))).setCell ⟨gb348, 1, none⟩ (.int .i64 ((rd_T32 l0 x15_2).f1)))) := ⟨by repeat (first | (with_reducible first | exact HB.out | apply wA | apply wN_ | apply wD | refine wS ?_ GE348.out) | exact HB.out)⟩
          (try clear BK348)
          (try clear HB)
          generalize ((w34.setCell ⟨gb348, 0, none⟩ (.int .i64 ((rd_T32 l0 x15_2).f0))).setCell ⟨gb348, 1, none⟩ (.int .i64 ((rd_T32 l0 x15_2).f1))) = w36 at n0_ n1_ ⊢
          have BK348 := n0_
          have HB := n1_
          clear n0_ n1_
          have n0_ := aM (bD BK348.out)
          have n1_ := aM (wD HB.out)
          clear BK348
          clear HB
          have BK348 := n0_
          have HB := n1_
          clear n0_ n1_
          refine start_ (n := 19) (S := fun w' => w'.cell? ⟨gb348, 0, none⟩ = some (.int .i64 ((rd_T32 l0 x15_2).f0)) ∧ w'.cell? ⟨gb348, 1, none⟩ = some (.int .i64 ((rd_T32 l0 x15_2).f1))) (ds := []) (msk 0 19) (by kernel_rfl) rfl rfl ⟨(bC BK348.out 0).trans rfl, (bC BK348.out 1).trans rfl⟩ (fun hHeld => ?_); refine with_tabW runs_Right.tab6 runs_Right.bits6 (fun HT_ HW_ => ?_)
          generalize w36.drew = w37 at BK348 HB hHeld ⊢
          refine pure_ (i := 1) (N := some 21) (v := ?_) (a' := ?_) #[ff,tt,ff,ff,ff,ff,ff,ff,ff,ff,ff,ff,ff,ff,ff,ff,ff,ff,ff] rfl rfl (any_of HT_.out (by kernel_rfl)) (fun _ _ _ h => h) (Or.inl ⟨by rfl, ?_⟩) ?_ ?_
          rotate_left
          ·intro w'
           go_simp
           with_reducible rfl
          rotate_left
          ·simp only [Act.put, lS, lZ, lU, i64_w, i32_w]
           rfl
          refine take_ (i := 0) (N := some 20) (v := ?_) (a' := ?_) (msk 2 17) rfl rfl (take_ofW HT_.out HW_.out (by kernel_rfl)) (fun _ _ _ h => h) (Or.inl ⟨by rfl, ?_⟩) hHeld ?_ ?_
          rotate_left
          ·rintro w' ⟨s0, s1⟩
           go_simp
           with_reducible rfl
          rotate_left
          ·simp only [Act.put, lS, lZ, lU, i64_w, i32_w]
           rfl
          refine one_ (i := 2) (N := some 22) (msk 3 16) rfl rfl (one_of HT_.out (by kernel_rfl)) (by decide) (fun K hK => ?_)
          refine goes_ Try.func44 (by kernel_rfl) rfl #[.agg #[.int .i64 ((rd_T32 l0 x15_2).f0), .int .i64 ((rd_T32 l0 x15_2).f1)], .int .i64 a1] (by rfl) rfl rfl (by (try simp only [lM, lC, lN]); first | done | rfl | (simp only [lD, lT]; rfl)) ?_
          with_reducible refine (runs_within.calls ((rd_T32 l0 x15_2).f0) ((rd_T32 l0 x15_2).f1) a1 false _ A9.out).mono ?_
          rintro e w38 ⟨rfl, hb⟩
          refine ⟨_, rfl, ?_⟩
          have n0_ := aM (bB (g := gb348) (o := .cells #[.int .i64 ((rd_T32 l0 x15_2).f0), .int .i64 ((rd_T32 l0 x15_2).f1)] 32 (0, 0)) (by (with_reducible repeat (first | refine bN ?_ _ | refine bD ?_ | refine bA ?_ _)); exact BK348.out) hb)
          have n1_ := aM (wT (by repeat (first | (with_reducible first | exact HB.out | apply wA | apply wN_ | apply wD | refine wS ?_ GE348.out) | exact HB.out)) hb)
          clear BK348
          clear HB
          have BK348 := n0_
          have HB := n1_
          clear n0_ n1_
          (try clear hb)
          (try clear hb2)
          (try clear hk)
          (try clear hi)
          refine hK.out _ _ ⟨(bC BK348.out 0).trans rfl, (bC BK348.out 1).trans rfl⟩ (fun hHeld => ?_)
          clear hK K
          refine norm_ (a' := ?_) ?_ ?_
          rotate_left
          ·show Act.put _ (some 22) _ = _
           simp only [Act.put, lS, lZ, lU, i64_w, i32_w]
           rfl
          refine pure_ (i := 3) (N := some 23) (v := ?_) (a' := ?_) (msk 4 15) rfl rfl (any_of HT_.out (by kernel_rfl)) (fun _ _ _ h => h) (Or.inl ⟨by rfl, ?_⟩) ?_ ?_
          rotate_left
          ·intro w'
           go_simp
           with_reducible rfl
          rotate_left
          ·simp only [Act.put, lS, lZ, lU, i64_w, i32_w]
           rfl
          refine pure_ (i := 4) (N := some 24) (v := ?_) (a' := ?_) (msk 5 14) rfl rfl (any_of HT_.out (by kernel_rfl)) (fun _ _ _ h => h) (Or.inl ⟨by rfl, ?_⟩) ?_ ?_
          rotate_left
          ·intro w'
           go_simp
           with_reducible rfl
          rotate_left
          ·simp only [Act.put, lS, lZ, lU, i64_w, i32_w]
           rfl
          refine pure_ (i := 5) (N := some 25) (v := undef) (a' := ?_) (msk 6 13) rfl rfl (any_of HT_.out (by kernel_rfl)) (fun _ _ _ h => h) (Or.inr ⟨by rfl, rfl⟩) ?_ ?_
          rotate_left
          ·simp only [Act.put, lS, lZ, lU, i64_w, i32_w]
           rfl
          refine pure_ (i := 6) (N := some 26) (v := undef) (a' := ?_) (msk 7 12) rfl rfl (any_of HT_.out (by kernel_rfl)) (fun _ _ _ h => h) (Or.inr ⟨by rfl, rfl⟩) ?_ ?_
          rotate_left
          ·simp only [Act.put, lS, lZ, lU, i64_w, i32_w]
           rfl
          refine pure_ (i := 7) (N := some 27) (v := undef) (a' := ?_) (msk 8 11) rfl rfl (any_of HT_.out (by kernel_rfl)) (fun _ _ _ h => h) (Or.inr ⟨by rfl, rfl⟩) ?_ ?_
          rotate_left
          ·simp only [Act.put, lS, lZ, lU, i64_w, i32_w]
           rfl
          refine pure_ (i := 8) (N := some 28) (v := undef) (a' := ?_) (msk 9 10) rfl rfl (any_of HT_.out (by kernel_rfl)) (fun _ _ _ h => h) (Or.inr ⟨by rfl, rfl⟩) ?_ ?_
          rotate_left
          ·simp only [Act.put, lS, lZ, lU, i64_w, i32_w]
           rfl
          refine pure_ (i := 9) (N := some 29) (v := undef) (a' := ?_) (msk 10 9) rfl rfl (any_of HT_.out (by kernel_rfl)) (fun _ _ _ h => h) (Or.inr ⟨by rfl, rfl⟩) ?_ ?_
          rotate_left
          ·simp only [Act.put, lS, lZ, lU, i64_w, i32_w]
           rfl
          refine pure_ (i := 10) (N := some 30) (v := undef) (a' := ?_) (msk 11 8) rfl rfl (any_of HT_.out (by kernel_rfl)) (fun _ _ _ h => h) (Or.inr ⟨by rfl, rfl⟩) ?_ ?_
          rotate_left
          ·simp only [Act.put, lS, lZ, lU, i64_w, i32_w]
           rfl
          refine pure_ (i := 11) (N := some 31) (v := undef) (a' := ?_) (msk 12 7) rfl rfl (any_of HT_.out (by kernel_rfl)) (fun _ _ _ h => h) (Or.inr ⟨by rfl, rfl⟩) ?_ ?_
          rotate_left
          ·simp only [Act.put, lS, lZ, lU, i64_w, i32_w]
           rfl
          refine pure_ (i := 12) (N := some 32) (v := undef) (a' := ?_) (msk 13 6) rfl rfl (any_of HT_.out (by kernel_rfl)) (fun _ _ _ h => h) (Or.inr ⟨by rfl, rfl⟩) ?_ ?_
          rotate_left
          ·simp only [Act.put, lS, lZ, lU, i64_w, i32_w]
           rfl
          refine pure_ (i := 13) (N := some 33) (v := undef) (a' := ?_) (msk 14 5) rfl rfl (any_of HT_.out (by kernel_rfl)) (fun _ _ _ h => h) (Or.inr ⟨by rfl, rfl⟩) ?_ ?_
          rotate_left
          ·simp only [Act.put, lS, lZ, lU, i64_w, i32_w]
           rfl
          refine pure_ (i := 14) (N := some 34) (v := undef) (a' := ?_) (msk 15 4) rfl rfl (any_of HT_.out (by kernel_rfl)) (fun _ _ _ h => h) (Or.inr ⟨by rfl, rfl⟩) ?_ ?_
          rotate_left
          ·simp only [Act.put, lS, lZ, lU, i64_w, i32_w]
           rfl
          refine pure_ (i := 15) (N := some 35) (v := undef) (a' := ?_) (msk 16 3) rfl rfl (any_of HT_.out (by kernel_rfl)) (fun _ _ _ h => h) (Or.inr ⟨by rfl, rfl⟩) ?_ ?_
          rotate_left
          ·simp only [Act.put, lS, lZ, lU, i64_w, i32_w]
           rfl
          refine pure_ (i := 16) (N := some 36) (v := undef) (a' := ?_) (msk 17 2) rfl rfl (any_of HT_.out (by kernel_rfl)) (fun _ _ _ h => h) (Or.inr ⟨by rfl, rfl⟩) ?_ ?_
          rotate_left
          ·simp only [Act.put, lS, lZ, lU, i64_w, i32_w]
           rfl
          refine pure_ (i := 17) (N := some 37) (v := undef) (a' := ?_) (msk 18 1) rfl rfl (any_of HT_.out (by kernel_rfl)) (fun _ _ _ h => h) (Or.inr ⟨by rfl, rfl⟩) ?_ ?_
          rotate_left
          ·simp only [Act.put, lS, lZ, lU, i64_w, i32_w]
           rfl
          refine pure_ (i := 18) (N := some 38) (v := ?_) (a' := ?_) (msk 19 0) rfl rfl (any_of HT_.out (by kernel_rfl)) (fun _ _ _ h => h) (Or.inl ⟨by rfl, ?_⟩) ?_ ?_
          rotate_left
          ·intro w'
           go_simp
           with_reducible rfl
          rotate_left
          ·simp only [Act.put, lS, lZ, lU, i64_w, i32_w]
           rfl
          refine done_ (done_of HT_.out (by kernel_rfl)) ?_
          try go_wp2
          go_ret
          exact ⟨by first | rfl | (simp [errW_none, errW_some] <;> rfl) | (simp [*, errW_none, errW_some] <;> rfl), by repeat (first | (with_reducible first | exact HB.out | apply wA | apply wN_ | apply wD | refine wS ?_ GE348.out) | exact HB.out)⟩
        ·rw [if_neg c8] at H
         exact absurd H (by simp)
       ·rw [if_neg c7] at H
        exact absurd H (by simp)
      ·rw [if_neg c6] at H
       have c6b0 : decide (x15_2 < (l0.length : Int)) = false := decide_eq_false c6
       clear c6
       obtain rfl := Option.some.inj H
       go_wp2
       go_ret
       exact ⟨by first | rfl | (simp [errW_none, errW_some] <;> rfl) | (simp [*, errW_none, errW_some] <;> rfl), by repeat (first | (with_reducible first | exact HB.out | apply wA | apply wN_ | apply wD) | exact HB.out)⟩

end Go.Proofs.Ythbknmblehecaaa.Pr
