-- Printed by a program of this session (wip/tools/myprint.py) that runs the kit's print with contracts of this session's own.
import Derived.Test.YthbknmblehecaaaPrx0
import Derived.Test.YthbknmblehecaaaShort
namespace Go.Proofs.Ythbknmblehecaaa.Pr
open Go.RowKit Go.Proofs.YthbknmblehecaaaW.PrintWords Go.Proofs.YthbknmblehecaaaW.PrintLast Go.Proofs.YthbknmblehecaaaW.PrintMore
attribute [local go_sem] max2_int min2_int max_two min_two max_three min_three max_four min_four   -- for this text's walks alone
set_option linter.unusedVariables false
set_option linter.unusedSimpArgs false

-- NOT PRINTED: function 7 (rickyardlaw5_RunsWalk)

/-! ### rickyardref1_RightRuns: function 25 -/
mutual
def rickyardref1_RightRuns.j0 : Nat → List (S32) → Int → Bool → Option (Bool)
 | 0, _, _, _ => none
 | k + 1, x0, x1, x11 => if x11 = true then (some false) else (rickyardref1_RightRuns.l0 k x0 x1 0)
def rickyardref1_RightRuns.l0 : Nat → List (S32) → Int → Int → Option (Bool)
 | 0, _, _, _ => none
 | k + 1, x0, x1, x5 => if x5 < (x0.length : Int) then (if 0 ≤ x5 then (if ((rd_T32 x0 x5).f1) < 1 then (rickyardref1_RightRuns.j2 k x0 x1 x5 true) else (if ((rd_T32 x0 x5).f0) < 0 then (rickyardref1_RightRuns.j2 k x0 x1 x5 true) else (if ((rd_T32 x0 x5).f0) > x1 then (rickyardref1_RightRuns.j2 k x0 x1 x5 true) else (rickyardref1_RightRuns.j2 k x0 x1 x5 (decide (((rd_T32 x0 x5).f1) > (wrap64 (x1 - ((rd_T32 x0 x5).f0))))))))) else (none)) else (some true)
def rickyardref1_RightRuns.j2 : Nat → List (S32) → Int → Int → Bool → Option (Bool)
 | 0, _, _, _, _ => none
 | k + 1, x0, x1, x5, x55 => if x55 = true then (some false) else (if x5 > 0 then (if 0 ≤ x5 then (if x5 < (x0.length : Int) then (if 0 ≤ (wrap64 (x5 - 1)) then (if (wrap64 (x5 - 1)) < (x0.length : Int) then (if ((rd_T32 x0 x5).f0) ≤ (wrap64 (((rd_T32 x0 (wrap64 (x5 - 1))).f0) + ((rd_T32 x0 (wrap64 (x5 - 1))).f1))) then (some false) else (rickyardref1_RightRuns.l0 k x0 x1 (wrap64 (x5 + 1)))) else (none)) else (none)) else (none)) else (none)) else (rickyardref1_RightRuns.l0 k x0 x1 (wrap64 (x5 + 1))))
end
def rickyardref1_RightRuns.f (k : Nat) (l0 : List (S32)) (a1 : Int) : Option (Bool) := if a1 < 0 then (rickyardref1_RightRuns.j0 k l0 a1 true) else (rickyardref1_RightRuns.j0 k l0 a1 (decide (a1 > 256)))
theorem rickyardref1_RightRuns.mono_l : ∀ k, (∀ y0 y1 y2, LeO (rickyardref1_RightRuns.j0 k y0 y1 y2) (rickyardref1_RightRuns.j0 (k + 1) y0 y1 y2)) ∧ (∀ y0 y1 y2, LeO (rickyardref1_RightRuns.l0 k y0 y1 y2) (rickyardref1_RightRuns.l0 (k + 1) y0 y1 y2)) ∧ (∀ y0 y1 y2 y3, LeO (rickyardref1_RightRuns.j2 k y0 y1 y2 y3) (rickyardref1_RightRuns.j2 (k + 1) y0 y1 y2 y3))
 | 0 => ⟨fun _ _ _ r h => by simp [rickyardref1_RightRuns.j0] at h, fun _ _ _ r h => by simp [rickyardref1_RightRuns.l0] at h, fun _ _ _ _ r h => by simp [rickyardref1_RightRuns.j2] at h⟩
 | k + 1 => by
  obtain ⟨ih0, ih1, ih2⟩ := rickyardref1_RightRuns.mono_l k
  refine ⟨?_, ?_, ?_⟩
  ·intro y0 y1 y2
   unfold rickyardref1_RightRuns.j0
   repeat' first
   | (with_reducible exact ih0 _ _ _)
   | (with_reducible exact ih1 _ _ _)
   | (with_reducible exact ih2 _ _ _ _)
   | (with_reducible exact LeO.refl _)
   | (with_reducible exact LeO.none _)
   | (with_reducible refine LeO.ite ?_ ?_)
   | (with_reducible refine LeO.bind ?_ (fun _ => ?_))
   | exact ih0 _ _ _
   | exact ih1 _ _ _
   | exact ih2 _ _ _ _
   | exact LeO.none _
   | refine LeO.ite ?_ ?_
   | refine LeO.bind ?_ (fun _ => ?_)
  ·intro y0 y1 y2
   unfold rickyardref1_RightRuns.l0
   repeat' first
   | (with_reducible exact ih0 _ _ _)
   | (with_reducible exact ih1 _ _ _)
   | (with_reducible exact ih2 _ _ _ _)
   | (with_reducible exact LeO.refl _)
   | (with_reducible exact LeO.none _)
   | (with_reducible refine LeO.ite ?_ ?_)
   | (with_reducible refine LeO.bind ?_ (fun _ => ?_))
   | exact ih0 _ _ _
   | exact ih1 _ _ _
   | exact ih2 _ _ _ _
   | exact LeO.none _
   | refine LeO.ite ?_ ?_
   | refine LeO.bind ?_ (fun _ => ?_)
  ·intro y0 y1 y2 y3
   unfold rickyardref1_RightRuns.j2
   repeat' first
   | (with_reducible exact ih0 _ _ _)
   | (with_reducible exact ih1 _ _ _)
   | (with_reducible exact ih2 _ _ _ _)
   | (with_reducible exact LeO.refl _)
   | (with_reducible exact LeO.none _)
   | (with_reducible refine LeO.ite ?_ ?_)
   | (with_reducible refine LeO.bind ?_ (fun _ => ?_))
   | exact ih0 _ _ _
   | exact ih1 _ _ _
   | exact ih2 _ _ _ _
   | exact LeO.none _
   | refine LeO.ite ?_ ?_
   | refine LeO.bind ?_ (fun _ => ?_)
theorem rickyardref1_RightRuns.mono : ∀ a0 a1 k, LeO (rickyardref1_RightRuns.f k a0 a1) (rickyardref1_RightRuns.f (k + 1) a0 a1) := by
 intro a0 a1 k
 obtain ⟨ih0, ih1, ih2⟩ := rickyardref1_RightRuns.mono_l k
 unfold rickyardref1_RightRuns.f
 repeat' first
   | (with_reducible exact ih0 _ _ _)
   | (with_reducible exact ih1 _ _ _)
   | (with_reducible exact ih2 _ _ _ _)
   | (with_reducible exact LeO.refl _)
   | (with_reducible exact LeO.none _)
   | (with_reducible refine LeO.ite ?_ ?_)
   | (with_reducible refine LeO.bind ?_ (fun _ => ?_))
   | exact ih0 _ _ _
   | exact ih1 _ _ _
   | exact ih2 _ _ _ _
   | exact LeO.none _
   | refine LeO.ite ?_ ?_
   | refine LeO.bind ?_ (fun _ => ?_)
set_option maxHeartbeats 8000000 in
set_option maxRecDepth 100000 in
theorem rickyardref1_RightRuns.calls (k : Nat) (A0 : Option Addr) (c0 : Nat) (l0 : List (S32)) (a1 : Int) (r : Bool) (w : World) (hr0 : Kd.C k32 w A0 l0.length l0) (hc0 : l0.length ≤ c0) (h : rickyardref1_RightRuns.f k l0 a1 = some r) :
  Calls Try.prog 25 #[.slice A0 l0.length c0, .int .i64 a1] w fun e w' => e = .returned (.bool r) ∧ Drawn0 w w' := by
 have HR0 := aM hr0
 have HC0 := aM hc0
 clear hr0 hc0
 have H : (if a1 < 0 then (rickyardref1_RightRuns.j0 k l0 a1 true) else (rickyardref1_RightRuns.j0 k l0 a1 (decide (a1 > 256)))) = some r := h
 clear h
 have HC3 := aM H
 clear H
 go_enter Try.func25, Try.ntmps25
 go_upto_region 1 with (fail)
 repeat (go_quiet (fail); go_upto_region 1 with (fail))
 go_cut [11] (fun v11 wc => ∃ (kq : Nat) (x11_2 : Bool), v11 = .bool x11_2 ∧ Aside0 (rickyardref1_RightRuns.j0 kq l0 a1 x11_2 = some r) ∧ Aside0 (kq ≤ k) ∧ Drawn0 w wc)
 case first =>
  have H := HC3.out
  clear HC3
  by_cases c4 : a1 < 0
  ·rw [if_pos c4] at H
   have c4b0 : decide (a1 < 0) = true := decide_eq_true c4
   clear c4
   (first | rw [c4b0] | (simp only [i64_w, i32_w]; rw [c4b0]) | skip)
   have H' := aM H
   clear H
   go_wp2
   repeat (go_quiet (fail);try go_wp2)
   go_meet
   case rel => exact ⟨_,(true),(by first|rfl|(simp;done)|(simp [*];done)),H',⟨by first|omega|exact Nat.le_refl _⟩,by repeat (first|exact Drawn0.refl _|apply Drawn0.step)⟩
  ·rw [if_neg c4] at H
   have c4b0 : decide (a1 < 0) = false := decide_eq_false c4
   clear c4
   (first | rw [c4b0] | (simp only [i64_w, i32_w]; rw [c4b0]) | skip)
   have H' := aM H
   clear H
   go_wp2
   repeat (go_quiet (fail);try go_wp2)
   go_meet
   case rel => exact ⟨_,(decide (a1 > 256)),(by first|rfl|(simp;done)|(simp [*];done)),H',⟨by first|omega|exact Nat.le_refl _⟩,by repeat (first|exact Drawn0.refl _|apply Drawn0.step)⟩
 case rest =>
  clear HC3
  try clear c2
  try clear p2
  try clear c4
  try clear c4b0
  obtain ⟨kq, x11_2, rfl, HA, HJ2, ⟨mc2, rfl⟩⟩ := hcut
  cases kq with
  | zero => exact absurd HA.out (by simp [rickyardref1_RightRuns.j0])
  | succ kj2 =>
   have H := HA.out
   clear HA
   simp only [rickyardref1_RightRuns.j0] at H
   by_cases c5 : x11_2 = true
   ·subst c5
    have H1 : (some false) = some r := by rw [if_pos rfl] at H; exact H
    clear H
    have H := H1
    clear H1
    obtain rfl := Option.some.inj H
    go_wp2
    repeat (go_quiet (fail);try go_wp2)
    go_ret
    exact ⟨by first | rfl | (simp; done) | (simp [*]; done), by repeat (first | exact Drawn0.refl _ | apply Drawn0.step)⟩
   ·replace c5 := Bool.eq_false_iff.mpr c5
    subst c5
    have H1 : (rickyardref1_RightRuns.l0 kj2 l0 a1 0) = some r := by rw [if_neg (show ¬ (false = true) by decide)] at H; exact H
    clear H
    have H := H1
    clear H1
    have H' := aM H
    clear H
    go_wp2
    repeat (go_quiet (fail);try go_wp2)
    go_loopg [5] kj2 (fun kq v5 w' => ∃ (x5_2 : Int), v5 = .int .i64 x5_2 ∧ Aside0 (rickyardref1_RightRuns.l0 kq l0 a1 x5_2 = some r) ∧ Aside0 (kq ≤ kj2) ∧ Drawn0 w w')
    case atStart => exact ⟨(0),(by first|rfl|(simp;done)|(simp [*];done)),H',⟨Nat.le_refl _⟩,by repeat (first|exact Drawn0.refl _|apply Drawn0.step)⟩
    case round =>
     clear H'
     try clear c2
     try clear p2
     try clear c4
     try clear c4b0
     try clear c5
     try clear p2
     obtain ⟨x5_2, rfl, HA, HK2, ⟨m2, rfl⟩⟩ := hrel
     cases gk with
     | zero => exact absurd HA.out (by simp [rickyardref1_RightRuns.l0])
     | succ k2 =>
      have H := HA.out
      clear HA
      simp only [rickyardref1_RightRuns.l0] at H
      by_cases c6 : x5_2 < (l0.length : Int)
      ·rw [if_pos c6] at H
       have c6b0 : decide (x5_2 < (l0.length : Int)) = true := decide_eq_true c6
       clear c6
       have HC7 := aM H
       clear H
       go_upto_region 6 with (fail)
       repeat (go_quiet (fail); go_upto_region 6 with (fail))
       go_cut [55] (fun v55 wc => ∃ (kq : Nat) (x55_6 : Bool), v55 = .bool x55_6 ∧ Aside0 (rickyardref1_RightRuns.j2 kq l0 a1 x5_2 x55_6 = some r) ∧ Aside0 (kq ≤ k2) ∧ Drawn0 w wc)
       case first =>
        have H := HC7.out
        clear HC7
        by_cases c8 : 0 ≤ x5_2
        ·rw [if_pos c8] at H
         have c8b0 : decide (0 ≤ x5_2) = true := decide_eq_true c8
         clear c8
         (first | rw [c8b0] | (simp only [i64_w, i32_w]; rw [c8b0]) | skip)
         by_cases c9 : ((rd_T32 l0 x5_2).f1) < 1
         ·rw [if_pos c9] at H
          have c9b0 : decide (((rd_T32 l0 x5_2).f1) < 1) = true := decide_eq_true c9
          clear c9
          have H' := aM H
          clear H
          have p380 : 0 ≤ (x5_2 : Int) := oD (by first | (with_reducible assumption) | assumption)
          have q380 : x5_2 < (l0.length : Int) := oD (by first | (with_reducible assumption) | assumption)
          obtain ⟨ad380, e380, hx380_0, hx380_1⟩ := at_T32 HR0.out x5_2 p380 q380
          cases e380
          replace p380 := eq_true p380
          replace q380 := eq_true q380
          go_wp2
          repeat (go_quiet (fail);try go_wp2)
          go_meet
          case rel => exact ⟨_,(true),(by first|rfl|(simp;done)|(simp [*];done)),H',⟨by have:=HJ2.out;have:=HK2.out;first|omega|exact Nat.le_refl _⟩,by repeat (first|exact Drawn0.refl _|apply Drawn0.step)⟩
         ·rw [if_neg c9] at H
          have c9b0 : decide (((rd_T32 l0 x5_2).f1) < 1) = false := decide_eq_false c9
          clear c9
          by_cases c10 : ((rd_T32 l0 x5_2).f0) < 0
          ·rw [if_pos c10] at H
           have c10b0 : decide (((rd_T32 l0 x5_2).f0) < 0) = true := decide_eq_true c10
           clear c10
           have H' := aM H
           clear H
           have p380 : 0 ≤ (x5_2 : Int) := oD (by first | (with_reducible assumption) | assumption)
           have q380 : x5_2 < (l0.length : Int) := oD (by first | (with_reducible assumption) | assumption)
           obtain ⟨ad380, e380, hx380_0, hx380_1⟩ := at_T32 HR0.out x5_2 p380 q380
           cases e380
           replace p380 := eq_true p380
           replace q380 := eq_true q380
           have p381 : 0 ≤ (x5_2 : Int) := oD (by first | (with_reducible assumption) | assumption)
           have q381 : x5_2 < (l0.length : Int) := oD (by first | (with_reducible assumption) | assumption)
           obtain ⟨ad381, e381, hx381_0, hx381_1⟩ := at_T32 HR0.out x5_2 p381 q381
           obtain rfl : ad380 = ad381 := (by injection e381)
           replace p381 := eq_true p381
           replace q381 := eq_true q381
           go_wp2
           repeat (go_quiet (fail);try go_wp2)
           go_meet
           case rel => exact ⟨_,(true),(by first|rfl|(simp;done)|(simp [*];done)),H',⟨by have:=HJ2.out;have:=HK2.out;first|omega|exact Nat.le_refl _⟩,by repeat (first|exact Drawn0.refl _|apply Drawn0.step)⟩
          ·rw [if_neg c10] at H
           have c10b0 : decide (((rd_T32 l0 x5_2).f0) < 0) = false := decide_eq_false c10
           clear c10
           by_cases c11 : ((rd_T32 l0 x5_2).f0) > a1
           ·rw [if_pos c11] at H
            have c11b0 : decide (a1 < ((rd_T32 l0 x5_2).f0)) = true := decide_eq_true c11
            clear c11
            have H' := aM H
            clear H
            have p380 : 0 ≤ (x5_2 : Int) := oD (by first | (with_reducible assumption) | assumption)
            have q380 : x5_2 < (l0.length : Int) := oD (by first | (with_reducible assumption) | assumption)
            obtain ⟨ad380, e380, hx380_0, hx380_1⟩ := at_T32 HR0.out x5_2 p380 q380
            cases e380
            replace p380 := eq_true p380
            replace q380 := eq_true q380
            have p381 : 0 ≤ (x5_2 : Int) := oD (by first | (with_reducible assumption) | assumption)
            have q381 : x5_2 < (l0.length : Int) := oD (by first | (with_reducible assumption) | assumption)
            obtain ⟨ad381, e381, hx381_0, hx381_1⟩ := at_T32 HR0.out x5_2 p381 q381
            obtain rfl : ad380 = ad381 := (by injection e381)
            replace p381 := eq_true p381
            replace q381 := eq_true q381
            have p382 : 0 ≤ (x5_2 : Int) := oD (by first | (with_reducible assumption) | assumption)
            have q382 : x5_2 < (l0.length : Int) := oD (by first | (with_reducible assumption) | assumption)
            obtain ⟨ad382, e382, hx382_0, hx382_1⟩ := at_T32 HR0.out x5_2 p382 q382
            obtain rfl : ad380 = ad382 := (by injection e382)
            replace p382 := eq_true p382
            replace q382 := eq_true q382
            go_wp2
            repeat (go_quiet (fail);try go_wp2)
            go_meet
            case rel => exact ⟨_,(true),(by first|rfl|(simp;done)|(simp [*];done)),H',⟨by have:=HJ2.out;have:=HK2.out;first|omega|exact Nat.le_refl _⟩,by repeat (first|exact Drawn0.refl _|apply Drawn0.step)⟩
           ·rw [if_neg c11] at H
            have c11b0 : decide (a1 < ((rd_T32 l0 x5_2).f0)) = false := decide_eq_false c11
            clear c11
            have H' := aM H
            clear H
            have p380 : 0 ≤ (x5_2 : Int) := oD (by first | (with_reducible assumption) | assumption)
            have q380 : x5_2 < (l0.length : Int) := oD (by first | (with_reducible assumption) | assumption)
            obtain ⟨ad380, e380, hx380_0, hx380_1⟩ := at_T32 HR0.out x5_2 p380 q380
            cases e380
            replace p380 := eq_true p380
            replace q380 := eq_true q380
            have p381 : 0 ≤ (x5_2 : Int) := oD (by first | (with_reducible assumption) | assumption)
            have q381 : x5_2 < (l0.length : Int) := oD (by first | (with_reducible assumption) | assumption)
            obtain ⟨ad381, e381, hx381_0, hx381_1⟩ := at_T32 HR0.out x5_2 p381 q381
            obtain rfl : ad380 = ad381 := (by injection e381)
            replace p381 := eq_true p381
            replace q381 := eq_true q381
            have p382 : 0 ≤ (x5_2 : Int) := oD (by first | (with_reducible assumption) | assumption)
            have q382 : x5_2 < (l0.length : Int) := oD (by first | (with_reducible assumption) | assumption)
            obtain ⟨ad382, e382, hx382_0, hx382_1⟩ := at_T32 HR0.out x5_2 p382 q382
            obtain rfl : ad380 = ad382 := (by injection e382)
            replace p382 := eq_true p382
            replace q382 := eq_true q382
            have p383 : 0 ≤ (x5_2 : Int) := oD (by first | (with_reducible assumption) | assumption)
            have q383 : x5_2 < (l0.length : Int) := oD (by first | (with_reducible assumption) | assumption)
            obtain ⟨ad383, e383, hx383_0, hx383_1⟩ := at_T32 HR0.out x5_2 p383 q383
            obtain rfl : ad380 = ad383 := (by injection e383)
            replace p383 := eq_true p383
            replace q383 := eq_true q383
            have p384 : 0 ≤ (x5_2 : Int) := oD (by first | (with_reducible assumption) | assumption)
            have q384 : x5_2 < (l0.length : Int) := oD (by first | (with_reducible assumption) | assumption)
            obtain ⟨ad384, e384, hx384_0, hx384_1⟩ := at_T32 HR0.out x5_2 p384 q384
            obtain rfl : ad380 = ad384 := (by injection e384)
            replace p384 := eq_true p384
            replace q384 := eq_true q384
            go_wp2
            repeat (go_quiet (fail);try go_wp2)
            go_meet
            case rel => exact ⟨_,(decide (((rd_T32 l0 x5_2).f1) > (wrap64 (a1 - ((rd_T32 l0 x5_2).f0))))),(by first|rfl|(simp;done)|(simp [*];done)),H',⟨by have:=HJ2.out;have:=HK2.out;first|omega|exact Nat.le_refl _⟩,by repeat (first|exact Drawn0.refl _|apply Drawn0.step)⟩
        ·rw [if_neg c8] at H
         exact absurd H (by simp)
       case rest =>
        clear HC7
        try clear c1
        try clear c2
        try clear p2
        try clear p3
        try clear q3
        try clear hx3
        try clear c4
        try clear c4b0
        try clear c5
        try clear c6
        try clear c6b0
        try clear p6
        try clear c8
        try clear c8b0
        try clear c9
        try clear c9b0
        try clear c10
        try clear c10b0
        try clear c11
        try clear c11b0
        try clear hx380_0
        try clear hx380_1
        try clear hx381_0
        try clear hx381_1
        try clear hx382_0
        try clear hx382_1
        try clear hx383_0
        try clear hx383_1
        try clear hx384_0
        try clear hx384_1
        try clear p2
        try clear p380
        try clear p381
        try clear p382
        try clear p383
        try clear p384
        try clear q380
        try clear q381
        try clear q382
        try clear q383
        try clear q384
        obtain ⟨kq, x55_6, rfl, HA, HJ6, ⟨mc6, rfl⟩⟩ := hcut
        cases kq with
        | zero => exact absurd HA.out (by simp [rickyardref1_RightRuns.j2])
        | succ kj6 =>
         have H := HA.out
         clear HA
         simp only [rickyardref1_RightRuns.j2] at H
         by_cases c12 : x55_6 = true
         ·subst c12
          have H1 : (some false) = some r := by rw [if_pos rfl] at H; exact H
          clear H
          have H := H1
          clear H1
          obtain rfl := Option.some.inj H
          go_wp2
          repeat (go_quiet (fail);try go_wp2)
          go_ret
          exact ⟨by first | rfl | (simp; done) | (simp [*]; done), by repeat (first | exact Drawn0.refl _ | apply Drawn0.step)⟩
         ·replace c12 := Bool.eq_false_iff.mpr c12
          subst c12
          have H1 : (if x5_2 > 0 then (if 0 ≤ x5_2 then (if x5_2 < (l0.length : Int) then (if 0 ≤ (wrap64 (x5_2 - 1)) then (if (wrap64 (x5_2 - 1)) < (l0.length : Int) then (if ((rd_T32 l0 x5_2).f0) ≤ (wrap64 (((rd_T32 l0 (wrap64 (x5_2 - 1))).f0) + ((rd_T32 l0 (wrap64 (x5_2 - 1))).f1))) then (some false) else (rickyardref1_RightRuns.l0 kj6 l0 a1 (wrap64 (x5_2 + 1)))) else (none)) else (none)) else (none)) else (none)) else (rickyardref1_RightRuns.l0 kj6 l0 a1 (wrap64 (x5_2 + 1)))) = some r := by rw [if_neg (show ¬ (false = true) by decide)] at H; exact H
          clear H
          have H := H1
          clear H1
          by_cases c13 : x5_2 > 0
          ·rw [if_pos c13] at H
           have c13b0 : decide (0 < x5_2) = true := decide_eq_true c13
           clear c13
           by_cases c14 : 0 ≤ x5_2
           ·rw [if_pos c14] at H
            have c14b0 : decide (0 ≤ x5_2) = true := decide_eq_true c14
            clear c14
            by_cases c15 : x5_2 < (l0.length : Int)
            ·rw [if_pos c15] at H
             have c15b0 : decide (x5_2 < (l0.length : Int)) = true := decide_eq_true c15
             clear c15
             obtain ⟨ji16, hji16⟩ : ∃ j_ : Int, (wrap64 (x5_2 - 1)) = j_ := ⟨_, rfl⟩
             replace H : (if 0 ≤ (ji16) then (if (ji16) < (l0.length : Int) then (if ((rd_T32 l0 x5_2).f0) ≤ (wrap64 (((rd_T32 l0 (ji16)).f0) + ((rd_T32 l0 (ji16)).f1))) then (some false) else (rickyardref1_RightRuns.l0 kj6 l0 a1 (wrap64 (x5_2 + 1)))) else (none)) else (none)) = some r := by first | (rw [hji16] at H; exact H) | (simp only [hji16] at H ⊢; exact H)
             have hji16w : (IntKind.i64.wrap (x5_2 - 1)) = ji16 := (i64_w _).trans hji16
             by_cases c17 : 0 ≤ (ji16)
             ·rw [if_pos c17] at H
              have c17b0 : decide (0 ≤ (ji16)) = true := decide_eq_true c17
              clear c17
              by_cases c18 : (ji16) < (l0.length : Int)
              ·rw [if_pos c18] at H
               have c18b0 : decide ((ji16) < (l0.length : Int)) = true := decide_eq_true c18
               clear c18
               by_cases c19 : ((rd_T32 l0 x5_2).f0) ≤ (wrap64 (((rd_T32 l0 (ji16)).f0) + ((rd_T32 l0 (ji16)).f1)))
               ·rw [if_pos c19] at H
                have c19b0 : decide (((rd_T32 l0 x5_2).f0) ≤ (wrap64 (((rd_T32 l0 (ji16)).f0) + ((rd_T32 l0 (ji16)).f1)))) = true := decide_eq_true c19
                clear c19
                obtain rfl := Option.some.inj H
                have p385 : 0 ≤ (x5_2 : Int) := oD (by first | (with_reducible assumption) | assumption)
                have q385 : x5_2 < (l0.length : Int) := oD (by first | (with_reducible assumption) | assumption)
                obtain ⟨ad385, e385, hx385_0, hx385_1⟩ := at_T32 HR0.out x5_2 p385 q385
                cases e385
                replace p385 := eq_true p385
                replace q385 := eq_true q385
                have p386 : 0 ≤ ((ji16) : Int) := oD (by first | (with_reducible assumption) | assumption)
                have q386 : (ji16) < (l0.length : Int) := oD (by first | (with_reducible assumption) | assumption)
                obtain ⟨ad386, e386, hx386_0, hx386_1⟩ := at_T32 HR0.out (ji16) p386 q386
                obtain rfl : ad385 = ad386 := (by injection e386)
                replace p386 := eq_true p386
                replace q386 := eq_true q386
                have p387 : 0 ≤ ((ji16) : Int) := oD (by first | (with_reducible assumption) | assumption)
                have q387 : (ji16) < (l0.length : Int) := oD (by first | (with_reducible assumption) | assumption)
                obtain ⟨ad387, e387, hx387_0, hx387_1⟩ := at_T32 HR0.out (ji16) p387 q387
                obtain rfl : ad385 = ad387 := (by injection e387)
                replace p387 := eq_true p387
                replace q387 := eq_true q387
                go_wp2
                repeat (go_quiet (fail);try go_wp2)
                go_ret
                exact ⟨by first | rfl | (simp; done) | (simp only [← hji16] <;> (first | rfl | simp)) | (simp [*]; done), by repeat (first | exact Drawn0.refl _ | apply Drawn0.step)⟩
               ·rw [if_neg c19] at H
                have c19b0 : decide (((rd_T32 l0 x5_2).f0) ≤ (wrap64 (((rd_T32 l0 (ji16)).f0) + ((rd_T32 l0 (ji16)).f1)))) = false := decide_eq_false c19
                clear c19
                have H' := aM H
                clear H
                have p385 : 0 ≤ (x5_2 : Int) := oD (by first | (with_reducible assumption) | assumption)
                have q385 : x5_2 < (l0.length : Int) := oD (by first | (with_reducible assumption) | assumption)
                obtain ⟨ad385, e385, hx385_0, hx385_1⟩ := at_T32 HR0.out x5_2 p385 q385
                cases e385
                replace p385 := eq_true p385
                replace q385 := eq_true q385
                have p386 : 0 ≤ ((ji16) : Int) := oD (by first | (with_reducible assumption) | assumption)
                have q386 : (ji16) < (l0.length : Int) := oD (by first | (with_reducible assumption) | assumption)
                obtain ⟨ad386, e386, hx386_0, hx386_1⟩ := at_T32 HR0.out (ji16) p386 q386
                obtain rfl : ad385 = ad386 := (by injection e386)
                replace p386 := eq_true p386
                replace q386 := eq_true q386
                have p387 : 0 ≤ ((ji16) : Int) := oD (by first | (with_reducible assumption) | assumption)
                have q387 : (ji16) < (l0.length : Int) := oD (by first | (with_reducible assumption) | assumption)
                obtain ⟨ad387, e387, hx387_0, hx387_1⟩ := at_T32 HR0.out (ji16) p387 q387
                obtain rfl : ad385 = ad387 := (by injection e387)
                replace p387 := eq_true p387
                replace q387 := eq_true q387
                go_wp2
                repeat (go_quiet (fail);try go_wp2)
                go_roundg kj6
                case measure => have:=HJ2.out;have:=HK2.out;have:=HJ6.out;omega
                case rel => exact ⟨(wrap64 (x5_2 + 1)),(by first|rfl|(simp;done)|(simp [*];done)),H',⟨by have:=HJ2.out;have:=HK2.out;have:=HJ6.out;omega⟩,by repeat (first|exact Drawn0.refl _|apply Drawn0.step)⟩
              ·rw [if_neg c18] at H
               exact absurd H (by simp)
             ·rw [if_neg c17] at H
              exact absurd H (by simp)
            ·rw [if_neg c15] at H
             exact absurd H (by simp)
           ·rw [if_neg c14] at H
            exact absurd H (by simp)
          ·rw [if_neg c13] at H
           have c13b0 : decide (0 < x5_2) = false := decide_eq_false c13
           clear c13
           have H' := aM H
           clear H
           go_wp2
           repeat (go_quiet (fail);try go_wp2)
           go_roundg kj6
           case measure => have:=HJ2.out;have:=HK2.out;have:=HJ6.out;omega
           case rel => exact ⟨(wrap64 (x5_2 + 1)),(by first|rfl|(simp;done)|(simp [*];done)),H',⟨by have:=HJ2.out;have:=HK2.out;have:=HJ6.out;omega⟩,by repeat (first|exact Drawn0.refl _|apply Drawn0.step)⟩
      ·rw [if_neg c6] at H
       have c6b0 : decide (x5_2 < (l0.length : Int)) = false := decide_eq_false c6
       clear c6
       obtain rfl := Option.some.inj H
       go_wp2
       repeat (go_quiet (fail);try go_wp2)
       go_ret
       exact ⟨by first | rfl | (simp; done) | (simp [*]; done), by repeat (first | exact Drawn0.refl _ | apply Drawn0.step)⟩

/-! ### rickyardref1_Total: function 51 -/
def rickyardref1_Total.l0 : Nat → List (S32) → Int → Int → Option (Int)
 | 0, _, _, _ => none
 | k + 1, x0, x3, x4 => if x4 < (x0.length : Int) then (if 0 ≤ x4 then (rickyardref1_Total.l0 k x0 (wrap64 (x3 + ((rd_T32 x0 x4).f1))) (wrap64 (x4 + 1))) else (none)) else (some x3)
def rickyardref1_Total.f (k : Nat) (l0 : List (S32)) : Option (Int) := rickyardref1_Total.l0 k l0 0 0
theorem rickyardref1_Total.mono_l : ∀ k, (∀ y0 y1 y2, LeO (rickyardref1_Total.l0 k y0 y1 y2) (rickyardref1_Total.l0 (k + 1) y0 y1 y2))
 | 0 => fun _ _ _ r h => by simp [rickyardref1_Total.l0] at h
 | k + 1 => by
  have ih0 := rickyardref1_Total.mono_l k
  ·intro y0 y1 y2
   unfold rickyardref1_Total.l0
   repeat' first
   | (with_reducible exact ih0 _ _ _)
   | (with_reducible exact LeO.refl _)
   | (with_reducible exact LeO.none _)
   | (with_reducible refine LeO.ite ?_ ?_)
   | (with_reducible refine LeO.bind ?_ (fun _ => ?_))
   | exact ih0 _ _ _
   | exact LeO.none _
   | refine LeO.ite ?_ ?_
   | refine LeO.bind ?_ (fun _ => ?_)
theorem rickyardref1_Total.mono : ∀ a0 k, LeO (rickyardref1_Total.f k a0) (rickyardref1_Total.f (k + 1) a0) := by
 intro a0 k
 have ih0 := rickyardref1_Total.mono_l k
 unfold rickyardref1_Total.f
 repeat' first
   | (with_reducible exact ih0 _ _ _)
   | (with_reducible exact LeO.refl _)
   | (with_reducible exact LeO.none _)
   | (with_reducible refine LeO.ite ?_ ?_)
   | (with_reducible refine LeO.bind ?_ (fun _ => ?_))
   | exact ih0 _ _ _
   | exact LeO.none _
   | refine LeO.ite ?_ ?_
   | refine LeO.bind ?_ (fun _ => ?_)
set_option maxHeartbeats 8000000 in
set_option maxRecDepth 100000 in
theorem rickyardref1_Total.calls (k : Nat) (A0 : Option Addr) (c0 : Nat) (l0 : List (S32)) (r : Int) (w : World) (hr0 : Kd.C k32 w A0 l0.length l0) (hc0 : l0.length ≤ c0) (h : rickyardref1_Total.f k l0 = some r) :
  Calls Try.prog 51 #[.slice A0 l0.length c0] w fun e w' => e = .returned (.int .i64 r) ∧ Drawn0 w w' := by
 have HR0 := aM hr0
 have HC0 := aM hc0
 clear hr0 hc0
 have H : (rickyardref1_Total.l0 k l0 0 0) = some r := h
 clear h
 have H' := aM H
 clear H
 go_enter Try.func51, Try.ntmps51
 go_wp2
 go_loopg [3, 4] k (fun kq v3 v4 w' => ∃ (x3_1 : Int) (x4_1 : Int), v3 = .int .i64 x3_1 ∧ v4 = .int .i64 x4_1 ∧ Aside0 (rickyardref1_Total.l0 kq l0 x3_1 x4_1 = some r) ∧ Aside0 (kq ≤ k) ∧ Drawn0 w w')
 case atStart => exact ⟨(0),(0),(by first|rfl|(simp;done)|(simp [*];done)),(by first|rfl|(simp;done)|(simp [*];done)),H',⟨Nat.le_refl _⟩,by repeat (first|exact Drawn0.refl _|apply Drawn0.step)⟩
 case round =>
  clear H'
  obtain ⟨x3_1, x4_1, rfl, rfl, HA, HK1, ⟨m1, rfl⟩⟩ := hrel
  cases gk with
  | zero => exact absurd HA.out (by simp [rickyardref1_Total.l0])
  | succ k1 =>
   have H := HA.out
   clear HA
   simp only [rickyardref1_Total.l0] at H
   by_cases c2 : x4_1 < (l0.length : Int)
   ·rw [if_pos c2] at H
    have c2b0 : decide (x4_1 < (l0.length : Int)) = true := decide_eq_true c2
    clear c2
    by_cases c3 : 0 ≤ x4_1
    ·rw [if_pos c3] at H
     have c3b0 : decide (0 ≤ x4_1) = true := decide_eq_true c3
     clear c3
     have H' := aM H
     clear H
     have p388 : 0 ≤ (x4_1 : Int) := oD (by first | (with_reducible assumption) | assumption)
     have q388 : x4_1 < (l0.length : Int) := oD (by first | (with_reducible assumption) | assumption)
     obtain ⟨ad388, e388, hx388_0, hx388_1⟩ := at_T32 HR0.out x4_1 p388 q388
     cases e388
     replace p388 := eq_true p388
     replace q388 := eq_true q388
     go_wp2
     go_roundg k1
     case measure => have:=HK1.out;omega
     case rel => exact ⟨(wrap64 (x3_1 + ((rd_T32 l0 x4_1).f1))),(wrap64 (x4_1 + 1)),(by first|rfl|(simp;done)|(simp [*];done)),(by first|rfl|(simp;done)|(simp [*];done)),H',⟨by have:=HK1.out;omega⟩,by repeat (first|exact Drawn0.refl _|apply Drawn0.step)⟩
    ·rw [if_neg c3] at H
     exact absurd H (by simp)
   ·rw [if_neg c2] at H
    have c2b0 : decide (x4_1 < (l0.length : Int)) = false := decide_eq_false c2
    clear c2
    obtain rfl := Option.some.inj H
    go_wp2
    go_ret
    exact ⟨by first | rfl | (simp; done) | (simp [*]; done), by repeat (first | exact Drawn0.refl _ | apply Drawn0.step)⟩

/-! ### rickyardref1_Most: function 52 -/
def rickyardref1_Most.l0 : Nat → List (S32) → Int → Int → Option (Int)
 | 0, _, _, _ => none
 | k + 1, x0, x3, x4 => if x4 < (x0.length : Int) then (if 0 ≤ x4 then (rickyardref1_Most.l0 k x0 (mx x3 ((rd_T32 x0 x4).f1)) (wrap64 (x4 + 1))) else (none)) else (some x3)
def rickyardref1_Most.f (k : Nat) (l0 : List (S32)) : Option (Int) := rickyardref1_Most.l0 k l0 0 0
theorem rickyardref1_Most.mono_l : ∀ k, (∀ y0 y1 y2, LeO (rickyardref1_Most.l0 k y0 y1 y2) (rickyardref1_Most.l0 (k + 1) y0 y1 y2))
 | 0 => fun _ _ _ r h => by simp [rickyardref1_Most.l0] at h
 | k + 1 => by
  have ih0 := rickyardref1_Most.mono_l k
  ·intro y0 y1 y2
   unfold rickyardref1_Most.l0
   repeat' first
   | (with_reducible exact ih0 _ _ _)
   | (with_reducible exact LeO.refl _)
   | (with_reducible exact LeO.none _)
   | (with_reducible refine LeO.ite ?_ ?_)
   | (with_reducible refine LeO.bind ?_ (fun _ => ?_))
   | exact ih0 _ _ _
   | exact LeO.none _
   | refine LeO.ite ?_ ?_
   | refine LeO.bind ?_ (fun _ => ?_)
theorem rickyardref1_Most.mono : ∀ a0 k, LeO (rickyardref1_Most.f k a0) (rickyardref1_Most.f (k + 1) a0) := by
 intro a0 k
 have ih0 := rickyardref1_Most.mono_l k
 unfold rickyardref1_Most.f
 repeat' first
   | (with_reducible exact ih0 _ _ _)
   | (with_reducible exact LeO.refl _)
   | (with_reducible exact LeO.none _)
   | (with_reducible refine LeO.ite ?_ ?_)
   | (with_reducible refine LeO.bind ?_ (fun _ => ?_))
   | exact ih0 _ _ _
   | exact LeO.none _
   | refine LeO.ite ?_ ?_
   | refine LeO.bind ?_ (fun _ => ?_)
set_option maxHeartbeats 8000000 in
set_option maxRecDepth 100000 in
theorem rickyardref1_Most.calls (k : Nat) (A0 : Option Addr) (c0 : Nat) (l0 : List (S32)) (r : Int) (w : World) (hr0 : Kd.C k32 w A0 l0.length l0) (hc0 : l0.length ≤ c0) (h : rickyardref1_Most.f k l0 = some r) :
  Calls Try.prog 52 #[.slice A0 l0.length c0] w fun e w' => e = .returned (.int .i64 r) ∧ Below w.heap.size w w' := by
 have HR0 := aM hr0
 have HC0 := aM hc0
 clear hr0 hc0
 have HB := aM (Below.refl w.heap.size w)
 have H : (rickyardref1_Most.l0 k l0 0 0) = some r := h
 clear h
 have H' := aM H
 clear H
 go_enter Try.func52, Try.ntmps52
 go_wp2
 go_loopg [3, 4] k (fun kq v3 v4 w' => ∃ (x3_1 : Int) (x4_1 : Int), v3 = .int .i64 x3_1 ∧ v4 = .int .i64 x4_1 ∧ Aside0 (rickyardref1_Most.l0 kq l0 x3_1 x4_1 = some r) ∧ Aside0 (kq ≤ k) ∧ Aside0 (Below w.heap.size w w'))
 case atStart => exact ⟨(0),(0),(by first|rfl|(simp;done)|(simp [*];done)),(by first|rfl|(simp;done)|(simp [*];done)),H',⟨Nat.le_refl _⟩,⟨by repeat (first|(with_reducible first|exact HB.out|apply wA|apply wN_|apply wD)|exact HB.out)⟩⟩
 case round =>
  clear H'
  obtain ⟨x3_1, x4_1, rfl, rfl, HA, HK1, HB⟩ := hrel
  cases gk with
  | zero => exact absurd HA.out (by simp [rickyardref1_Most.l0])
  | succ k1 =>
   have H := HA.out
   clear HA
   simp only [rickyardref1_Most.l0] at H
   by_cases c2 : x4_1 < (l0.length : Int)
   ·rw [if_pos c2] at H
    have c2b0 : decide (x4_1 < (l0.length : Int)) = true := decide_eq_true c2
    clear c2
    by_cases c3 : 0 ≤ x4_1
    ·rw [if_pos c3] at H
     have c3b0 : decide (0 ≤ x4_1) = true := decide_eq_true c3
     clear c3
     obtain ⟨ji4, hji4⟩ : ∃ j_ : Int, (mx x3_1 ((rd_T32 l0 x4_1).f1)) = j_ := ⟨_, rfl⟩
     replace H : (rickyardref1_Most.l0 k1 l0 ji4 (wrap64 (x4_1 + 1))) = some r := by first | (rw [hji4] at H; exact H) | (simp only [hji4] at H ⊢; exact H)
     have hji4_ : (if x3_1 < ((rd_T32 l0 x4_1).f1) then ((rd_T32 l0 x4_1).f1) else x3_1) = ji4 := hji4
     have H' := aM H
     clear H
     have p389 : 0 ≤ (x4_1 : Int) := oD (by first | (with_reducible assumption) | assumption)
     have q389 : x4_1 < (l0.length : Int) := oD (by first | (with_reducible assumption) | assumption)
     obtain ⟨ad389, e389, hx389_0, hx389_1⟩ := at_T32 HR0.out x4_1 p389 q389
     cases e389
     replace hx389_0 := (HB.out.cell (wL w _ hx389_0)).trans hx389_0
     replace hx389_1 := (HB.out.cell (wL w _ hx389_1)).trans hx389_1
     replace p389 := eq_true p389
     replace q389 := eq_true q389
     go_wp2
     go_roundg k1
     case measure => have:=HK1.out;omega
     case rel => exact ⟨(ji4),(wrap64 (x4_1 + 1)),(by first|rfl|(simp;done)|(simp only [← hji4] <;> (first|rfl|simp))|(simp [*];done)),(by first|rfl|(simp;done)|(simp [*];done)),H',⟨by have:=HK1.out;omega⟩,⟨by repeat (first|(with_reducible first|exact HB.out|apply wA|apply wN_|apply wD)|exact HB.out)⟩⟩
    ·rw [if_neg c3] at H
     exact absurd H (by simp)
   ·rw [if_neg c2] at H
    have c2b0 : decide (x4_1 < (l0.length : Int)) = false := decide_eq_false c2
    clear c2
    obtain rfl := Option.some.inj H
    go_wp2
    go_ret
    exact ⟨by first | rfl | (simp [errW_none, errW_some] <;> rfl) | (simp [*, errW_none, errW_some] <;> rfl), by repeat (first | (with_reducible first | exact HB.out | apply wA | apply wN_ | apply wD) | exact HB.out)⟩

/-! ### rickyardref1_Has: function 53 -/
def rickyardref1_Has.l0 : Nat → List (S32) → Int → Int → Option (Bool)
 | 0, _, _, _ => none
 | k + 1, x0, x1, x5 => if x5 < (x0.length : Int) then (if 0 ≤ x5 then (if x1 ≥ ((rd_T32 x0 x5).f0) then (if x1 < (wrap64 (((rd_T32 x0 x5).f0) + ((rd_T32 x0 x5).f1))) then (some true) else (rickyardref1_Has.l0 k x0 x1 (wrap64 (x5 + 1)))) else (rickyardref1_Has.l0 k x0 x1 (wrap64 (x5 + 1)))) else (none)) else (some false)
def rickyardref1_Has.f (k : Nat) (l0 : List (S32)) (a1 : Int) : Option (Bool) := rickyardref1_Has.l0 k l0 a1 0
theorem rickyardref1_Has.mono_l : ∀ k, (∀ y0 y1 y2, LeO (rickyardref1_Has.l0 k y0 y1 y2) (rickyardref1_Has.l0 (k + 1) y0 y1 y2))
 | 0 => fun _ _ _ r h => by simp [rickyardref1_Has.l0] at h
 | k + 1 => by
  have ih0 := rickyardref1_Has.mono_l k
  ·intro y0 y1 y2
   unfold rickyardref1_Has.l0
   repeat' first
   | (with_reducible exact ih0 _ _ _)
   | (with_reducible exact LeO.refl _)
   | (with_reducible exact LeO.none _)
   | (with_reducible refine LeO.ite ?_ ?_)
   | (with_reducible refine LeO.bind ?_ (fun _ => ?_))
   | exact ih0 _ _ _
   | exact LeO.none _
   | refine LeO.ite ?_ ?_
   | refine LeO.bind ?_ (fun _ => ?_)
theorem rickyardref1_Has.mono : ∀ a0 a1 k, LeO (rickyardref1_Has.f k a0 a1) (rickyardref1_Has.f (k + 1) a0 a1) := by
 intro a0 a1 k
 have ih0 := rickyardref1_Has.mono_l k
 unfold rickyardref1_Has.f
 repeat' first
   | (with_reducible exact ih0 _ _ _)
   | (with_reducible exact LeO.refl _)
   | (with_reducible exact LeO.none _)
   | (with_reducible refine LeO.ite ?_ ?_)
   | (with_reducible refine LeO.bind ?_ (fun _ => ?_))
   | exact ih0 _ _ _
   | exact LeO.none _
   | refine LeO.ite ?_ ?_
   | refine LeO.bind ?_ (fun _ => ?_)
set_option maxHeartbeats 8000000 in
set_option maxRecDepth 100000 in
theorem rickyardref1_Has.calls (k : Nat) (A0 : Option Addr) (c0 : Nat) (l0 : List (S32)) (a1 : Int) (r : Bool) (w : World) (hr0 : Kd.C k32 w A0 l0.length l0) (hc0 : l0.length ≤ c0) (h : rickyardref1_Has.f k l0 a1 = some r) :
  Calls Try.prog 53 #[.slice A0 l0.length c0, .int .i64 a1] w fun e w' => e = .returned (.bool r) ∧ Drawn0 w w' := by
 have HR0 := aM hr0
 have HC0 := aM hc0
 clear hr0 hc0
 have H : (rickyardref1_Has.l0 k l0 a1 0) = some r := h
 clear h
 have H' := aM H
 clear H
 go_enter Try.func53, Try.ntmps53
 go_wp2
 repeat (go_quiet (fail);try go_wp2)
 go_loopg [5] k (fun kq v5 w' => ∃ (x5_1 : Int), v5 = .int .i64 x5_1 ∧ Aside0 (rickyardref1_Has.l0 kq l0 a1 x5_1 = some r) ∧ Aside0 (kq ≤ k) ∧ Drawn0 w w')
 case atStart => exact ⟨(0),(by first|rfl|(simp;done)|(simp [*];done)),H',⟨Nat.le_refl _⟩,by repeat (first|exact Drawn0.refl _|apply Drawn0.step)⟩
 case round =>
  clear H'
  try clear p2
  obtain ⟨x5_1, rfl, HA, HK1, ⟨m1, rfl⟩⟩ := hrel
  cases gk with
  | zero => exact absurd HA.out (by simp [rickyardref1_Has.l0])
  | succ k1 =>
   have H := HA.out
   clear HA
   simp only [rickyardref1_Has.l0] at H
   by_cases c3 : x5_1 < (l0.length : Int)
   ·rw [if_pos c3] at H
    have c3b0 : decide (x5_1 < (l0.length : Int)) = true := decide_eq_true c3
    clear c3
    by_cases c4 : 0 ≤ x5_1
    ·rw [if_pos c4] at H
     have c4b0 : decide (0 ≤ x5_1) = true := decide_eq_true c4
     clear c4
     by_cases c5 : a1 ≥ ((rd_T32 l0 x5_1).f0)
     ·rw [if_pos c5] at H
      have c5b0 : decide (((rd_T32 l0 x5_1).f0) ≤ a1) = true := decide_eq_true c5
      clear c5
      by_cases c6 : a1 < (wrap64 (((rd_T32 l0 x5_1).f0) + ((rd_T32 l0 x5_1).f1)))
      ·rw [if_pos c6] at H
       have c6b0 : decide (a1 < (wrap64 (((rd_T32 l0 x5_1).f0) + ((rd_T32 l0 x5_1).f1)))) = true := decide_eq_true c6
       clear c6
       obtain rfl := Option.some.inj H
       have p390 : 0 ≤ (x5_1 : Int) := oD (by first | (with_reducible assumption) | assumption)
       have q390 : x5_1 < (l0.length : Int) := oD (by first | (with_reducible assumption) | assumption)
       obtain ⟨ad390, e390, hx390_0, hx390_1⟩ := at_T32 HR0.out x5_1 p390 q390
       cases e390
       replace p390 := eq_true p390
       replace q390 := eq_true q390
       have p391 : 0 ≤ (x5_1 : Int) := oD (by first | (with_reducible assumption) | assumption)
       have q391 : x5_1 < (l0.length : Int) := oD (by first | (with_reducible assumption) | assumption)
       obtain ⟨ad391, e391, hx391_0, hx391_1⟩ := at_T32 HR0.out x5_1 p391 q391
       obtain rfl : ad390 = ad391 := (by injection e391)
       replace p391 := eq_true p391
       replace q391 := eq_true q391
       have p392 : 0 ≤ (x5_1 : Int) := oD (by first | (with_reducible assumption) | assumption)
       have q392 : x5_1 < (l0.length : Int) := oD (by first | (with_reducible assumption) | assumption)
       obtain ⟨ad392, e392, hx392_0, hx392_1⟩ := at_T32 HR0.out x5_1 p392 q392
       obtain rfl : ad390 = ad392 := (by injection e392)
       replace p392 := eq_true p392
       replace q392 := eq_true q392
       go_wp2
       repeat (go_quiet (fail);try go_wp2)
       go_ret
       exact ⟨by first | rfl | (simp; done) | (simp [*]; done), by repeat (first | exact Drawn0.refl _ | apply Drawn0.step)⟩
      ·rw [if_neg c6] at H
       have c6b0 : decide (a1 < (wrap64 (((rd_T32 l0 x5_1).f0) + ((rd_T32 l0 x5_1).f1)))) = false := decide_eq_false c6
       clear c6
       have H' := aM H
       clear H
       have p390 : 0 ≤ (x5_1 : Int) := oD (by first | (with_reducible assumption) | assumption)
       have q390 : x5_1 < (l0.length : Int) := oD (by first | (with_reducible assumption) | assumption)
       obtain ⟨ad390, e390, hx390_0, hx390_1⟩ := at_T32 HR0.out x5_1 p390 q390
       cases e390
       replace p390 := eq_true p390
       replace q390 := eq_true q390
       have p391 : 0 ≤ (x5_1 : Int) := oD (by first | (with_reducible assumption) | assumption)
       have q391 : x5_1 < (l0.length : Int) := oD (by first | (with_reducible assumption) | assumption)
       obtain ⟨ad391, e391, hx391_0, hx391_1⟩ := at_T32 HR0.out x5_1 p391 q391
       obtain rfl : ad390 = ad391 := (by injection e391)
       replace p391 := eq_true p391
       replace q391 := eq_true q391
       have p392 : 0 ≤ (x5_1 : Int) := oD (by first | (with_reducible assumption) | assumption)
       have q392 : x5_1 < (l0.length : Int) := oD (by first | (with_reducible assumption) | assumption)
       obtain ⟨ad392, e392, hx392_0, hx392_1⟩ := at_T32 HR0.out x5_1 p392 q392
       obtain rfl : ad390 = ad392 := (by injection e392)
       replace p392 := eq_true p392
       replace q392 := eq_true q392
       go_wp2
       repeat (go_quiet (fail);try go_wp2)
       go_roundg k1
       case measure => have:=HK1.out;omega
       case rel => exact ⟨(wrap64 (x5_1 + 1)),(by first|rfl|(simp;done)|(simp [*];done)),H',⟨by have:=HK1.out;omega⟩,by repeat (first|exact Drawn0.refl _|apply Drawn0.step)⟩
     ·rw [if_neg c5] at H
      have c5b0 : decide (((rd_T32 l0 x5_1).f0) ≤ a1) = false := decide_eq_false c5
      clear c5
      have H' := aM H
      clear H
      have p390 : 0 ≤ (x5_1 : Int) := oD (by first | (with_reducible assumption) | assumption)
      have q390 : x5_1 < (l0.length : Int) := oD (by first | (with_reducible assumption) | assumption)
      obtain ⟨ad390, e390, hx390_0, hx390_1⟩ := at_T32 HR0.out x5_1 p390 q390
      cases e390
      replace p390 := eq_true p390
      replace q390 := eq_true q390
      go_wp2
      repeat (go_quiet (fail);try go_wp2)
      go_roundg k1
      case measure => have:=HK1.out;omega
      case rel => exact ⟨(wrap64 (x5_1 + 1)),(by first|rfl|(simp;done)|(simp [*];done)),H',⟨by have:=HK1.out;omega⟩,by repeat (first|exact Drawn0.refl _|apply Drawn0.step)⟩
    ·rw [if_neg c4] at H
     exact absurd H (by simp)
   ·rw [if_neg c3] at H
    have c3b0 : decide (x5_1 < (l0.length : Int)) = false := decide_eq_false c3
    clear c3
    obtain rfl := Option.some.inj H
    go_wp2
    repeat (go_quiet (fail);try go_wp2)
    go_ret
    exact ⟨by first | rfl | (simp; done) | (simp [*]; done), by repeat (first | exact Drawn0.refl _ | apply Drawn0.step)⟩

end Go.Proofs.Ythbknmblehecaaa.Pr
