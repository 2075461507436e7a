-- Printed by a program of this session (wip/tools/myprint.py) that runs the kit's print with contracts of this session's own.
import Derived.Test.YtojijdfgflcnjaaPrx0
namespace Go.Proofs.Ytojijdfgflcnjaa.Pr
open Go.RowKit Go.Proofs.YtojijdfgflcnjaaW.PrintWords Go.Proofs.YtojijdfgflcnjaaW.PrintLast Go.Proofs.YtojijdfgflcnjaaW.PrintMore
attribute [local go_sem] max2_int min2_int max_two min_two max_three min_three max_four min_four   -- for this text's walks alone
set_option linter.unusedVariables false
set_option linter.unusedSimpArgs false

/-! ### rickyardref1_RightRuns: function 32 -/
mutual
def rickyardref1_RightRuns.j0 : Nat → List (S61) → Int → Bool → Option (Bool)
 | 0, _, _, _ => none
 | k + 1, x0, x1, x11 => if x11 = true then (some false) else (rickyardref1_RightRuns.l0 k x0 x1 0)
def rickyardref1_RightRuns.l0 : Nat → List (S61) → Int → Int → Option (Bool)
 | 0, _, _, _ => none
 | k + 1, x0, x1, x5 => if x5 < (x0.length : Int) then (if 0 ≤ x5 then (if ((rd_T61 x0 x5).f1) < 1 then (rickyardref1_RightRuns.j2 k x0 x1 x5 true) else (if ((rd_T61 x0 x5).f0) < 0 then (rickyardref1_RightRuns.j2 k x0 x1 x5 true) else (if ((rd_T61 x0 x5).f0) > x1 then (rickyardref1_RightRuns.j2 k x0 x1 x5 true) else (rickyardref1_RightRuns.j2 k x0 x1 x5 (decide (((rd_T61 x0 x5).f1) > (wrap64 (x1 - ((rd_T61 x0 x5).f0))))))))) else (none)) else (some true)
def rickyardref1_RightRuns.j2 : Nat → List (S61) → Int → Int → Bool → Option (Bool)
 | 0, _, _, _, _ => none
 | k + 1, x0, x1, x5, x55 => if x55 = true then (some false) else (if x5 > 0 then (if 0 ≤ x5 then (if x5 < (x0.length : Int) then (if 0 ≤ (wrap64 (x5 - 1)) then (if (wrap64 (x5 - 1)) < (x0.length : Int) then (if ((rd_T61 x0 x5).f0) ≤ (wrap64 (((rd_T61 x0 (wrap64 (x5 - 1))).f0) + ((rd_T61 x0 (wrap64 (x5 - 1))).f1))) then (some false) else (rickyardref1_RightRuns.l0 k x0 x1 (wrap64 (x5 + 1)))) else (none)) else (none)) else (none)) else (none)) else (rickyardref1_RightRuns.l0 k x0 x1 (wrap64 (x5 + 1))))
end
def rickyardref1_RightRuns.f (k : Nat) (l0 : List (S61)) (a1 : Int) : Option (Bool) := if a1 < 0 then (rickyardref1_RightRuns.j0 k l0 a1 true) else (rickyardref1_RightRuns.j0 k l0 a1 (decide (a1 > 256)))
theorem rickyardref1_RightRuns.mono_l : ∀ k, (∀ y0 y1 y2, LeO (rickyardref1_RightRuns.j0 k y0 y1 y2) (rickyardref1_RightRuns.j0 (k + 1) y0 y1 y2)) ∧ (∀ y0 y1 y2, LeO (rickyardref1_RightRuns.l0 k y0 y1 y2) (rickyardref1_RightRuns.l0 (k + 1) y0 y1 y2)) ∧ (∀ y0 y1 y2 y3, LeO (rickyardref1_RightRuns.j2 k y0 y1 y2 y3) (rickyardref1_RightRuns.j2 (k + 1) y0 y1 y2 y3))
 | 0 => ⟨fun _ _ _ r h => by simp [rickyardref1_RightRuns.j0] at h, fun _ _ _ r h => by simp [rickyardref1_RightRuns.l0] at h, fun _ _ _ _ r h => by simp [rickyardref1_RightRuns.j2] at h⟩
 | k + 1 => by
  obtain ⟨ih0, ih1, ih2⟩ := rickyardref1_RightRuns.mono_l k
  refine ⟨?_, ?_, ?_⟩
  ·intro y0 y1 y2
   unfold rickyardref1_RightRuns.j0
   repeat' first
   | (with_reducible exact ih0 _ _ _)
   | (with_reducible exact ih1 _ _ _)
   | (with_reducible exact ih2 _ _ _ _)
   | (with_reducible exact LeO.refl _)
   | (with_reducible exact LeO.none _)
   | (with_reducible refine LeO.ite ?_ ?_)
   | (with_reducible refine LeO.bind ?_ (fun _ => ?_))
   | exact ih0 _ _ _
   | exact ih1 _ _ _
   | exact ih2 _ _ _ _
   | exact LeO.none _
   | refine LeO.ite ?_ ?_
   | refine LeO.bind ?_ (fun _ => ?_)
  ·intro y0 y1 y2
   unfold rickyardref1_RightRuns.l0
   repeat' first
   | (with_reducible exact ih0 _ _ _)
   | (with_reducible exact ih1 _ _ _)
   | (with_reducible exact ih2 _ _ _ _)
   | (with_reducible exact LeO.refl _)
   | (with_reducible exact LeO.none _)
   | (with_reducible refine LeO.ite ?_ ?_)
   | (with_reducible refine LeO.bind ?_ (fun _ => ?_))
   | exact ih0 _ _ _
   | exact ih1 _ _ _
   | exact ih2 _ _ _ _
   | exact LeO.none _
   | refine LeO.ite ?_ ?_
   | refine LeO.bind ?_ (fun _ => ?_)
  ·intro y0 y1 y2 y3
   unfold rickyardref1_RightRuns.j2
   repeat' first
   | (with_reducible exact ih0 _ _ _)
   | (with_reducible exact ih1 _ _ _)
   | (with_reducible exact ih2 _ _ _ _)
   | (with_reducible exact LeO.refl _)
   | (with_reducible exact LeO.none _)
   | (with_reducible refine LeO.ite ?_ ?_)
   | (with_reducible refine LeO.bind ?_ (fun _ => ?_))
   | exact ih0 _ _ _
   | exact ih1 _ _ _
   | exact ih2 _ _ _ _
   | exact LeO.none _
   | refine LeO.ite ?_ ?_
   | refine LeO.bind ?_ (fun _ => ?_)
theorem rickyardref1_RightRuns.mono : ∀ a0 a1 k, LeO (rickyardref1_RightRuns.f k a0 a1) (rickyardref1_RightRuns.f (k + 1) a0 a1) := by
 intro a0 a1 k
 obtain ⟨ih0, ih1, ih2⟩ := rickyardref1_RightRuns.mono_l k
 unfold rickyardref1_RightRuns.f
 repeat' first
   | (with_reducible exact ih0 _ _ _)
   | (with_reducible exact ih1 _ _ _)
   | (with_reducible exact ih2 _ _ _ _)
   | (with_reducible exact LeO.refl _)
   | (with_reducible exact LeO.none _)
   | (with_reducible refine LeO.ite ?_ ?_)
   | (with_reducible refine LeO.bind ?_ (fun _ => ?_))
   | exact ih0 _ _ _
   | exact ih1 _ _ _
   | exact ih2 _ _ _ _
   | exact LeO.none _
   | refine LeO.ite ?_ ?_
   | refine LeO.bind ?_ (fun _ => ?_)
set_option maxHeartbeats 8000000 in
set_option maxRecDepth 100000 in
theorem rickyardref1_RightRuns.calls (k : Nat) (A0 : Option Addr) (c0 : Nat) (l0 : List (S61)) (a1 : Int) (r : Bool) (w : World) (hr0 : Kd.C k61 w A0 l0.length l0) (hc0 : l0.length ≤ c0) (h : rickyardref1_RightRuns.f k l0 a1 = some r) :
  Calls Try.prog 32 #[.slice A0 l0.length c0, .int .i64 a1] w fun e w' => e = .returned (.bool r) ∧ Drawn0 w w' := by
 have HR0 := Aside0.mk hr0
 have HC0 := Aside0.mk hc0
 clear hr0 hc0
 have H : (if a1 < 0 then (rickyardref1_RightRuns.j0 k l0 a1 true) else (rickyardref1_RightRuns.j0 k l0 a1 (decide (a1 > 256)))) = some r := h
 clear h
 have HC3 := Aside0.mk H
 clear H
 go_enter Try.func32, Try.ntmps32
 go_upto_region 1 with (fail)
 repeat (go_quiet (fail); go_upto_region 1 with (fail))
 go_cut [11] (fun v11 wc => ∃ (kq : Nat) (x11_2 : Bool), v11 = .bool x11_2 ∧ Aside0 (rickyardref1_RightRuns.j0 kq l0 a1 x11_2 = some r) ∧ Aside0 (kq ≤ k) ∧ Drawn0 w wc)
 case first =>
  have H := HC3.out
  clear HC3
  by_cases c4 : a1 < 0
  ·rw [if_pos c4] at H
   have c4b0 : decide (a1 < 0) = true := decide_eq_true c4
   clear c4
   (first | rw [c4b0] | (simp only [i64_w, i32_w]; rw [c4b0]) | skip)
   have H' := Aside0.mk H
   clear H
   go_wp2
   repeat (go_quiet (fail); try go_wp2)
   go_meet
   case rel => exact ⟨_, (true), (by first | rfl | (simp; done) | (simp [*]; done)), H', ⟨by first | omega | exact Nat.le_refl _⟩, by repeat (first | exact Drawn0.refl _ | apply Drawn0.step)⟩
  ·rw [if_neg c4] at H
   have c4b0 : decide (a1 < 0) = false := decide_eq_false c4
   clear c4
   (first | rw [c4b0] | (simp only [i64_w, i32_w]; rw [c4b0]) | skip)
   have H' := Aside0.mk H
   clear H
   go_wp2
   repeat (go_quiet (fail); try go_wp2)
   go_meet
   case rel => exact ⟨_, (decide (a1 > 256)), (by first | rfl | (simp; done) | (simp [*]; done)), H', ⟨by first | omega | exact Nat.le_refl _⟩, by repeat (first | exact Drawn0.refl _ | apply Drawn0.step)⟩
 case rest =>
  clear HC3
  try clear p2
  try clear c3
  try clear c4
  try clear c4b0
  obtain ⟨kq, x11_2, rfl, HA, HJ2, ⟨mc2, rfl⟩⟩ := hcut
  cases kq with
  | zero => exact absurd HA.out (by simp [rickyardref1_RightRuns.j0])
  | succ kj2 =>
   have H := HA.out
   clear HA
   simp only [rickyardref1_RightRuns.j0] at H
   by_cases c5 : x11_2 = true
   ·subst c5
    have H1 : (some false) = some r := by rw [if_pos rfl] at H; exact H
    clear H
    have H := H1
    clear H1
    obtain rfl := Option.some.inj H
    go_wp2
    repeat (go_quiet (fail); try go_wp2)
    go_ret
    exact ⟨by first | rfl | (simp; done) | (simp [*]; done), by repeat (first | exact Drawn0.refl _ | apply Drawn0.step)⟩
   ·replace c5 := Bool.eq_false_iff.mpr c5
    subst c5
    have H1 : (rickyardref1_RightRuns.l0 kj2 l0 a1 0) = some r := by rw [if_neg (show ¬ (false = true) by decide)] at H; exact H
    clear H
    have H := H1
    clear H1
    have H' := Aside0.mk H
    clear H
    go_wp2
    repeat (go_quiet (fail); try go_wp2)
    go_loopg [5] kj2 (fun kq v5 w' => ∃ (x5_2 : Int), v5 = .int .i64 x5_2 ∧ Aside0 (rickyardref1_RightRuns.l0 kq l0 a1 x5_2 = some r) ∧ Aside0 (kq ≤ kj2) ∧ Drawn0 w w')
    case atStart => exact ⟨(0), (by first | rfl | (simp; done) | (simp [*]; done)), H', ⟨Nat.le_refl _⟩, by repeat (first | exact Drawn0.refl _ | apply Drawn0.step)⟩
    case round =>
     clear H'
     try clear c2
     try clear p2
     try clear c3
     try clear c4
     try clear c4b0
     try clear c5
     try clear p2
     obtain ⟨x5_2, rfl, HA, HK2, ⟨m2, rfl⟩⟩ := hrel
     cases gk with
     | zero => exact absurd HA.out (by simp [rickyardref1_RightRuns.l0])
     | succ k2 =>
      have H := HA.out
      clear HA
      simp only [rickyardref1_RightRuns.l0] at H
      by_cases c6 : x5_2 < (l0.length : Int)
      ·rw [if_pos c6] at H
       have c6b0 : decide (x5_2 < (l0.length : Int)) = true := decide_eq_true c6
       clear c6
       have HC7 := Aside0.mk H
       clear H
       go_upto_region 6 with (fail)
       repeat (go_quiet (fail); go_upto_region 6 with (fail))
       go_cut [55] (fun v55 wc => ∃ (kq : Nat) (x55_6 : Bool), v55 = .bool x55_6 ∧ Aside0 (rickyardref1_RightRuns.j2 kq l0 a1 x5_2 x55_6 = some r) ∧ Aside0 (kq ≤ k2) ∧ Drawn0 w wc)
       case first =>
        have H := HC7.out
        clear HC7
        by_cases c8 : 0 ≤ x5_2
        ·rw [if_pos c8] at H
         have c8b0 : decide (0 ≤ x5_2) = true := decide_eq_true c8
         clear c8
         (first | rw [c8b0] | (simp only [i64_w, i32_w]; rw [c8b0]) | skip)
         by_cases c9 : ((rd_T61 l0 x5_2).f1) < 1
         ·rw [if_pos c9] at H
          have c9b0 : decide (((rd_T61 l0 x5_2).f1) < 1) = true := decide_eq_true c9
          clear c9
          have H' := Aside0.mk H
          clear H
          have p133 : 0 ≤ (x5_2 : Int) := of_decide_eq_true (by first | (with_reducible assumption) | assumption)
          have q133 : x5_2 < (l0.length : Int) := of_decide_eq_true (by first | (with_reducible assumption) | assumption)
          obtain ⟨ad133, e133, hx133_0, hx133_1⟩ := at_T61 HR0.out x5_2 p133 q133
          cases e133
          replace p133 := eq_true p133
          replace q133 := eq_true q133
          go_wp2
          repeat (go_quiet (fail); try go_wp2)
          go_meet
          case rel => exact ⟨_, (true), (by first | rfl | (simp; done) | (simp [*]; done)), H', ⟨by have := HJ2.out; have := HK2.out; first | omega | exact Nat.le_refl _⟩, by repeat (first | exact Drawn0.refl _ | apply Drawn0.step)⟩
         ·rw [if_neg c9] at H
          have c9b0 : decide (((rd_T61 l0 x5_2).f1) < 1) = false := decide_eq_false c9
          clear c9
          by_cases c10 : ((rd_T61 l0 x5_2).f0) < 0
          ·rw [if_pos c10] at H
           have c10b0 : decide (((rd_T61 l0 x5_2).f0) < 0) = true := decide_eq_true c10
           clear c10
           have H' := Aside0.mk H
           clear H
           have p133 : 0 ≤ (x5_2 : Int) := of_decide_eq_true (by first | (with_reducible assumption) | assumption)
           have q133 : x5_2 < (l0.length : Int) := of_decide_eq_true (by first | (with_reducible assumption) | assumption)
           obtain ⟨ad133, e133, hx133_0, hx133_1⟩ := at_T61 HR0.out x5_2 p133 q133
           cases e133
           replace p133 := eq_true p133
           replace q133 := eq_true q133
           have p134 : 0 ≤ (x5_2 : Int) := of_decide_eq_true (by first | (with_reducible assumption) | assumption)
           have q134 : x5_2 < (l0.length : Int) := of_decide_eq_true (by first | (with_reducible assumption) | assumption)
           obtain ⟨ad134, e134, hx134_0, hx134_1⟩ := at_T61 HR0.out x5_2 p134 q134
           obtain rfl : ad133 = ad134 := (by injection e134)
           replace p134 := eq_true p134
           replace q134 := eq_true q134
           go_wp2
           repeat (go_quiet (fail); try go_wp2)
           go_meet
           case rel => exact ⟨_, (true), (by first | rfl | (simp; done) | (simp [*]; done)), H', ⟨by have := HJ2.out; have := HK2.out; first | omega | exact Nat.le_refl _⟩, by repeat (first | exact Drawn0.refl _ | apply Drawn0.step)⟩
          ·rw [if_neg c10] at H
           have c10b0 : decide (((rd_T61 l0 x5_2).f0) < 0) = false := decide_eq_false c10
           clear c10
           by_cases c11 : ((rd_T61 l0 x5_2).f0) > a1
           ·rw [if_pos c11] at H
            have c11b0 : decide (a1 < ((rd_T61 l0 x5_2).f0)) = true := decide_eq_true c11
            clear c11
            have H' := Aside0.mk H
            clear H
            have p133 : 0 ≤ (x5_2 : Int) := of_decide_eq_true (by first | (with_reducible assumption) | assumption)
            have q133 : x5_2 < (l0.length : Int) := of_decide_eq_true (by first | (with_reducible assumption) | assumption)
            obtain ⟨ad133, e133, hx133_0, hx133_1⟩ := at_T61 HR0.out x5_2 p133 q133
            cases e133
            replace p133 := eq_true p133
            replace q133 := eq_true q133
            have p134 : 0 ≤ (x5_2 : Int) := of_decide_eq_true (by first | (with_reducible assumption) | assumption)
            have q134 : x5_2 < (l0.length : Int) := of_decide_eq_true (by first | (with_reducible assumption) | assumption)
            obtain ⟨ad134, e134, hx134_0, hx134_1⟩ := at_T61 HR0.out x5_2 p134 q134
            obtain rfl : ad133 = ad134 := (by injection e134)
            replace p134 := eq_true p134
            replace q134 := eq_true q134
            have p135 : 0 ≤ (x5_2 : Int) := of_decide_eq_true (by first | (with_reducible assumption) | assumption)
            have q135 : x5_2 < (l0.length : Int) := of_decide_eq_true (by first | (with_reducible assumption) | assumption)
            obtain ⟨ad135, e135, hx135_0, hx135_1⟩ := at_T61 HR0.out x5_2 p135 q135
            obtain rfl : ad133 = ad135 := (by injection e135)
            replace p135 := eq_true p135
            replace q135 := eq_true q135
            go_wp2
            repeat (go_quiet (fail); try go_wp2)
            go_meet
            case rel => exact ⟨_, (true), (by first | rfl | (simp; done) | (simp [*]; done)), H', ⟨by have := HJ2.out; have := HK2.out; first | omega | exact Nat.le_refl _⟩, by repeat (first | exact Drawn0.refl _ | apply Drawn0.step)⟩
           ·rw [if_neg c11] at H
            have c11b0 : decide (a1 < ((rd_T61 l0 x5_2).f0)) = false := decide_eq_false c11
            clear c11
            have H' := Aside0.mk H
            clear H
            have p133 : 0 ≤ (x5_2 : Int) := of_decide_eq_true (by first | (with_reducible assumption) | assumption)
            have q133 : x5_2 < (l0.length : Int) := of_decide_eq_true (by first | (with_reducible assumption) | assumption)
            obtain ⟨ad133, e133, hx133_0, hx133_1⟩ := at_T61 HR0.out x5_2 p133 q133
            cases e133
            replace p133 := eq_true p133
            replace q133 := eq_true q133
            have p134 : 0 ≤ (x5_2 : Int) := of_decide_eq_true (by first | (with_reducible assumption) | assumption)
            have q134 : x5_2 < (l0.length : Int) := of_decide_eq_true (by first | (with_reducible assumption) | assumption)
            obtain ⟨ad134, e134, hx134_0, hx134_1⟩ := at_T61 HR0.out x5_2 p134 q134
            obtain rfl : ad133 = ad134 := (by injection e134)
            replace p134 := eq_true p134
            replace q134 := eq_true q134
            have p135 : 0 ≤ (x5_2 : Int) := of_decide_eq_true (by first | (with_reducible assumption) | assumption)
            have q135 : x5_2 < (l0.length : Int) := of_decide_eq_true (by first | (with_reducible assumption) | assumption)
            obtain ⟨ad135, e135, hx135_0, hx135_1⟩ := at_T61 HR0.out x5_2 p135 q135
            obtain rfl : ad133 = ad135 := (by injection e135)
            replace p135 := eq_true p135
            replace q135 := eq_true q135
            have p136 : 0 ≤ (x5_2 : Int) := of_decide_eq_true (by first | (with_reducible assumption) | assumption)
            have q136 : x5_2 < (l0.length : Int) := of_decide_eq_true (by first | (with_reducible assumption) | assumption)
            obtain ⟨ad136, e136, hx136_0, hx136_1⟩ := at_T61 HR0.out x5_2 p136 q136
            obtain rfl : ad133 = ad136 := (by injection e136)
            replace p136 := eq_true p136
            replace q136 := eq_true q136
            have p137 : 0 ≤ (x5_2 : Int) := of_decide_eq_true (by first | (with_reducible assumption) | assumption)
            have q137 : x5_2 < (l0.length : Int) := of_decide_eq_true (by first | (with_reducible assumption) | assumption)
            obtain ⟨ad137, e137, hx137_0, hx137_1⟩ := at_T61 HR0.out x5_2 p137 q137
            obtain rfl : ad133 = ad137 := (by injection e137)
            replace p137 := eq_true p137
            replace q137 := eq_true q137
            go_wp2
            repeat (go_quiet (fail); try go_wp2)
            go_meet
            case rel => exact ⟨_, (decide (((rd_T61 l0 x5_2).f1) > (wrap64 (a1 - ((rd_T61 l0 x5_2).f0))))), (by first | rfl | (simp; done) | (simp [*]; done)), H', ⟨by have := HJ2.out; have := HK2.out; first | omega | exact Nat.le_refl _⟩, by repeat (first | exact Drawn0.refl _ | apply Drawn0.step)⟩
        ·rw [if_neg c8] at H
         exact absurd H (by simp)
       case rest =>
        clear HC7
        try clear c1
        try clear p1
        try clear q1
        try clear hx1
        try clear c2
        try clear p2
        try clear c3
        try clear c4
        try clear c4b0
        try clear c5
        try clear c6
        try clear c6b0
        try clear p6
        try clear c8
        try clear c8b0
        try clear c9
        try clear c9b0
        try clear c10
        try clear c10b0
        try clear c11
        try clear c11b0
        try clear hx133_0
        try clear hx133_1
        try clear hx134_0
        try clear hx134_1
        try clear hx135_0
        try clear hx135_1
        try clear hx136_0
        try clear hx136_1
        try clear hx137_0
        try clear hx137_1
        try clear p133
        try clear p134
        try clear p135
        try clear p136
        try clear p137
        try clear p2
        try clear q133
        try clear q134
        try clear q135
        try clear q136
        try clear q137
        obtain ⟨kq, x55_6, rfl, HA, HJ6, ⟨mc6, rfl⟩⟩ := hcut
        cases kq with
        | zero => exact absurd HA.out (by simp [rickyardref1_RightRuns.j2])
        | succ kj6 =>
         have H := HA.out
         clear HA
         simp only [rickyardref1_RightRuns.j2] at H
         by_cases c12 : x55_6 = true
         ·subst c12
          have H1 : (some false) = some r := by rw [if_pos rfl] at H; exact H
          clear H
          have H := H1
          clear H1
          obtain rfl := Option.some.inj H
          go_wp2
          repeat (go_quiet (fail); try go_wp2)
          go_ret
          exact ⟨by first | rfl | (simp; done) | (simp [*]; done), by repeat (first | exact Drawn0.refl _ | apply Drawn0.step)⟩
         ·replace c12 := Bool.eq_false_iff.mpr c12
          subst c12
          have H1 : (if x5_2 > 0 then (if 0 ≤ x5_2 then (if x5_2 < (l0.length : Int) then (if 0 ≤ (wrap64 (x5_2 - 1)) then (if (wrap64 (x5_2 - 1)) < (l0.length : Int) then (if ((rd_T61 l0 x5_2).f0) ≤ (wrap64 (((rd_T61 l0 (wrap64 (x5_2 - 1))).f0) + ((rd_T61 l0 (wrap64 (x5_2 - 1))).f1))) then (some false) else (rickyardref1_RightRuns.l0 kj6 l0 a1 (wrap64 (x5_2 + 1)))) else (none)) else (none)) else (none)) else (none)) else (rickyardref1_RightRuns.l0 kj6 l0 a1 (wrap64 (x5_2 + 1)))) = some r := by rw [if_neg (show ¬ (false = true) by decide)] at H; exact H
          clear H
          have H := H1
          clear H1
          by_cases c13 : x5_2 > 0
          ·rw [if_pos c13] at H
           have c13b0 : decide (0 < x5_2) = true := decide_eq_true c13
           clear c13
           by_cases c14 : 0 ≤ x5_2
           ·rw [if_pos c14] at H
            have c14b0 : decide (0 ≤ x5_2) = true := decide_eq_true c14
            clear c14
            by_cases c15 : x5_2 < (l0.length : Int)
            ·rw [if_pos c15] at H
             have c15b0 : decide (x5_2 < (l0.length : Int)) = true := decide_eq_true c15
             clear c15
             obtain ⟨ji16, hji16⟩ : ∃ j_ : Int, (wrap64 (x5_2 - 1)) = j_ := ⟨_, rfl⟩
             replace H : (if 0 ≤ (ji16) then (if (ji16) < (l0.length : Int) then (if ((rd_T61 l0 x5_2).f0) ≤ (wrap64 (((rd_T61 l0 (ji16)).f0) + ((rd_T61 l0 (ji16)).f1))) then (some false) else (rickyardref1_RightRuns.l0 kj6 l0 a1 (wrap64 (x5_2 + 1)))) else (none)) else (none)) = some r := by first | (rw [hji16] at H; exact H) | (simp only [hji16] at H ⊢; exact H)
             have hji16w : (IntKind.i64.wrap (x5_2 - 1)) = ji16 := (i64_w _).trans hji16
             by_cases c17 : 0 ≤ (ji16)
             ·rw [if_pos c17] at H
              have c17b0 : decide (0 ≤ (ji16)) = true := decide_eq_true c17
              clear c17
              by_cases c18 : (ji16) < (l0.length : Int)
              ·rw [if_pos c18] at H
               have c18b0 : decide ((ji16) < (l0.length : Int)) = true := decide_eq_true c18
               clear c18
               by_cases c19 : ((rd_T61 l0 x5_2).f0) ≤ (wrap64 (((rd_T61 l0 (ji16)).f0) + ((rd_T61 l0 (ji16)).f1)))
               ·rw [if_pos c19] at H
                have c19b0 : decide (((rd_T61 l0 x5_2).f0) ≤ (wrap64 (((rd_T61 l0 (ji16)).f0) + ((rd_T61 l0 (ji16)).f1)))) = true := decide_eq_true c19
                clear c19
                obtain rfl := Option.some.inj H
                have p138 : 0 ≤ (x5_2 : Int) := of_decide_eq_true (by first | (with_reducible assumption) | assumption)
                have q138 : x5_2 < (l0.length : Int) := of_decide_eq_true (by first | (with_reducible assumption) | assumption)
                obtain ⟨ad138, e138, hx138_0, hx138_1⟩ := at_T61 HR0.out x5_2 p138 q138
                cases e138
                replace p138 := eq_true p138
                replace q138 := eq_true q138
                have p139 : 0 ≤ ((ji16) : Int) := of_decide_eq_true (by first | (with_reducible assumption) | assumption)
                have q139 : (ji16) < (l0.length : Int) := of_decide_eq_true (by first | (with_reducible assumption) | assumption)
                obtain ⟨ad139, e139, hx139_0, hx139_1⟩ := at_T61 HR0.out (ji16) p139 q139
                obtain rfl : ad138 = ad139 := (by injection e139)
                replace p139 := eq_true p139
                replace q139 := eq_true q139
                have p140 : 0 ≤ ((ji16) : Int) := of_decide_eq_true (by first | (with_reducible assumption) | assumption)
                have q140 : (ji16) < (l0.length : Int) := of_decide_eq_true (by first | (with_reducible assumption) | assumption)
                obtain ⟨ad140, e140, hx140_0, hx140_1⟩ := at_T61 HR0.out (ji16) p140 q140
                obtain rfl : ad138 = ad140 := (by injection e140)
                replace p140 := eq_true p140
                replace q140 := eq_true q140
                go_wp2
                repeat (go_quiet (fail); try go_wp2)
                go_ret
                exact ⟨by first | rfl | (simp; done) | (simp only [← hji16] <;> (first | rfl | simp)) | (simp [*]; done), by repeat (first | exact Drawn0.refl _ | apply Drawn0.step)⟩
               ·rw [if_neg c19] at H
                have c19b0 : decide (((rd_T61 l0 x5_2).f0) ≤ (wrap64 (((rd_T61 l0 (ji16)).f0) + ((rd_T61 l0 (ji16)).f1)))) = false := decide_eq_false c19
                clear c19
                have H' := Aside0.mk H
                clear H
                have p138 : 0 ≤ (x5_2 : Int) := of_decide_eq_true (by first | (with_reducible assumption) | assumption)
                have q138 : x5_2 < (l0.length : Int) := of_decide_eq_true (by first | (with_reducible assumption) | assumption)
                obtain ⟨ad138, e138, hx138_0, hx138_1⟩ := at_T61 HR0.out x5_2 p138 q138
                cases e138
                replace p138 := eq_true p138
                replace q138 := eq_true q138
                have p139 : 0 ≤ ((ji16) : Int) := of_decide_eq_true (by first | (with_reducible assumption) | assumption)
                have q139 : (ji16) < (l0.length : Int) := of_decide_eq_true (by first | (with_reducible assumption) | assumption)
                obtain ⟨ad139, e139, hx139_0, hx139_1⟩ := at_T61 HR0.out (ji16) p139 q139
                obtain rfl : ad138 = ad139 := (by injection e139)
                replace p139 := eq_true p139
                replace q139 := eq_true q139
                have p140 : 0 ≤ ((ji16) : Int) := of_decide_eq_true (by first | (with_reducible assumption) | assumption)
                have q140 : (ji16) < (l0.length : Int) := of_decide_eq_true (by first | (with_reducible assumption) | assumption)
                obtain ⟨ad140, e140, hx140_0, hx140_1⟩ := at_T61 HR0.out (ji16) p140 q140
                obtain rfl : ad138 = ad140 := (by injection e140)
                replace p140 := eq_true p140
                replace q140 := eq_true q140
                go_wp2
                repeat (go_quiet (fail); try go_wp2)
                go_roundg kj6
                case measure => have := HJ2.out; have := HK2.out; have := HJ6.out; omega
                case rel => exact ⟨(wrap64 (x5_2 + 1)), (by first | rfl | (simp; done) | (simp [*]; done)), H', ⟨by have := HJ2.out; have := HK2.out; have := HJ6.out; omega⟩, by repeat (first | exact Drawn0.refl _ | apply Drawn0.step)⟩
              ·rw [if_neg c18] at H
               exact absurd H (by simp)
             ·rw [if_neg c17] at H
              exact absurd H (by simp)
            ·rw [if_neg c15] at H
             exact absurd H (by simp)
           ·rw [if_neg c14] at H
            exact absurd H (by simp)
          ·rw [if_neg c13] at H
           have c13b0 : decide (0 < x5_2) = false := decide_eq_false c13
           clear c13
           have H' := Aside0.mk H
           clear H
           go_wp2
           repeat (go_quiet (fail); try go_wp2)
           go_roundg kj6
           case measure => have := HJ2.out; have := HK2.out; have := HJ6.out; omega
           case rel => exact ⟨(wrap64 (x5_2 + 1)), (by first | rfl | (simp; done) | (simp [*]; done)), H', ⟨by have := HJ2.out; have := HK2.out; have := HJ6.out; omega⟩, by repeat (first | exact Drawn0.refl _ | apply Drawn0.step)⟩
      ·rw [if_neg c6] at H
       have c6b0 : decide (x5_2 < (l0.length : Int)) = false := decide_eq_false c6
       clear c6
       obtain rfl := Option.some.inj H
       go_wp2
       repeat (go_quiet (fail); try go_wp2)
       go_ret
       exact ⟨by first | rfl | (simp; done) | (simp [*]; done), by repeat (first | exact Drawn0.refl _ | apply Drawn0.step)⟩

-- NOT PRINTED: function 9 (rickyardlaw30_TallyParts)

-- NOT PRINTED: function 33 (flt_Rank)

-- NOT PRINTED: function 10 (rickyardlaw30_TallyBetween)

end Go.Proofs.Ytojijdfgflcnjaa.Pr
