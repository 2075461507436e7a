-- Printed by a program of this session (wip/tools/myprint.py) that runs the kit's print with contracts of this session's own.
import Derived.Test.YthbknmblehecaaaPrx0
import Derived.Test.YthbknmblehecaaaShort
namespace Go.Proofs.Ythbknmblehecaaa.Pr
open Go.RowKit Go.Proofs.YthbknmblehecaaaW.PrintWords Go.Proofs.YthbknmblehecaaaW.PrintLast Go.Proofs.YthbknmblehecaaaW.PrintMore
attribute [local go_sem] max2_int min2_int max_two min_two max_three min_three max_four min_four   -- for this text's walks alone
set_option linter.unusedVariables false
set_option linter.unusedSimpArgs false

/-! ### rickyardref1_Fit: function 49 -/
def rickyardref1_Fit.l0 : Nat → List (S32) → Int → Int → Option (Int × Bool)
 | 0, _, _, _ => none
 | k + 1, x0, x1, x6 => if x6 < (x0.length : Int) then (if x1 ≥ 1 then (if 0 ≤ x6 then (if ((rd_T32 x0 x6).f1) ≥ x1 then (some (x6, true)) else (rickyardref1_Fit.l0 k x0 x1 (wrap64 (x6 + 1)))) else (none)) else (rickyardref1_Fit.l0 k x0 x1 (wrap64 (x6 + 1)))) else (some (0, false))
def rickyardref1_Fit.f (k : Nat) (l0 : List (S32)) (a1 : Int) : Option (Int × Bool) := rickyardref1_Fit.l0 k l0 a1 0
theorem rickyardref1_Fit.mono_l : ∀ k, (∀ y0 y1 y2, LeO (rickyardref1_Fit.l0 k y0 y1 y2) (rickyardref1_Fit.l0 (k + 1) y0 y1 y2))
 | 0 => fun _ _ _ r h => by simp [rickyardref1_Fit.l0] at h
 | k + 1 => by
  have ih0 := rickyardref1_Fit.mono_l k
  ·intro y0 y1 y2
   unfold rickyardref1_Fit.l0
   repeat' first
   | (with_reducible exact ih0 _ _ _)
   | (with_reducible exact LeO.refl _)
   | (with_reducible exact LeO.none _)
   | (with_reducible refine LeO.ite ?_ ?_)
   | (with_reducible refine LeO.bind ?_ (fun _ => ?_))
   | exact ih0 _ _ _
   | exact LeO.none _
   | refine LeO.ite ?_ ?_
   | refine LeO.bind ?_ (fun _ => ?_)
theorem rickyardref1_Fit.mono : ∀ a0 a1 k, LeO (rickyardref1_Fit.f k a0 a1) (rickyardref1_Fit.f (k + 1) a0 a1) := by
 intro a0 a1 k
 have ih0 := rickyardref1_Fit.mono_l k
 unfold rickyardref1_Fit.f
 repeat' first
   | (with_reducible exact ih0 _ _ _)
   | (with_reducible exact LeO.refl _)
   | (with_reducible exact LeO.none _)
   | (with_reducible refine LeO.ite ?_ ?_)
   | (with_reducible refine LeO.bind ?_ (fun _ => ?_))
   | exact ih0 _ _ _
   | exact LeO.none _
   | refine LeO.ite ?_ ?_
   | refine LeO.bind ?_ (fun _ => ?_)
set_option maxHeartbeats 8000000 in
set_option maxRecDepth 100000 in
theorem rickyardref1_Fit.calls (k : Nat) (A0 : Option Addr) (c0 : Nat) (l0 : List (S32)) (a1 : Int) (r1 : Int) (r2 : Bool) (w : World) (hr0 : Kd.C k32 w A0 l0.length l0) (hc0 : l0.length ≤ c0) (h : rickyardref1_Fit.f k l0 a1 = some (r1, r2)) :
  Calls Try.prog 49 #[.slice A0 l0.length c0, .int .i64 a1] w fun e w' => e = .returned (.tuple #[.int .i64 r1, .bool r2]) ∧ Drawn0 w w' := by
 have HR0 := aM hr0
 have HC0 := aM hc0
 clear hr0 hc0
 have H : (rickyardref1_Fit.l0 k l0 a1 0) = some (r1, r2) := h
 clear h
 have H' := aM H
 clear H
 go_enter Try.func49, Try.ntmps49
 go_wp2
 go_loopg [6] k (fun kq v6 w' => ∃ (x6_1 : Int), v6 = .int .i64 x6_1 ∧ Aside0 (rickyardref1_Fit.l0 kq l0 a1 x6_1 = some (r1, r2)) ∧ Aside0 (kq ≤ k) ∧ Drawn0 w w')
 case atStart => exact ⟨(0),(by first|rfl|(simp;done)|(simp [*];done)),H',⟨Nat.le_refl _⟩,by repeat (first|exact Drawn0.refl _|apply Drawn0.step)⟩
 case round =>
  clear H'
  try clear p2
  obtain ⟨x6_1, rfl, HA, HK1, ⟨m1, rfl⟩⟩ := hrel
  cases gk with
  | zero => exact absurd HA.out (by simp [rickyardref1_Fit.l0])
  | succ k1 =>
   have H := HA.out
   clear HA
   simp only [rickyardref1_Fit.l0] at H
   by_cases c3 : x6_1 < (l0.length : Int)
   ·rw [if_pos c3] at H
    have c3b0 : decide (x6_1 < (l0.length : Int)) = true := decide_eq_true c3
    clear c3
    by_cases c4 : a1 ≥ 1
    ·rw [if_pos c4] at H
     have c4b0 : decide (1 ≤ a1) = true := decide_eq_true c4
     clear c4
     by_cases c5 : 0 ≤ x6_1
     ·rw [if_pos c5] at H
      have c5b0 : decide (0 ≤ x6_1) = true := decide_eq_true c5
      clear c5
      by_cases c6 : ((rd_T32 l0 x6_1).f1) ≥ a1
      ·rw [if_pos c6] at H
       have c6b0 : decide (a1 ≤ ((rd_T32 l0 x6_1).f1)) = true := decide_eq_true c6
       clear c6
       simp only [Option.some.injEq, Prod.mk.injEq] at H
       obtain ⟨rfl, rfl⟩ := H
       have p317 : 0 ≤ (x6_1 : Int) := oD (by first | (with_reducible assumption) | assumption)
       have q317 : x6_1 < (l0.length : Int) := oD (by first | (with_reducible assumption) | assumption)
       obtain ⟨ad317, e317, hx317_0, hx317_1⟩ := at_T32 HR0.out x6_1 p317 q317
       cases e317
       replace p317 := eq_true p317
       replace q317 := eq_true q317
       go_wp2
       go_ret2
       exact ⟨by first | rfl | (simp; done) | (simp [*]; done), by repeat (first | exact Drawn0.refl _ | apply Drawn0.step)⟩
      ·rw [if_neg c6] at H
       have c6b0 : decide (a1 ≤ ((rd_T32 l0 x6_1).f1)) = false := decide_eq_false c6
       clear c6
       have H' := aM H
       clear H
       have p317 : 0 ≤ (x6_1 : Int) := oD (by first | (with_reducible assumption) | assumption)
       have q317 : x6_1 < (l0.length : Int) := oD (by first | (with_reducible assumption) | assumption)
       obtain ⟨ad317, e317, hx317_0, hx317_1⟩ := at_T32 HR0.out x6_1 p317 q317
       cases e317
       replace p317 := eq_true p317
       replace q317 := eq_true q317
       go_wp2
       go_roundg k1
       case measure => have:=HK1.out;omega
       case rel => exact ⟨(wrap64 (x6_1 + 1)),(by first|rfl|(simp;done)|(simp [*];done)),H',⟨by have:=HK1.out;omega⟩,by repeat (first|exact Drawn0.refl _|apply Drawn0.step)⟩
     ·rw [if_neg c5] at H
      exact absurd H (by simp)
    ·rw [if_neg c4] at H
     have c4b0 : decide (1 ≤ a1) = false := decide_eq_false c4
     clear c4
     have H' := aM H
     clear H
     go_wp2
     go_roundg k1
     case measure => have:=HK1.out;omega
     case rel => exact ⟨(wrap64 (x6_1 + 1)),(by first|rfl|(simp;done)|(simp [*];done)),H',⟨by have:=HK1.out;omega⟩,by repeat (first|exact Drawn0.refl _|apply Drawn0.step)⟩
   ·rw [if_neg c3] at H
    have c3b0 : decide (x6_1 < (l0.length : Int)) = false := decide_eq_false c3
    clear c3
    simp only [Option.some.injEq, Prod.mk.injEq] at H
    obtain ⟨rfl, rfl⟩ := H
    go_wp2
    go_ret2
    exact ⟨by first | rfl | (simp; done) | (simp [*]; done), by repeat (first | exact Drawn0.refl _ | apply Drawn0.step)⟩

/-! ### rickyardref1_TakeRun: function 22 -/
def rickyardref1_TakeRun.l0 : Nat → List (S32) → Int → Int → List (S32) → Int → Option ((List (S32)) × Int × Int)
 | 0, _, _, _, _, _ => none
 | k + 1, x0, x1, x7, x9, x10 => if x10 < (x0.length : Int) then (if 0 ≤ x10 then (if x10 = x7 then (if (wrap64 (((rd_T32 x0 x10).f1) - x1)) > 0 then (if x9.length < 8796093022208 then (rickyardref1_TakeRun.l0 k x0 x1 x7 (x9 ++ [(⟨wrap64 (((rd_T32 x0 x10).f0) + x1), wrap64 (((rd_T32 x0 x10).f1) - x1)⟩ : S32)]) (wrap64 (x10 + 1))) else (none)) else (rickyardref1_TakeRun.l0 k x0 x1 x7 x9 (wrap64 (x10 + 1)))) else (if ((rd_T32 x0 x10).f1) > 0 then (if x9.length < 8796093022208 then (rickyardref1_TakeRun.l0 k x0 x1 x7 (x9 ++ [(⟨(rd_T32 x0 x10).f0, (rd_T32 x0 x10).f1⟩ : S32)]) (wrap64 (x10 + 1))) else (none)) else (rickyardref1_TakeRun.l0 k x0 x1 x7 x9 (wrap64 (x10 + 1))))) else (none)) else (if 0 ≤ x7 then (if x7 < (x0.length : Int) then (some (x9, (rd_T32 x0 x7).f0, 0)) else (none)) else (none))
def rickyardref1_TakeRun.f (k : Nat) (l0 : List (S32)) (a1 : Int) : Option ((List (S32)) × Int × Int) := if a1 < 1 then (some (([] : List (S32)), 0, 1)) else ((rickyardref1_Fit.f k l0 a1).bind fun bt318 => (if bt318.2 = true then (rickyardref1_TakeRun.l0 k l0 a1 bt318.1 ([] : List (S32)) 0) else (some (([] : List (S32)), 0, 3))))
theorem rickyardref1_TakeRun.mono_l : ∀ k, (∀ y0 y1 y2 y3 y4, LeO (rickyardref1_TakeRun.l0 k y0 y1 y2 y3 y4) (rickyardref1_TakeRun.l0 (k + 1) y0 y1 y2 y3 y4))
 | 0 => fun _ _ _ _ _ r h => by simp [rickyardref1_TakeRun.l0] at h
 | k + 1 => by
  have ih0 := rickyardref1_TakeRun.mono_l k
  ·intro y0 y1 y2 y3 y4
   unfold rickyardref1_TakeRun.l0
   repeat' first
   | (with_reducible exact ih0 _ _ _ _ _)
   | (with_reducible exact rickyardref1_Fit.mono _ _ _)
   | (with_reducible exact LeO.refl _)
   | (with_reducible exact LeO.none _)
   | (with_reducible refine LeO.ite ?_ ?_)
   | (with_reducible refine LeO.bind ?_ (fun _ => ?_))
   | exact ih0 _ _ _ _ _
   | exact rickyardref1_Fit.mono _ _ _
   | exact LeO.none _
   | refine LeO.ite ?_ ?_
   | refine LeO.bind ?_ (fun _ => ?_)
theorem rickyardref1_TakeRun.mono : ∀ a0 a1 k, LeO (rickyardref1_TakeRun.f k a0 a1) (rickyardref1_TakeRun.f (k + 1) a0 a1) := by
 intro a0 a1 k
 have ih0 := rickyardref1_TakeRun.mono_l k
 unfold rickyardref1_TakeRun.f
 repeat' first
   | (with_reducible exact ih0 _ _ _ _ _)
   | (with_reducible exact rickyardref1_Fit.mono _ _ _)
   | (with_reducible exact LeO.refl _)
   | (with_reducible exact LeO.none _)
   | (with_reducible refine LeO.ite ?_ ?_)
   | (with_reducible refine LeO.bind ?_ (fun _ => ?_))
   | exact ih0 _ _ _ _ _
   | exact rickyardref1_Fit.mono _ _ _
   | exact LeO.none _
   | refine LeO.ite ?_ ?_
   | refine LeO.bind ?_ (fun _ => ?_)
set_option maxHeartbeats 8000000 in
set_option maxRecDepth 100000 in
theorem rickyardref1_TakeRun.calls (k : Nat) (A0 : Option Addr) (c0 : Nat) (l0 : List (S32)) (a1 : Int) (r1 : List (S32)) (r2 : Int) (r3 : Int) (w : World) (hr0 : Kd.C k32 w A0 l0.length l0) (hc0 : l0.length ≤ c0) (h : rickyardref1_TakeRun.f k l0 a1 = some (r1, r2, r3)) :
  Calls Try.prog 22 #[.slice A0 l0.length c0, .int .i64 a1] w fun e w' => ∃ v0_ : Value, e = .returned (.tuple #[v0_, .int .i64 r2, .int .i64 r3]) ∧ Kd.R k32 32 w' w.heap.size (fun _ => True) v0_ r1 ∧ Below w.heap.size w w' := by
 have hu32 := Try.underlying32
 have HR0 := aM hr0
 have HC0 := aM hc0
 clear hr0 hc0
 have HB := aM (Below.refl w.heap.size w)
 have H : (if a1 < 1 then (some (([] : List (S32)), 0, 1)) else ((rickyardref1_Fit.f k l0 a1).bind fun bt318 => (if bt318.2 = true then (rickyardref1_TakeRun.l0 k l0 a1 bt318.1 ([] : List (S32)) 0) else (some (([] : List (S32)), 0, 3))))) = some (r1, r2, r3) := h
 clear h
 by_cases c3 : a1 < 1
 ·rw [if_pos c3] at H
  have c3b0 : decide (a1 < 1) = true := decide_eq_true c3
  clear c3
  simp only [Option.some.injEq, Prod.mk.injEq] at H
  obtain ⟨rfl, rfl, rfl⟩ := H
  go_enter Try.func22, Try.ntmps22
  go_wp2
  repeat (go_quiet (fail);try go_wp2)
  go_ret3
  exact ⟨_, by first | rfl | (simp [errW_none, errW_some] <;> rfl) | (simp [*, errW_none, errW_some] <;> rfl), by first | exact Kd.R_nil _ _ _ _ _ | exact Kd.N_nil _ _ _ _ _ | exact Kd.V_nil _ _ _ _ _ | exact Kd.Q_nil _ _ _ _ _ | exact Kd.S_nil _ _ _ _ _, by repeat (first | (with_reducible first | exact HB.out | apply wA | apply wN_ | apply wD) | exact HB.out)⟩
 ·rw [if_neg c3] at H
  have c3b0 : decide (a1 < 1) = false := decide_eq_false c3
  clear c3
  replace H := Option.bind_eq_some_iff.mp H
  obtain ⟨⟨t318, t319⟩, A40, H⟩ := H
  replace H : (if t319 = true then (rickyardref1_TakeRun.l0 k l0 a1 t318 ([] : List (S32)) 0) else (some (([] : List (S32)), 0, 3))) = some (r1, r2, r3) := H
  have A4 := aM A40
  clear A40
  by_cases c5 : t319 = true
  ·subst c5
   have H1 : (rickyardref1_TakeRun.l0 k l0 a1 t318 ([] : List (S32)) 0) = some (r1, r2, r3) := by rw [if_pos rfl] at H; exact H
   clear H
   have H := H1
   clear H1
   have H' := aM H
   clear H
   go_enter Try.func22, Try.ntmps22
   go_wp2_with (first|(go_at_call 49;(with_reducible refine (rickyardref1_Fit.calls k _ _ l0 a1 t318 true _ ?side1 ?side2 A4.out).mono ?_);(case side1 => repeat (first|exact HR0.out|(with_reducible refine cA ?_ _)|(with_reducible refine cN ?_ _)|(with_reducible refine cD ?_)));(case side2 => exact HC0.out);rintro e w' ⟨rfl,⟨nd,rfl⟩⟩;(try first|exact ⟨rfl,_,World.drewN_drewN _ _ _⟩|exact ⟨rfl,_,Eq.trans (World.drewN_drewN _ _ _) (congrArg (World.drewN _) (Nat.add_assoc _ _ _))⟩)))
   repeat (go_quiet (first|(go_at_call 49;(with_reducible refine (rickyardref1_Fit.calls k _ _ l0 a1 t318 true _ ?side1 ?side2 A4.out).mono ?_);(case side1 => repeat (first|exact HR0.out|(with_reducible refine cA ?_ _)|(with_reducible refine cN ?_ _)|(with_reducible refine cD ?_)));(case side2 => exact HC0.out);rintro e w' ⟨rfl,⟨nd,rfl⟩⟩;(try first|exact ⟨rfl,_,World.drewN_drewN _ _ _⟩|exact ⟨rfl,_,Eq.trans (World.drewN_drewN _ _ _) (congrArg (World.drewN _) (Nat.add_assoc _ _ _))⟩)));try go_wp2_with (first|(go_at_call 49;(with_reducible refine (rickyardref1_Fit.calls k _ _ l0 a1 t318 true _ ?side1 ?side2 A4.out).mono ?_);(case side1 => repeat (first|exact HR0.out|(with_reducible refine cA ?_ _)|(with_reducible refine cN ?_ _)|(with_reducible refine cD ?_)));(case side2 => exact HC0.out);rintro e w' ⟨rfl,⟨nd,rfl⟩⟩;(try first|exact ⟨rfl,_,World.drewN_drewN _ _ _⟩|exact ⟨rfl,_,Eq.trans (World.drewN_drewN _ _ _) (congrArg (World.drewN _) (Nat.add_assoc _ _ _))⟩))))
   go_loopg [9, 10] k (fun kq v9 v10 w' => ∃ (x9_1 : List (S32)) (x10_1 : Int), v10 = .int .i64 x10_1 ∧ Aside0 (rickyardref1_TakeRun.l0 kq l0 a1 t318 x9_1 x10_1 = some (r1, r2, r3)) ∧ Aside0 (kq ≤ k) ∧ Aside0 (Kd.R k32 32 w' w.heap.size (fun _ => True) v9 x9_1) ∧ Aside0 (Below w.heap.size w w'))
   case atStart => exact ⟨(([] : List (S32))),(0),(by first|rfl|(simp;done)|(simp [*];done)),H',⟨Nat.le_refl _⟩,⟨by first|exact Kd.R_nil _ _ _ _ _|exact Kd.N_nil _ _ _ _ _|exact Kd.V_nil _ _ _ _ _|exact Kd.Q_nil _ _ _ _ _|exact Kd.S_nil _ _ _ _ _⟩,⟨by repeat (first|(with_reducible first|exact HB.out|apply wA|apply wN_|apply wD)|exact HB.out)⟩⟩
   case round =>
    clear H'
    try clear c2
    try clear p2
    try clear c3
    try clear c3b0
    try clear c5
    obtain ⟨x9_1, x10_1, rfl, HA, HK1, HO_9, HB⟩ := hrel
    cases gk with
    | zero => exact absurd HA.out (by simp [rickyardref1_TakeRun.l0])
    | succ k1 =>
     have H := HA.out
     clear HA
     simp only [rickyardref1_TakeRun.l0] at H
     by_cases c6 : x10_1 < (l0.length : Int)
     ·rw [if_pos c6] at H
      have c6b0 : decide (x10_1 < (l0.length : Int)) = true := decide_eq_true c6
      clear c6
      by_cases c7 : 0 ≤ x10_1
      ·rw [if_pos c7] at H
       have c7b0 : decide (0 ≤ x10_1) = true := decide_eq_true c7
       clear c7
       by_cases c8 : x10_1 = t318
       ·rw [if_pos c8] at H
        have c8b0 : (x10_1 == t318) = true := beq_iff_eq.mpr c8
        have c8b1 : (x10_1 != t318) = false := bne_eq_false_iff_eq.mpr c8
        clear c8
        by_cases c9 : (wrap64 (((rd_T32 l0 x10_1).f1) - a1)) > 0
        ·rw [if_pos c9] at H
         have c9b0 : decide (0 < (wrap64 (((rd_T32 l0 x10_1).f1) - a1))) = true := decide_eq_true c9
         clear c9
         by_cases c10 : x9_1.length < 8796093022208
         ·rw [if_pos c10] at H
          have LMc10 := aM c10
          clear c10
          obtain ⟨y323, hy323⟩ : ∃ y_ : List (S32), y_ = (x9_1 ++ [(⟨wrap64 (((rd_T32 l0 x10_1).f0) + a1), wrap64 (((rd_T32 l0 x10_1).f1) - a1)⟩ : S32)]) := ⟨_, rfl⟩
          replace H : (rickyardref1_TakeRun.l0 k1 l0 a1 t318 y323 (wrap64 (x10_1 + 1))) = some (r1, r2, r3) := by first | (rw [hy323]; with_reducible exact H) | (have H2_ := (Option.bind_some _ _).symm.trans H; rw [hy323]; with_reducible exact H2_) | (have H2_ := (Option.bind_some _ _).symm.trans H; with_reducible exact H2_) | with_reducible exact H | (rw [hy323]; exact H) | exact H
          have Ny323 := aM hy323
          clear hy323
          have H' := aM H
          clear H
          have p321 : 0 ≤ (x10_1 : Int) := oD (by first | (with_reducible assumption) | assumption)
          have q321 : x10_1 < (l0.length : Int) := oD (by first | (with_reducible assumption) | assumption)
          obtain ⟨ad321, e321, hx321_0, hx321_1⟩ := at_T32 HR0.out x10_1 p321 q321
          cases e321
          replace hx321_0 := (HB.out.cell (wL w _ hx321_0)).trans hx321_0
          replace hx321_1 := (HB.out.cell (wL w _ hx321_1)).trans hx321_1
          replace p321 := eq_true p321
          replace q321 := eq_true q321
          go_wp2_with (first|((with_reducible refine gate_dst (N:=11) rfl ?_);refine box_event ?hg (N:=11) ?hd (cs:=#[.int .i64 0,.int .i64 0]) (t:=32) ?hr ?_;(case hd => rfl);(case hg => rfl);(case hr => first|(go_simp;done)|(go_simp;rfl));intro gb322 hg w11 hbox hb;have n0_:=aM (rB (Kd.R_elderB (by (with_reducible repeat (first|apply rA|apply rN|apply rD));exact HO_9.out) gb322 (Nat.le_of_eq hg.symm)) hb);have n1_:=aM (wT (by repeat (first|(with_reducible first|exact HB.out|apply wA|apply wN_|apply wD)|exact HB.out)) hb);have n2_:=aM (hbox);have n3_:=aM ((by rw [hg];exact (wZ (by repeat (first|(with_reducible first|exact HB.out|apply wA|apply wN_|apply wD)|exact HB.out))) : w.heap.size ≤ gb322));have n4_:=aM ((by rw [hg];exact (wZ (by repeat (first|(with_reducible first|exact HB.out|apply wA|apply wN_|apply wD)|exact HB.out))) : w.heap.size ≤ gb322));clear HO_9;clear HB;have HO_9:=n0_;have HB:=n1_;have BK322:=n2_;have GW322:=n3_;have GE322:=n4_;clear n0_ n1_ n2_ n3_ n4_;clear hb hbox hg;have hcy12_0 : ∀ x0_ x1_ y0_ y1_ : Value,World.cell? ((((w11.setCell ⟨gb322,0,none⟩ x0_).setCell ⟨gb322,1,none⟩ x1_).setCell ⟨gb322,0,none⟩ y0_).setCell ⟨gb322,1,none⟩ y1_) ⟨gb322,0,none⟩ = some y0_:=fun x0_ x1_ y0_ y1_ => (bC (bP (bP (bP (bP BK322.out 0 x0_ rfl) 1 x1_ rfl) 0 y0_ rfl) 1 y1_ rfl) 0).trans rfl;have hcy12_1 : ∀ x0_ x1_ y0_ y1_ : Value,World.cell? ((((w11.setCell ⟨gb322,0,none⟩ x0_).setCell ⟨gb322,1,none⟩ x1_).setCell ⟨gb322,0,none⟩ y0_).setCell ⟨gb322,1,none⟩ y1_) ⟨gb322,1,none⟩ = some y1_:=fun x0_ x1_ y0_ y1_ => (bC (bP (bP (bP (bP BK322.out 0 x0_ rfl) 1 x1_ rfl) 0 y0_ rfl) 1 y1_ rfl) 1).trans rfl;have hcz12_0 : w11.cell? ⟨gb322,0,none⟩ = some (.int .i64 0):=(bC BK322.out 0).trans rfl;have hcz12_1 : w11.cell? ⟨gb322,1,none⟩ = some (.int .i64 0):=(bC BK322.out 1).trans rfl;have hfz12_0:=bF BK322.out 0;have hfz12_1:=bF BK322.out 1)|((with_reducible refine gate_builtin (b:=.append) (xs:=#[.tmp 47,.tmp 49]) rfl ?_);at_builtin;refine Kd.R_append k32 (w0:=w) w.heap.size rfl (.tmp 47) (.tmp 49) 23 32 (.agg #[(.int .i64 0),(.int .i64 0)]) 16 rfl Try.underlying23 info32 rfl (by decide) (by omega) u9 x9_1 (⟨wrap64 (((rd_T32 l0 x10_1).f0) + a1),wrap64 (((rd_T32 l0 x10_1).f1) - a1)⟩ : S32) [.int .i64 (wrap64 (((rd_T32 l0 x10_1).f0) + a1)),.int .i64 (wrap64 (((rd_T32 l0 x10_1).f1) - a1))] (fun k_ => k_ ≠ gb322) (fun _ => False) rfl (by first|(go_simp;done)|(go_simp;rfl)) ?aP (fun _ hk => hk.elim) ?aF ?aO ?aB ?aS ?aL ?_;(case aP => exact k32_mkM _ _ _ (⟨wrap64 (((rd_T32 l0 x10_1).f0) + a1),wrap64 (((rd_T32 l0 x10_1).f1) - a1)⟩ : S32));(case aB => exact (by repeat (first|(with_reducible first|exact HB.out|apply wA|apply wN_|apply wD|refine wS ?_ GE322.out)|exact HB.out)));(case aF => exact (fun k_ hk => Kd.freshB (g:=gb322) (o:=.cells #[.int .i64 (wrap64 (((rd_T32 l0 x10_1).f0) + a1)),.int .i64 (wrap64 (((rd_T32 l0 x10_1).f1) - a1))] 32 (0,0)) (by (with_reducible repeat (first|refine bN ?_ _|refine bD ?_|refine bA ?_ _));refine bP (cs:=#[.int .i64 (wrap64 (((rd_T32 l0 x10_1).f0) + a1)),.int .i64 ((rd_T32 l0 x10_1).f1)]) ?_ 1 _ rfl;(with_reducible repeat (first|refine bN ?_ _|refine bD ?_|refine bA ?_ _));refine bP (cs:=#[.int .i64 ((rd_T32 l0 x10_1).f0),.int .i64 ((rd_T32 l0 x10_1).f1)]) ?_ 0 _ rfl;(with_reducible repeat (first|refine bN ?_ _|refine bD ?_|refine bA ?_ _));refine bP (cs:=#[.int .i64 ((rd_T32 l0 x10_1).f0),.int .i64 0]) ?_ 1 _ rfl;(with_reducible repeat (first|refine bN ?_ _|refine bD ?_|refine bA ?_ _));refine bP (cs:=#[.int .i64 0,.int .i64 0]) ?_ 0 _ rfl;(with_reducible repeat (first|refine bN ?_ _|refine bD ?_|refine bA ?_ _));exact BK322.out) k_ hk));(case aO => exact (by (with_reducible repeat (first|apply rA|apply rN|apply rD));exact rM (rF_ (p:=⟨gb322,1,none⟩) (rF_ (p:=⟨gb322,0,none⟩) (rF_ (p:=⟨gb322,1,none⟩) (rF_ (p:=⟨gb322,0,none⟩) (rM HO_9.out (fun k_ hk => (⟨hk,hk.2⟩ : _ ∧ k_ ≠ gb322))) (fun _ hk => hk.2) (.int .i64 ((rd_T32 l0 x10_1).f0))) (fun _ hk => hk.2) (.int .i64 ((rd_T32 l0 x10_1).f1))) (fun _ hk => hk.2) (.int .i64 (wrap64 (((rd_T32 l0 x10_1).f0) + a1)))) (fun _ hk => hk.2) (.int .i64 (wrap64 (((rd_T32 l0 x10_1).f1) - a1)))) (fun _ hk => hk.1.2)));(case aS => exact (wZ (by repeat (first|(with_reducible first|exact HB.out|apply wA|apply wN_|apply wD|refine wS ?_ GE322.out)|exact HB.out))));(case aL => have:=LMc10.out;omega);intro v324 w13 ho hb hg hat;rw [← Ny323.out] at ho;have n0_:=aM (blk_grown (g:=gb322) (o:=.cells #[.int .i64 (wrap64 (((rd_T32 l0 x10_1).f0) + a1)),.int .i64 (wrap64 (((rd_T32 l0 x10_1).f1) - a1))] 32 (0,0)) (by (with_reducible repeat (first|refine bN ?_ _|refine bD ?_|refine bA ?_ _));refine bP (cs:=#[.int .i64 (wrap64 (((rd_T32 l0 x10_1).f0) + a1)),.int .i64 ((rd_T32 l0 x10_1).f1)]) ?_ 1 _ rfl;(with_reducible repeat (first|refine bN ?_ _|refine bD ?_|refine bA ?_ _));refine bP (cs:=#[.int .i64 ((rd_T32 l0 x10_1).f0),.int .i64 ((rd_T32 l0 x10_1).f1)]) ?_ 0 _ rfl;(with_reducible repeat (first|refine bN ?_ _|refine bD ?_|refine bA ?_ _));refine bP (cs:=#[.int .i64 ((rd_T32 l0 x10_1).f0),.int .i64 0]) ?_ 1 _ rfl;(with_reducible repeat (first|refine bN ?_ _|refine bD ?_|refine bA ?_ _));refine bP (cs:=#[.int .i64 0,.int .i64 0]) ?_ 0 _ rfl;(with_reducible repeat (first|refine bN ?_ _|refine bD ?_|refine bA ?_ _));exact BK322.out) hg (Kd.R_away HO_9.out (fun _ hk => hk.2)));have n1_:=aM (hb);have n2_:=aM (ho);clear BK322;clear HB;clear HO_9;have BK322:=n0_;have HB:=n1_;have HO325:=n2_;clear n0_ n1_ n2_;clear ho hb hg hat))
          repeat (go_quiet (first|((with_reducible refine gate_dst (N:=11) rfl ?_);refine box_event ?hg (N:=11) ?hd (cs:=#[.int .i64 0,.int .i64 0]) (t:=32) ?hr ?_;(case hd => rfl);(case hg => rfl);(case hr => first|(go_simp;done)|(go_simp;rfl));intro gb322 hg w11 hbox hb;have n0_:=aM (rB (Kd.R_elderB (by (with_reducible repeat (first|apply rA|apply rN|apply rD));exact HO_9.out) gb322 (Nat.le_of_eq hg.symm)) hb);have n1_:=aM (wT (by repeat (first|(with_reducible first|exact HB.out|apply wA|apply wN_|apply wD)|exact HB.out)) hb);have n2_:=aM (hbox);have n3_:=aM ((by rw [hg];exact (wZ (by repeat (first|(with_reducible first|exact HB.out|apply wA|apply wN_|apply wD)|exact HB.out))) : w.heap.size ≤ gb322));have n4_:=aM ((by rw [hg];exact (wZ (by repeat (first|(with_reducible first|exact HB.out|apply wA|apply wN_|apply wD)|exact HB.out))) : w.heap.size ≤ gb322));clear HO_9;clear HB;have HO_9:=n0_;have HB:=n1_;have BK322:=n2_;have GW322:=n3_;have GE322:=n4_;clear n0_ n1_ n2_ n3_ n4_;clear hb hbox hg;have hcy12_0 : ∀ x0_ x1_ y0_ y1_ : Value,World.cell? ((((w11.setCell ⟨gb322,0,none⟩ x0_).setCell ⟨gb322,1,none⟩ x1_).setCell ⟨gb322,0,none⟩ y0_).setCell ⟨gb322,1,none⟩ y1_) ⟨gb322,0,none⟩ = some y0_:=fun x0_ x1_ y0_ y1_ => (bC (bP (bP (bP (bP BK322.out 0 x0_ rfl) 1 x1_ rfl) 0 y0_ rfl) 1 y1_ rfl) 0).trans rfl;have hcy12_1 : ∀ x0_ x1_ y0_ y1_ : Value,World.cell? ((((w11.setCell ⟨gb322,0,none⟩ x0_).setCell ⟨gb322,1,none⟩ x1_).setCell ⟨gb322,0,none⟩ y0_).setCell ⟨gb322,1,none⟩ y1_) ⟨gb322,1,none⟩ = some y1_:=fun x0_ x1_ y0_ y1_ => (bC (bP (bP (bP (bP BK322.out 0 x0_ rfl) 1 x1_ rfl) 0 y0_ rfl) 1 y1_ rfl) 1).trans rfl;have hcz12_0 : w11.cell? ⟨gb322,0,none⟩ = some (.int .i64 0):=(bC BK322.out 0).trans rfl;have hcz12_1 : w11.cell? ⟨gb322,1,none⟩ = some (.int .i64 0):=(bC BK322.out 1).trans rfl;have hfz12_0:=bF BK322.out 0;have hfz12_1:=bF BK322.out 1)|((with_reducible refine gate_builtin (b:=.append) (xs:=#[.tmp 47,.tmp 49]) rfl ?_);at_builtin;refine Kd.R_append k32 (w0:=w) w.heap.size rfl (.tmp 47) (.tmp 49) 23 32 (.agg #[(.int .i64 0),(.int .i64 0)]) 16 rfl Try.underlying23 info32 rfl (by decide) (by omega) u9 x9_1 (⟨wrap64 (((rd_T32 l0 x10_1).f0) + a1),wrap64 (((rd_T32 l0 x10_1).f1) - a1)⟩ : S32) [.int .i64 (wrap64 (((rd_T32 l0 x10_1).f0) + a1)),.int .i64 (wrap64 (((rd_T32 l0 x10_1).f1) - a1))] (fun k_ => k_ ≠ gb322) (fun _ => False) rfl (by first|(go_simp;done)|(go_simp;rfl)) ?aP (fun _ hk => hk.elim) ?aF ?aO ?aB ?aS ?aL ?_;(case aP => exact k32_mkM _ _ _ (⟨wrap64 (((rd_T32 l0 x10_1).f0) + a1),wrap64 (((rd_T32 l0 x10_1).f1) - a1)⟩ : S32));(case aB => exact (by repeat (first|(with_reducible first|exact HB.out|apply wA|apply wN_|apply wD|refine wS ?_ GE322.out)|exact HB.out)));(case aF => exact (fun k_ hk => Kd.freshB (g:=gb322) (o:=.cells #[.int .i64 (wrap64 (((rd_T32 l0 x10_1).f0) + a1)),.int .i64 (wrap64 (((rd_T32 l0 x10_1).f1) - a1))] 32 (0,0)) (by (with_reducible repeat (first|refine bN ?_ _|refine bD ?_|refine bA ?_ _));refine bP (cs:=#[.int .i64 (wrap64 (((rd_T32 l0 x10_1).f0) + a1)),.int .i64 ((rd_T32 l0 x10_1).f1)]) ?_ 1 _ rfl;(with_reducible repeat (first|refine bN ?_ _|refine bD ?_|refine bA ?_ _));refine bP (cs:=#[.int .i64 ((rd_T32 l0 x10_1).f0),.int .i64 ((rd_T32 l0 x10_1).f1)]) ?_ 0 _ rfl;(with_reducible repeat (first|refine bN ?_ _|refine bD ?_|refine bA ?_ _));refine bP (cs:=#[.int .i64 ((rd_T32 l0 x10_1).f0),.int .i64 0]) ?_ 1 _ rfl;(with_reducible repeat (first|refine bN ?_ _|refine bD ?_|refine bA ?_ _));refine bP (cs:=#[.int .i64 0,.int .i64 0]) ?_ 0 _ rfl;(with_reducible repeat (first|refine bN ?_ _|refine bD ?_|refine bA ?_ _));exact BK322.out) k_ hk));(case aO => exact (by (with_reducible repeat (first|apply rA|apply rN|apply rD));exact rM (rF_ (p:=⟨gb322,1,none⟩) (rF_ (p:=⟨gb322,0,none⟩) (rF_ (p:=⟨gb322,1,none⟩) (rF_ (p:=⟨gb322,0,none⟩) (rM HO_9.out (fun k_ hk => (⟨hk,hk.2⟩ : _ ∧ k_ ≠ gb322))) (fun _ hk => hk.2) (.int .i64 ((rd_T32 l0 x10_1).f0))) (fun _ hk => hk.2) (.int .i64 ((rd_T32 l0 x10_1).f1))) (fun _ hk => hk.2) (.int .i64 (wrap64 (((rd_T32 l0 x10_1).f0) + a1)))) (fun _ hk => hk.2) (.int .i64 (wrap64 (((rd_T32 l0 x10_1).f1) - a1)))) (fun _ hk => hk.1.2)));(case aS => exact (wZ (by repeat (first|(with_reducible first|exact HB.out|apply wA|apply wN_|apply wD|refine wS ?_ GE322.out)|exact HB.out))));(case aL => have:=LMc10.out;omega);intro v324 w13 ho hb hg hat;rw [← Ny323.out] at ho;have n0_:=aM (blk_grown (g:=gb322) (o:=.cells #[.int .i64 (wrap64 (((rd_T32 l0 x10_1).f0) + a1)),.int .i64 (wrap64 (((rd_T32 l0 x10_1).f1) - a1))] 32 (0,0)) (by (with_reducible repeat (first|refine bN ?_ _|refine bD ?_|refine bA ?_ _));refine bP (cs:=#[.int .i64 (wrap64 (((rd_T32 l0 x10_1).f0) + a1)),.int .i64 ((rd_T32 l0 x10_1).f1)]) ?_ 1 _ rfl;(with_reducible repeat (first|refine bN ?_ _|refine bD ?_|refine bA ?_ _));refine bP (cs:=#[.int .i64 ((rd_T32 l0 x10_1).f0),.int .i64 ((rd_T32 l0 x10_1).f1)]) ?_ 0 _ rfl;(with_reducible repeat (first|refine bN ?_ _|refine bD ?_|refine bA ?_ _));refine bP (cs:=#[.int .i64 ((rd_T32 l0 x10_1).f0),.int .i64 0]) ?_ 1 _ rfl;(with_reducible repeat (first|refine bN ?_ _|refine bD ?_|refine bA ?_ _));refine bP (cs:=#[.int .i64 0,.int .i64 0]) ?_ 0 _ rfl;(with_reducible repeat (first|refine bN ?_ _|refine bD ?_|refine bA ?_ _));exact BK322.out) hg (Kd.R_away HO_9.out (fun _ hk => hk.2)));have n1_:=aM (hb);have n2_:=aM (ho);clear BK322;clear HB;clear HO_9;have BK322:=n0_;have HB:=n1_;have HO325:=n2_;clear n0_ n1_ n2_;clear ho hb hg hat));try go_wp2_with (first|((with_reducible refine gate_dst (N:=11) rfl ?_);refine box_event ?hg (N:=11) ?hd (cs:=#[.int .i64 0,.int .i64 0]) (t:=32) ?hr ?_;(case hd => rfl);(case hg => rfl);(case hr => first|(go_simp;done)|(go_simp;rfl));intro gb322 hg w11 hbox hb;have n0_:=aM (rB (Kd.R_elderB (by (with_reducible repeat (first|apply rA|apply rN|apply rD));exact HO_9.out) gb322 (Nat.le_of_eq hg.symm)) hb);have n1_:=aM (wT (by repeat (first|(with_reducible first|exact HB.out|apply wA|apply wN_|apply wD)|exact HB.out)) hb);have n2_:=aM (hbox);have n3_:=aM ((by rw [hg];exact (wZ (by repeat (first|(with_reducible first|exact HB.out|apply wA|apply wN_|apply wD)|exact HB.out))) : w.heap.size ≤ gb322));have n4_:=aM ((by rw [hg];exact (wZ (by repeat (first|(with_reducible first|exact HB.out|apply wA|apply wN_|apply wD)|exact HB.out))) : w.heap.size ≤ gb322));clear HO_9;clear HB;have HO_9:=n0_;have HB:=n1_;have BK322:=n2_;have GW322:=n3_;have GE322:=n4_;clear n0_ n1_ n2_ n3_ n4_;clear hb hbox hg;have hcy12_0 : ∀ x0_ x1_ y0_ y1_ : Value,World.cell? ((((w11.setCell ⟨gb322,0,none⟩ x0_).setCell ⟨gb322,1,none⟩ x1_).setCell ⟨gb322,0,none⟩ y0_).setCell ⟨gb322,1,none⟩ y1_) ⟨gb322,0,none⟩ = some y0_:=fun x0_ x1_ y0_ y1_ => (bC (bP (bP (bP (bP BK322.out 0 x0_ rfl) 1 x1_ rfl) 0 y0_ rfl) 1 y1_ rfl) 0).trans rfl;have hcy12_1 : ∀ x0_ x1_ y0_ y1_ : Value,World.cell? ((((w11.setCell ⟨gb322,0,none⟩ x0_).setCell ⟨gb322,1,none⟩ x1_).setCell ⟨gb322,0,none⟩ y0_).setCell ⟨gb322,1,none⟩ y1_) ⟨gb322,1,none⟩ = some y1_:=fun x0_ x1_ y0_ y1_ => (bC (bP (bP (bP (bP BK322.out 0 x0_ rfl) 1 x1_ rfl) 0 y0_ rfl) 1 y1_ rfl) 1).trans rfl;have hcz12_0 : w11.cell? ⟨gb322,0,none⟩ = some (.int .i64 0):=(bC BK322.out 0).trans rfl;have hcz12_1 : w11.cell? ⟨gb322,1,none⟩ = some (.int .i64 0):=(bC BK322.out 1).trans rfl;have hfz12_0:=bF BK322.out 0;have hfz12_1:=bF BK322.out 1)|((with_reducible refine gate_builtin (b:=.append) (xs:=#[.tmp 47,.tmp 49]) rfl ?_);at_builtin;refine Kd.R_append k32 (w0:=w) w.heap.size rfl (.tmp 47) (.tmp 49) 23 32 (.agg #[(.int .i64 0),(.int .i64 0)]) 16 rfl Try.underlying23 info32 rfl (by decide) (by omega) u9 x9_1 (⟨wrap64 (((rd_T32 l0 x10_1).f0) + a1),wrap64 (((rd_T32 l0 x10_1).f1) - a1)⟩ : S32) [.int .i64 (wrap64 (((rd_T32 l0 x10_1).f0) + a1)),.int .i64 (wrap64 (((rd_T32 l0 x10_1).f1) - a1))] (fun k_ => k_ ≠ gb322) (fun _ => False) rfl (by first|(go_simp;done)|(go_simp;rfl)) ?aP (fun _ hk => hk.elim) ?aF ?aO ?aB ?aS ?aL ?_;(case aP => exact k32_mkM _ _ _ (⟨wrap64 (((rd_T32 l0 x10_1).f0) + a1),wrap64 (((rd_T32 l0 x10_1).f1) - a1)⟩ : S32));(case aB => exact (by repeat (first|(with_reducible first|exact HB.out|apply wA|apply wN_|apply wD|refine wS ?_ GE322.out)|exact HB.out)));(case aF => exact (fun k_ hk => Kd.freshB (g:=gb322) (o:=.cells #[.int .i64 (wrap64 (((rd_T32 l0 x10_1).f0) + a1)),.int .i64 (wrap64 (((rd_T32 l0 x10_1).f1) - a1))] 32 (0,0)) (by (with_reducible repeat (first|refine bN ?_ _|refine bD ?_|refine bA ?_ _));refine bP (cs:=#[.int .i64 (wrap64 (((rd_T32 l0 x10_1).f0) + a1)),.int .i64 ((rd_T32 l0 x10_1).f1)]) ?_ 1 _ rfl;(with_reducible repeat (first|refine bN ?_ _|refine bD ?_|refine bA ?_ _));refine bP (cs:=#[.int .i64 ((rd_T32 l0 x10_1).f0),.int .i64 ((rd_T32 l0 x10_1).f1)]) ?_ 0 _ rfl;(with_reducible repeat (first|refine bN ?_ _|refine bD ?_|refine bA ?_ _));refine bP (cs:=#[.int .i64 ((rd_T32 l0 x10_1).f0),.int .i64 0]) ?_ 1 _ rfl;(with_reducible repeat (first|refine bN ?_ _|refine bD ?_|refine bA ?_ _));refine bP (cs:=#[.int .i64 0,.int .i64 0]) ?_ 0 _ rfl;(with_reducible repeat (first|refine bN ?_ _|refine bD ?_|refine bA ?_ _));exact BK322.out) k_ hk));(case aO => exact (by (with_reducible repeat (first|apply rA|apply rN|apply rD));exact rM (rF_ (p:=⟨gb322,1,none⟩) (rF_ (p:=⟨gb322,0,none⟩) (rF_ (p:=⟨gb322,1,none⟩) (rF_ (p:=⟨gb322,0,none⟩) (rM HO_9.out (fun k_ hk => (⟨hk,hk.2⟩ : _ ∧ k_ ≠ gb322))) (fun _ hk => hk.2) (.int .i64 ((rd_T32 l0 x10_1).f0))) (fun _ hk => hk.2) (.int .i64 ((rd_T32 l0 x10_1).f1))) (fun _ hk => hk.2) (.int .i64 (wrap64 (((rd_T32 l0 x10_1).f0) + a1)))) (fun _ hk => hk.2) (.int .i64 (wrap64 (((rd_T32 l0 x10_1).f1) - a1)))) (fun _ hk => hk.1.2)));(case aS => exact (wZ (by repeat (first|(with_reducible first|exact HB.out|apply wA|apply wN_|apply wD|refine wS ?_ GE322.out)|exact HB.out))));(case aL => have:=LMc10.out;omega);intro v324 w13 ho hb hg hat;rw [← Ny323.out] at ho;have n0_:=aM (blk_grown (g:=gb322) (o:=.cells #[.int .i64 (wrap64 (((rd_T32 l0 x10_1).f0) + a1)),.int .i64 (wrap64 (((rd_T32 l0 x10_1).f1) - a1))] 32 (0,0)) (by (with_reducible repeat (first|refine bN ?_ _|refine bD ?_|refine bA ?_ _));refine bP (cs:=#[.int .i64 (wrap64 (((rd_T32 l0 x10_1).f0) + a1)),.int .i64 ((rd_T32 l0 x10_1).f1)]) ?_ 1 _ rfl;(with_reducible repeat (first|refine bN ?_ _|refine bD ?_|refine bA ?_ _));refine bP (cs:=#[.int .i64 ((rd_T32 l0 x10_1).f0),.int .i64 ((rd_T32 l0 x10_1).f1)]) ?_ 0 _ rfl;(with_reducible repeat (first|refine bN ?_ _|refine bD ?_|refine bA ?_ _));refine bP (cs:=#[.int .i64 ((rd_T32 l0 x10_1).f0),.int .i64 0]) ?_ 1 _ rfl;(with_reducible repeat (first|refine bN ?_ _|refine bD ?_|refine bA ?_ _));refine bP (cs:=#[.int .i64 0,.int .i64 0]) ?_ 0 _ rfl;(with_reducible repeat (first|refine bN ?_ _|refine bD ?_|refine bA ?_ _));exact BK322.out) hg (Kd.R_away HO_9.out (fun _ hk => hk.2)));have n1_:=aM (hb);have n2_:=aM (ho);clear BK322;clear HB;clear HO_9;have BK322:=n0_;have HB:=n1_;have HO325:=n2_;clear n0_ n1_ n2_;clear ho hb hg hat)))
          go_roundg k1
          case measure => have:=HK1.out;omega
          case rel => exact ⟨(y323),(wrap64 (x10_1 + 1)),(by first|rfl|(simp;done)|(simp [*];done)),H',⟨by have:=HK1.out;omega⟩,⟨by (with_reducible repeat (first|apply rA|apply rN|apply rD));exact rM HO325.out (fun _ hk => trivial)⟩,⟨by repeat (first|(with_reducible first|exact HB.out|apply wA|apply wN_|apply wD|refine wS ?_ GE322.out)|exact HB.out)⟩⟩
         ·rw [if_neg c10] at H
          exact absurd H (by simp)
        ·rw [if_neg c9] at H
         have c9b0 : decide (0 < (wrap64 (((rd_T32 l0 x10_1).f1) - a1))) = false := decide_eq_false c9
         clear c9
         have H' := aM H
         clear H
         have p321 : 0 ≤ (x10_1 : Int) := oD (by first | (with_reducible assumption) | assumption)
         have q321 : x10_1 < (l0.length : Int) := oD (by first | (with_reducible assumption) | assumption)
         obtain ⟨ad321, e321, hx321_0, hx321_1⟩ := at_T32 HR0.out x10_1 p321 q321
         cases e321
         replace hx321_0 := (HB.out.cell (wL w _ hx321_0)).trans hx321_0
         replace hx321_1 := (HB.out.cell (wL w _ hx321_1)).trans hx321_1
         replace p321 := eq_true p321
         replace q321 := eq_true q321
         go_wp2_with (first|((with_reducible refine gate_dst (N:=11) rfl ?_);refine box_event ?hg (N:=11) ?hd (cs:=#[.int .i64 0,.int .i64 0]) (t:=32) ?hr ?_;(case hd => rfl);(case hg => rfl);(case hr => first|(go_simp;done)|(go_simp;rfl));intro gb322 hg w14 hbox hb;have n0_:=aM (rB (Kd.R_elderB (by (with_reducible repeat (first|apply rA|apply rN|apply rD));exact HO_9.out) gb322 (Nat.le_of_eq hg.symm)) hb);have n1_:=aM (wT (by repeat (first|(with_reducible first|exact HB.out|apply wA|apply wN_|apply wD)|exact HB.out)) hb);have n2_:=aM (hbox);have n3_:=aM ((by rw [hg];exact (wZ (by repeat (first|(with_reducible first|exact HB.out|apply wA|apply wN_|apply wD)|exact HB.out))) : w.heap.size ≤ gb322));have n4_:=aM ((by rw [hg];exact (wZ (by repeat (first|(with_reducible first|exact HB.out|apply wA|apply wN_|apply wD)|exact HB.out))) : w.heap.size ≤ gb322));clear HO_9;clear HB;have HO_9:=n0_;have HB:=n1_;have BK322:=n2_;have GW322:=n3_;have GE322:=n4_;clear n0_ n1_ n2_ n3_ n4_;clear hb hbox hg;have hcy15_0 : ∀ x0_ x1_ y0_ y1_ : Value,World.cell? ((((w14.setCell ⟨gb322,0,none⟩ x0_).setCell ⟨gb322,1,none⟩ x1_).setCell ⟨gb322,0,none⟩ y0_).setCell ⟨gb322,1,none⟩ y1_) ⟨gb322,0,none⟩ = some y0_:=fun x0_ x1_ y0_ y1_ => (bC (bP (bP (bP (bP BK322.out 0 x0_ rfl) 1 x1_ rfl) 0 y0_ rfl) 1 y1_ rfl) 0).trans rfl;have hcy15_1 : ∀ x0_ x1_ y0_ y1_ : Value,World.cell? ((((w14.setCell ⟨gb322,0,none⟩ x0_).setCell ⟨gb322,1,none⟩ x1_).setCell ⟨gb322,0,none⟩ y0_).setCell ⟨gb322,1,none⟩ y1_) ⟨gb322,1,none⟩ = some y1_:=fun x0_ x1_ y0_ y1_ => (bC (bP (bP (bP (bP BK322.out 0 x0_ rfl) 1 x1_ rfl) 0 y0_ rfl) 1 y1_ rfl) 1).trans rfl;have hcz15_0 : w14.cell? ⟨gb322,0,none⟩ = some (.int .i64 0):=(bC BK322.out 0).trans rfl;have hcz15_1 : w14.cell? ⟨gb322,1,none⟩ = some (.int .i64 0):=(bC BK322.out 1).trans rfl;have hfz15_0:=bF BK322.out 0;have hfz15_1:=bF BK322.out 1))
         repeat (go_quiet (first|((with_reducible refine gate_dst (N:=11) rfl ?_);refine box_event ?hg (N:=11) ?hd (cs:=#[.int .i64 0,.int .i64 0]) (t:=32) ?hr ?_;(case hd => rfl);(case hg => rfl);(case hr => first|(go_simp;done)|(go_simp;rfl));intro gb322 hg w14 hbox hb;have n0_:=aM (rB (Kd.R_elderB (by (with_reducible repeat (first|apply rA|apply rN|apply rD));exact HO_9.out) gb322 (Nat.le_of_eq hg.symm)) hb);have n1_:=aM (wT (by repeat (first|(with_reducible first|exact HB.out|apply wA|apply wN_|apply wD)|exact HB.out)) hb);have n2_:=aM (hbox);have n3_:=aM ((by rw [hg];exact (wZ (by repeat (first|(with_reducible first|exact HB.out|apply wA|apply wN_|apply wD)|exact HB.out))) : w.heap.size ≤ gb322));have n4_:=aM ((by rw [hg];exact (wZ (by repeat (first|(with_reducible first|exact HB.out|apply wA|apply wN_|apply wD)|exact HB.out))) : w.heap.size ≤ gb322));clear HO_9;clear HB;have HO_9:=n0_;have HB:=n1_;have BK322:=n2_;have GW322:=n3_;have GE322:=n4_;clear n0_ n1_ n2_ n3_ n4_;clear hb hbox hg;have hcy15_0 : ∀ x0_ x1_ y0_ y1_ : Value,World.cell? ((((w14.setCell ⟨gb322,0,none⟩ x0_).setCell ⟨gb322,1,none⟩ x1_).setCell ⟨gb322,0,none⟩ y0_).setCell ⟨gb322,1,none⟩ y1_) ⟨gb322,0,none⟩ = some y0_:=fun x0_ x1_ y0_ y1_ => (bC (bP (bP (bP (bP BK322.out 0 x0_ rfl) 1 x1_ rfl) 0 y0_ rfl) 1 y1_ rfl) 0).trans rfl;have hcy15_1 : ∀ x0_ x1_ y0_ y1_ : Value,World.cell? ((((w14.setCell ⟨gb322,0,none⟩ x0_).setCell ⟨gb322,1,none⟩ x1_).setCell ⟨gb322,0,none⟩ y0_).setCell ⟨gb322,1,none⟩ y1_) ⟨gb322,1,none⟩ = some y1_:=fun x0_ x1_ y0_ y1_ => (bC (bP (bP (bP (bP BK322.out 0 x0_ rfl) 1 x1_ rfl) 0 y0_ rfl) 1 y1_ rfl) 1).trans rfl;have hcz15_0 : w14.cell? ⟨gb322,0,none⟩ = some (.int .i64 0):=(bC BK322.out 0).trans rfl;have hcz15_1 : w14.cell? ⟨gb322,1,none⟩ = some (.int .i64 0):=(bC BK322.out 1).trans rfl;have hfz15_0:=bF BK322.out 0;have hfz15_1:=bF BK322.out 1));try go_wp2_with (first|((with_reducible refine gate_dst (N:=11) rfl ?_);refine box_event ?hg (N:=11) ?hd (cs:=#[.int .i64 0,.int .i64 0]) (t:=32) ?hr ?_;(case hd => rfl);(case hg => rfl);(case hr => first|(go_simp;done)|(go_simp;rfl));intro gb322 hg w14 hbox hb;have n0_:=aM (rB (Kd.R_elderB (by (with_reducible repeat (first|apply rA|apply rN|apply rD));exact HO_9.out) gb322 (Nat.le_of_eq hg.symm)) hb);have n1_:=aM (wT (by repeat (first|(with_reducible first|exact HB.out|apply wA|apply wN_|apply wD)|exact HB.out)) hb);have n2_:=aM (hbox);have n3_:=aM ((by rw [hg];exact (wZ (by repeat (first|(with_reducible first|exact HB.out|apply wA|apply wN_|apply wD)|exact HB.out))) : w.heap.size ≤ gb322));have n4_:=aM ((by rw [hg];exact (wZ (by repeat (first|(with_reducible first|exact HB.out|apply wA|apply wN_|apply wD)|exact HB.out))) : w.heap.size ≤ gb322));clear HO_9;clear HB;have HO_9:=n0_;have HB:=n1_;have BK322:=n2_;have GW322:=n3_;have GE322:=n4_;clear n0_ n1_ n2_ n3_ n4_;clear hb hbox hg;have hcy15_0 : ∀ x0_ x1_ y0_ y1_ : Value,World.cell? ((((w14.setCell ⟨gb322,0,none⟩ x0_).setCell ⟨gb322,1,none⟩ x1_).setCell ⟨gb322,0,none⟩ y0_).setCell ⟨gb322,1,none⟩ y1_) ⟨gb322,0,none⟩ = some y0_:=fun x0_ x1_ y0_ y1_ => (bC (bP (bP (bP (bP BK322.out 0 x0_ rfl) 1 x1_ rfl) 0 y0_ rfl) 1 y1_ rfl) 0).trans rfl;have hcy15_1 : ∀ x0_ x1_ y0_ y1_ : Value,World.cell? ((((w14.setCell ⟨gb322,0,none⟩ x0_).setCell ⟨gb322,1,none⟩ x1_).setCell ⟨gb322,0,none⟩ y0_).setCell ⟨gb322,1,none⟩ y1_) ⟨gb322,1,none⟩ = some y1_:=fun x0_ x1_ y0_ y1_ => (bC (bP (bP (bP (bP BK322.out 0 x0_ rfl) 1 x1_ rfl) 0 y0_ rfl) 1 y1_ rfl) 1).trans rfl;have hcz15_0 : w14.cell? ⟨gb322,0,none⟩ = some (.int .i64 0):=(bC BK322.out 0).trans rfl;have hcz15_1 : w14.cell? ⟨gb322,1,none⟩ = some (.int .i64 0):=(bC BK322.out 1).trans rfl;have hfz15_0:=bF BK322.out 0;have hfz15_1:=bF BK322.out 1)))
         go_roundg k1
         case measure => have:=HK1.out;omega
         case rel => exact ⟨(x9_1),(wrap64 (x10_1 + 1)),(by first|rfl|(simp;done)|(simp [*];done)),H',⟨by have:=HK1.out;omega⟩,⟨by (with_reducible repeat (first|apply rA|apply rN|apply rD));exact rM (rF_ (p:=⟨gb322,1,none⟩) (rF_ (p:=⟨gb322,0,none⟩) (rF_ (p:=⟨gb322,1,none⟩) (rF_ (p:=⟨gb322,0,none⟩) (rM HO_9.out (fun k_ hk => (⟨hk,hk.2⟩ : _ ∧ k_ ≠ gb322))) (fun _ hk => hk.2) (.int .i64 ((rd_T32 l0 x10_1).f0))) (fun _ hk => hk.2) (.int .i64 ((rd_T32 l0 x10_1).f1))) (fun _ hk => hk.2) (.int .i64 (wrap64 (((rd_T32 l0 x10_1).f0) + a1)))) (fun _ hk => hk.2) (.int .i64 (wrap64 (((rd_T32 l0 x10_1).f1) - a1)))) (fun _ hk => trivial)⟩,⟨by repeat (first|(with_reducible first|exact HB.out|apply wA|apply wN_|apply wD|refine wS ?_ GE322.out)|exact HB.out)⟩⟩
       ·rw [if_neg c8] at H
        have c8b0 : (x10_1 == t318) = false := beq_eq_false_iff_ne.mpr c8
        have c8b1 : (x10_1 != t318) = true := bne_iff_ne.mpr c8
        by_cases c16 : ((rd_T32 l0 x10_1).f1) > 0
        ·rw [if_pos c16] at H
         have c16b0 : decide (0 < ((rd_T32 l0 x10_1).f1)) = true := decide_eq_true c16
         clear c16
         by_cases c17 : x9_1.length < 8796093022208
         ·rw [if_pos c17] at H
          have LMc17 := aM c17
          clear c17
          obtain ⟨y326, hy326⟩ : ∃ y_ : List (S32), y_ = (x9_1 ++ [(⟨(rd_T32 l0 x10_1).f0, (rd_T32 l0 x10_1).f1⟩ : S32)]) := ⟨_, rfl⟩
          replace H : (rickyardref1_TakeRun.l0 k1 l0 a1 t318 y326 (wrap64 (x10_1 + 1))) = some (r1, r2, r3) := by first | (rw [hy326]; with_reducible exact H) | (have H2_ := (Option.bind_some _ _).symm.trans H; rw [hy326]; with_reducible exact H2_) | (have H2_ := (Option.bind_some _ _).symm.trans H; with_reducible exact H2_) | with_reducible exact H | (rw [hy326]; exact H) | exact H
          have Ny326 := aM hy326
          clear hy326
          have H' := aM H
          clear H
          have p321 : 0 ≤ (x10_1 : Int) := oD (by first | (with_reducible assumption) | assumption)
          have q321 : x10_1 < (l0.length : Int) := oD (by first | (with_reducible assumption) | assumption)
          obtain ⟨ad321, e321, hx321_0, hx321_1⟩ := at_T32 HR0.out x10_1 p321 q321
          cases e321
          replace hx321_0 := (HB.out.cell (wL w _ hx321_0)).trans hx321_0
          replace hx321_1 := (HB.out.cell (wL w _ hx321_1)).trans hx321_1
          replace p321 := eq_true p321
          replace q321 := eq_true q321
          go_wp2_with (first|((with_reducible refine gate_dst (N:=11) rfl ?_);refine box_event ?hg (N:=11) ?hd (cs:=#[.int .i64 0,.int .i64 0]) (t:=32) ?hr ?_;(case hd => rfl);(case hg => rfl);(case hr => first|(go_simp;done)|(go_simp;rfl));intro gb322 hg w18 hbox hb;have n0_:=aM (rB (Kd.R_elderB (by (with_reducible repeat (first|apply rA|apply rN|apply rD));exact HO_9.out) gb322 (Nat.le_of_eq hg.symm)) hb);have n1_:=aM (wT (by repeat (first|(with_reducible first|exact HB.out|apply wA|apply wN_|apply wD)|exact HB.out)) hb);have n2_:=aM (hbox);have n3_:=aM ((by rw [hg];exact (wZ (by repeat (first|(with_reducible first|exact HB.out|apply wA|apply wN_|apply wD)|exact HB.out))) : w.heap.size ≤ gb322));have n4_:=aM ((by rw [hg];exact (wZ (by repeat (first|(with_reducible first|exact HB.out|apply wA|apply wN_|apply wD)|exact HB.out))) : w.heap.size ≤ gb322));clear HO_9;clear HB;have HO_9:=n0_;have HB:=n1_;have BK322:=n2_;have GW322:=n3_;have GE322:=n4_;clear n0_ n1_ n2_ n3_ n4_;clear hb hbox hg;have hcy19_0 : ∀ x0_ x1_ y0_ y1_ : Value,World.cell? ((((w18.setCell ⟨gb322,0,none⟩ x0_).setCell ⟨gb322,1,none⟩ x1_).setCell ⟨gb322,0,none⟩ y0_).setCell ⟨gb322,1,none⟩ y1_) ⟨gb322,0,none⟩ = some y0_:=fun x0_ x1_ y0_ y1_ => (bC (bP (bP (bP (bP BK322.out 0 x0_ rfl) 1 x1_ rfl) 0 y0_ rfl) 1 y1_ rfl) 0).trans rfl;have hcy19_1 : ∀ x0_ x1_ y0_ y1_ : Value,World.cell? ((((w18.setCell ⟨gb322,0,none⟩ x0_).setCell ⟨gb322,1,none⟩ x1_).setCell ⟨gb322,0,none⟩ y0_).setCell ⟨gb322,1,none⟩ y1_) ⟨gb322,1,none⟩ = some y1_:=fun x0_ x1_ y0_ y1_ => (bC (bP (bP (bP (bP BK322.out 0 x0_ rfl) 1 x1_ rfl) 0 y0_ rfl) 1 y1_ rfl) 1).trans rfl;have hcz19_0 : w18.cell? ⟨gb322,0,none⟩ = some (.int .i64 0):=(bC BK322.out 0).trans rfl;have hcz19_1 : w18.cell? ⟨gb322,1,none⟩ = some (.int .i64 0):=(bC BK322.out 1).trans rfl;have hfz19_0:=bF BK322.out 0;have hfz19_1:=bF BK322.out 1)|((with_reducible refine gate_builtin (b:=.append) (xs:=#[.tmp 47,.tmp 49]) rfl ?_);at_builtin;refine Kd.R_append k32 (w0:=w) w.heap.size rfl (.tmp 47) (.tmp 49) 23 32 (.agg #[(.int .i64 0),(.int .i64 0)]) 16 rfl Try.underlying23 info32 rfl (by decide) (by omega) u9 x9_1 (⟨(rd_T32 l0 x10_1).f0,(rd_T32 l0 x10_1).f1⟩ : S32) [.int .i64 ((rd_T32 l0 x10_1).f0),.int .i64 ((rd_T32 l0 x10_1).f1)] (fun k_ => k_ ≠ gb322) (fun _ => False) rfl (by first|(go_simp;done)|(go_simp;rfl)) ?aP (fun _ hk => hk.elim) ?aF ?aO ?aB ?aS ?aL ?_;(case aP => exact k32_mkM _ _ _ (⟨(rd_T32 l0 x10_1).f0,(rd_T32 l0 x10_1).f1⟩ : S32));(case aB => exact (by repeat (first|(with_reducible first|exact HB.out|apply wA|apply wN_|apply wD|refine wS ?_ GE322.out)|exact HB.out)));(case aF => exact (fun k_ hk => Kd.freshB (g:=gb322) (o:=.cells #[.int .i64 ((rd_T32 l0 x10_1).f0),.int .i64 ((rd_T32 l0 x10_1).f1)] 32 (0,0)) (by (with_reducible repeat (first|refine bN ?_ _|refine bD ?_|refine bA ?_ _));refine bP (cs:=#[.int .i64 ((rd_T32 l0 x10_1).f0),.int .i64 0]) ?_ 1 _ rfl;(with_reducible repeat (first|refine bN ?_ _|refine bD ?_|refine bA ?_ _));refine bP (cs:=#[.int .i64 0,.int .i64 0]) ?_ 0 _ rfl;(with_reducible repeat (first|refine bN ?_ _|refine bD ?_|refine bA ?_ _));exact BK322.out) k_ hk));(case aO => exact (by (with_reducible repeat (first|apply rA|apply rN|apply rD));exact rM (rF_ (p:=⟨gb322,1,none⟩) (rF_ (p:=⟨gb322,0,none⟩) (rM HO_9.out (fun k_ hk => (⟨hk,hk.2⟩ : _ ∧ k_ ≠ gb322))) (fun _ hk => hk.2) (.int .i64 ((rd_T32 l0 x10_1).f0))) (fun _ hk => hk.2) (.int .i64 ((rd_T32 l0 x10_1).f1))) (fun _ hk => hk.1.2)));(case aS => exact (wZ (by repeat (first|(with_reducible first|exact HB.out|apply wA|apply wN_|apply wD|refine wS ?_ GE322.out)|exact HB.out))));(case aL => have:=LMc17.out;omega);intro v327 w20 ho hb hg hat;rw [← Ny326.out] at ho;have n0_:=aM (blk_grown (g:=gb322) (o:=.cells #[.int .i64 ((rd_T32 l0 x10_1).f0),.int .i64 ((rd_T32 l0 x10_1).f1)] 32 (0,0)) (by (with_reducible repeat (first|refine bN ?_ _|refine bD ?_|refine bA ?_ _));refine bP (cs:=#[.int .i64 ((rd_T32 l0 x10_1).f0),.int .i64 0]) ?_ 1 _ rfl;(with_reducible repeat (first|refine bN ?_ _|refine bD ?_|refine bA ?_ _));refine bP (cs:=#[.int .i64 0,.int .i64 0]) ?_ 0 _ rfl;(with_reducible repeat (first|refine bN ?_ _|refine bD ?_|refine bA ?_ _));exact BK322.out) hg (Kd.R_away HO_9.out (fun _ hk => hk.2)));have n1_:=aM (hb);have n2_:=aM (ho);clear BK322;clear HB;clear HO_9;have BK322:=n0_;have HB:=n1_;have HO328:=n2_;clear n0_ n1_ n2_;clear ho hb hg hat))
          repeat (go_quiet (first|((with_reducible refine gate_dst (N:=11) rfl ?_);refine box_event ?hg (N:=11) ?hd (cs:=#[.int .i64 0,.int .i64 0]) (t:=32) ?hr ?_;(case hd => rfl);(case hg => rfl);(case hr => first|(go_simp;done)|(go_simp;rfl));intro gb322 hg w18 hbox hb;have n0_:=aM (rB (Kd.R_elderB (by (with_reducible repeat (first|apply rA|apply rN|apply rD));exact HO_9.out) gb322 (Nat.le_of_eq hg.symm)) hb);have n1_:=aM (wT (by repeat (first|(with_reducible first|exact HB.out|apply wA|apply wN_|apply wD)|exact HB.out)) hb);have n2_:=aM (hbox);have n3_:=aM ((by rw [hg];exact (wZ (by repeat (first|(with_reducible first|exact HB.out|apply wA|apply wN_|apply wD)|exact HB.out))) : w.heap.size ≤ gb322));have n4_:=aM ((by rw [hg];exact (wZ (by repeat (first|(with_reducible first|exact HB.out|apply wA|apply wN_|apply wD)|exact HB.out))) : w.heap.size ≤ gb322));clear HO_9;clear HB;have HO_9:=n0_;have HB:=n1_;have BK322:=n2_;have GW322:=n3_;have GE322:=n4_;clear n0_ n1_ n2_ n3_ n4_;clear hb hbox hg;have hcy19_0 : ∀ x0_ x1_ y0_ y1_ : Value,World.cell? ((((w18.setCell ⟨gb322,0,none⟩ x0_).setCell ⟨gb322,1,none⟩ x1_).setCell ⟨gb322,0,none⟩ y0_).setCell ⟨gb322,1,none⟩ y1_) ⟨gb322,0,none⟩ = some y0_:=fun x0_ x1_ y0_ y1_ => (bC (bP (bP (bP (bP BK322.out 0 x0_ rfl) 1 x1_ rfl) 0 y0_ rfl) 1 y1_ rfl) 0).trans rfl;have hcy19_1 : ∀ x0_ x1_ y0_ y1_ : Value,World.cell? ((((w18.setCell ⟨gb322,0,none⟩ x0_).setCell ⟨gb322,1,none⟩ x1_).setCell ⟨gb322,0,none⟩ y0_).setCell ⟨gb322,1,none⟩ y1_) ⟨gb322,1,none⟩ = some y1_:=fun x0_ x1_ y0_ y1_ => (bC (bP (bP (bP (bP BK322.out 0 x0_ rfl) 1 x1_ rfl) 0 y0_ rfl) 1 y1_ rfl) 1).trans rfl;have hcz19_0 : w18.cell? ⟨gb322,0,none⟩ = some (.int .i64 0):=(bC BK322.out 0).trans rfl;have hcz19_1 : w18.cell? ⟨gb322,1,none⟩ = some (.int .i64 0):=(bC BK322.out 1).trans rfl;have hfz19_0:=bF BK322.out 0;have hfz19_1:=bF BK322.out 1)|((with_reducible refine gate_builtin (b:=.append) (xs:=#[.tmp 47,.tmp 49]) rfl ?_);at_builtin;refine Kd.R_append k32 (w0:=w) w.heap.size rfl (.tmp 47) (.tmp 49) 23 32 (.agg #[(.int .i64 0),(.int .i64 0)]) 16 rfl Try.underlying23 info32 rfl (by decide) (by omega) u9 x9_1 (⟨(rd_T32 l0 x10_1).f0,(rd_T32 l0 x10_1).f1⟩ : S32) [.int .i64 ((rd_T32 l0 x10_1).f0),.int .i64 ((rd_T32 l0 x10_1).f1)] (fun k_ => k_ ≠ gb322) (fun _ => False) rfl (by first|(go_simp;done)|(go_simp;rfl)) ?aP (fun _ hk => hk.elim) ?aF ?aO ?aB ?aS ?aL ?_;(case aP => exact k32_mkM _ _ _ (⟨(rd_T32 l0 x10_1).f0,(rd_T32 l0 x10_1).f1⟩ : S32));(case aB => exact (by repeat (first|(with_reducible first|exact HB.out|apply wA|apply wN_|apply wD|refine wS ?_ GE322.out)|exact HB.out)));(case aF => exact (fun k_ hk => Kd.freshB (g:=gb322) (o:=.cells #[.int .i64 ((rd_T32 l0 x10_1).f0),.int .i64 ((rd_T32 l0 x10_1).f1)] 32 (0,0)) (by (with_reducible repeat (first|refine bN ?_ _|refine bD ?_|refine bA ?_ _));refine bP (cs:=#[.int .i64 ((rd_T32 l0 x10_1).f0),.int .i64 0]) ?_ 1 _ rfl;(with_reducible repeat (first|refine bN ?_ _|refine bD ?_|refine bA ?_ _));refine bP (cs:=#[.int .i64 0,.int .i64 0]) ?_ 0 _ rfl;(with_reducible repeat (first|refine bN ?_ _|refine bD ?_|refine bA ?_ _));exact BK322.out) k_ hk));(case aO => exact (by (with_reducible repeat (first|apply rA|apply rN|apply rD));exact rM (rF_ (p:=⟨gb322,1,none⟩) (rF_ (p:=⟨gb322,0,none⟩) (rM HO_9.out (fun k_ hk => (⟨hk,hk.2⟩ : _ ∧ k_ ≠ gb322))) (fun _ hk => hk.2) (.int .i64 ((rd_T32 l0 x10_1).f0))) (fun _ hk => hk.2) (.int .i64 ((rd_T32 l0 x10_1).f1))) (fun _ hk => hk.1.2)));(case aS => exact (wZ (by repeat (first|(with_reducible first|exact HB.out|apply wA|apply wN_|apply wD|refine wS ?_ GE322.out)|exact HB.out))));(case aL => have:=LMc17.out;omega);intro v327 w20 ho hb hg hat;rw [← Ny326.out] at ho;have n0_:=aM (blk_grown (g:=gb322) (o:=.cells #[.int .i64 ((rd_T32 l0 x10_1).f0),.int .i64 ((rd_T32 l0 x10_1).f1)] 32 (0,0)) (by (with_reducible repeat (first|refine bN ?_ _|refine bD ?_|refine bA ?_ _));refine bP (cs:=#[.int .i64 ((rd_T32 l0 x10_1).f0),.int .i64 0]) ?_ 1 _ rfl;(with_reducible repeat (first|refine bN ?_ _|refine bD ?_|refine bA ?_ _));refine bP (cs:=#[.int .i64 0,.int .i64 0]) ?_ 0 _ rfl;(with_reducible repeat (first|refine bN ?_ _|refine bD ?_|refine bA ?_ _));exact BK322.out) hg (Kd.R_away HO_9.out (fun _ hk => hk.2)));have n1_:=aM (hb);have n2_:=aM (ho);clear BK322;clear HB;clear HO_9;have BK322:=n0_;have HB:=n1_;have HO328:=n2_;clear n0_ n1_ n2_;clear ho hb hg hat));try go_wp2_with (first|((with_reducible refine gate_dst (N:=11) rfl ?_);refine box_event ?hg (N:=11) ?hd (cs:=#[.int .i64 0,.int .i64 0]) (t:=32) ?hr ?_;(case hd => rfl);(case hg => rfl);(case hr => first|(go_simp;done)|(go_simp;rfl));intro gb322 hg w18 hbox hb;have n0_:=aM (rB (Kd.R_elderB (by (with_reducible repeat (first|apply rA|apply rN|apply rD));exact HO_9.out) gb322 (Nat.le_of_eq hg.symm)) hb);have n1_:=aM (wT (by repeat (first|(with_reducible first|exact HB.out|apply wA|apply wN_|apply wD)|exact HB.out)) hb);have n2_:=aM (hbox);have n3_:=aM ((by rw [hg];exact (wZ (by repeat (first|(with_reducible first|exact HB.out|apply wA|apply wN_|apply wD)|exact HB.out))) : w.heap.size ≤ gb322));have n4_:=aM ((by rw [hg];exact (wZ (by repeat (first|(with_reducible first|exact HB.out|apply wA|apply wN_|apply wD)|exact HB.out))) : w.heap.size ≤ gb322));clear HO_9;clear HB;have HO_9:=n0_;have HB:=n1_;have BK322:=n2_;have GW322:=n3_;have GE322:=n4_;clear n0_ n1_ n2_ n3_ n4_;clear hb hbox hg;have hcy19_0 : ∀ x0_ x1_ y0_ y1_ : Value,World.cell? ((((w18.setCell ⟨gb322,0,none⟩ x0_).setCell ⟨gb322,1,none⟩ x1_).setCell ⟨gb322,0,none⟩ y0_).setCell ⟨gb322,1,none⟩ y1_) ⟨gb322,0,none⟩ = some y0_:=fun x0_ x1_ y0_ y1_ => (bC (bP (bP (bP (bP BK322.out 0 x0_ rfl) 1 x1_ rfl) 0 y0_ rfl) 1 y1_ rfl) 0).trans rfl;have hcy19_1 : ∀ x0_ x1_ y0_ y1_ : Value,World.cell? ((((w18.setCell ⟨gb322,0,none⟩ x0_).setCell ⟨gb322,1,none⟩ x1_).setCell ⟨gb322,0,none⟩ y0_).setCell ⟨gb322,1,none⟩ y1_) ⟨gb322,1,none⟩ = some y1_:=fun x0_ x1_ y0_ y1_ => (bC (bP (bP (bP (bP BK322.out 0 x0_ rfl) 1 x1_ rfl) 0 y0_ rfl) 1 y1_ rfl) 1).trans rfl;have hcz19_0 : w18.cell? ⟨gb322,0,none⟩ = some (.int .i64 0):=(bC BK322.out 0).trans rfl;have hcz19_1 : w18.cell? ⟨gb322,1,none⟩ = some (.int .i64 0):=(bC BK322.out 1).trans rfl;have hfz19_0:=bF BK322.out 0;have hfz19_1:=bF BK322.out 1)|((with_reducible refine gate_builtin (b:=.append) (xs:=#[.tmp 47,.tmp 49]) rfl ?_);at_builtin;refine Kd.R_append k32 (w0:=w) w.heap.size rfl (.tmp 47) (.tmp 49) 23 32 (.agg #[(.int .i64 0),(.int .i64 0)]) 16 rfl Try.underlying23 info32 rfl (by decide) (by omega) u9 x9_1 (⟨(rd_T32 l0 x10_1).f0,(rd_T32 l0 x10_1).f1⟩ : S32) [.int .i64 ((rd_T32 l0 x10_1).f0),.int .i64 ((rd_T32 l0 x10_1).f1)] (fun k_ => k_ ≠ gb322) (fun _ => False) rfl (by first|(go_simp;done)|(go_simp;rfl)) ?aP (fun _ hk => hk.elim) ?aF ?aO ?aB ?aS ?aL ?_;(case aP => exact k32_mkM _ _ _ (⟨(rd_T32 l0 x10_1).f0,(rd_T32 l0 x10_1).f1⟩ : S32));(case aB => exact (by repeat (first|(with_reducible first|exact HB.out|apply wA|apply wN_|apply wD|refine wS ?_ GE322.out)|exact HB.out)));(case aF => exact (fun k_ hk => Kd.freshB (g:=gb322) (o:=.cells #[.int .i64 ((rd_T32 l0 x10_1).f0),.int .i64 ((rd_T32 l0 x10_1).f1)] 32 (0,0)) (by (with_reducible repeat (first|refine bN ?_ _|refine bD ?_|refine bA ?_ _));refine bP (cs:=#[.int .i64 ((rd_T32 l0 x10_1).f0),.int .i64 0]) ?_ 1 _ rfl;(with_reducible repeat (first|refine bN ?_ _|refine bD ?_|refine bA ?_ _));refine bP (cs:=#[.int .i64 0,.int .i64 0]) ?_ 0 _ rfl;(with_reducible repeat (first|refine bN ?_ _|refine bD ?_|refine bA ?_ _));exact BK322.out) k_ hk));(case aO => exact (by (with_reducible repeat (first|apply rA|apply rN|apply rD));exact rM (rF_ (p:=⟨gb322,1,none⟩) (rF_ (p:=⟨gb322,0,none⟩) (rM HO_9.out (fun k_ hk => (⟨hk,hk.2⟩ : _ ∧ k_ ≠ gb322))) (fun _ hk => hk.2) (.int .i64 ((rd_T32 l0 x10_1).f0))) (fun _ hk => hk.2) (.int .i64 ((rd_T32 l0 x10_1).f1))) (fun _ hk => hk.1.2)));(case aS => exact (wZ (by repeat (first|(with_reducible first|exact HB.out|apply wA|apply wN_|apply wD|refine wS ?_ GE322.out)|exact HB.out))));(case aL => have:=LMc17.out;omega);intro v327 w20 ho hb hg hat;rw [← Ny326.out] at ho;have n0_:=aM (blk_grown (g:=gb322) (o:=.cells #[.int .i64 ((rd_T32 l0 x10_1).f0),.int .i64 ((rd_T32 l0 x10_1).f1)] 32 (0,0)) (by (with_reducible repeat (first|refine bN ?_ _|refine bD ?_|refine bA ?_ _));refine bP (cs:=#[.int .i64 ((rd_T32 l0 x10_1).f0),.int .i64 0]) ?_ 1 _ rfl;(with_reducible repeat (first|refine bN ?_ _|refine bD ?_|refine bA ?_ _));refine bP (cs:=#[.int .i64 0,.int .i64 0]) ?_ 0 _ rfl;(with_reducible repeat (first|refine bN ?_ _|refine bD ?_|refine bA ?_ _));exact BK322.out) hg (Kd.R_away HO_9.out (fun _ hk => hk.2)));have n1_:=aM (hb);have n2_:=aM (ho);clear BK322;clear HB;clear HO_9;have BK322:=n0_;have HB:=n1_;have HO328:=n2_;clear n0_ n1_ n2_;clear ho hb hg hat)))
          go_roundg k1
          case measure => have:=HK1.out;omega
          case rel => exact ⟨(y326),(wrap64 (x10_1 + 1)),(by first|rfl|(simp;done)|(simp [*];done)),H',⟨by have:=HK1.out;omega⟩,⟨by (with_reducible repeat (first|apply rA|apply rN|apply rD));exact rM HO328.out (fun _ hk => trivial)⟩,⟨by repeat (first|(with_reducible first|exact HB.out|apply wA|apply wN_|apply wD|refine wS ?_ GE322.out)|exact HB.out)⟩⟩
         ·rw [if_neg c17] at H
          exact absurd H (by simp)
        ·rw [if_neg c16] at H
         have c16b0 : decide (0 < ((rd_T32 l0 x10_1).f1)) = false := decide_eq_false c16
         clear c16
         have H' := aM H
         clear H
         have p321 : 0 ≤ (x10_1 : Int) := oD (by first | (with_reducible assumption) | assumption)
         have q321 : x10_1 < (l0.length : Int) := oD (by first | (with_reducible assumption) | assumption)
         obtain ⟨ad321, e321, hx321_0, hx321_1⟩ := at_T32 HR0.out x10_1 p321 q321
         cases e321
         replace hx321_0 := (HB.out.cell (wL w _ hx321_0)).trans hx321_0
         replace hx321_1 := (HB.out.cell (wL w _ hx321_1)).trans hx321_1
         replace p321 := eq_true p321
         replace q321 := eq_true q321
         go_wp2_with (first|((with_reducible refine gate_dst (N:=11) rfl ?_);refine box_event ?hg (N:=11) ?hd (cs:=#[.int .i64 0,.int .i64 0]) (t:=32) ?hr ?_;(case hd => rfl);(case hg => rfl);(case hr => first|(go_simp;done)|(go_simp;rfl));intro gb322 hg w21 hbox hb;have n0_:=aM (rB (Kd.R_elderB (by (with_reducible repeat (first|apply rA|apply rN|apply rD));exact HO_9.out) gb322 (Nat.le_of_eq hg.symm)) hb);have n1_:=aM (wT (by repeat (first|(with_reducible first|exact HB.out|apply wA|apply wN_|apply wD)|exact HB.out)) hb);have n2_:=aM (hbox);have n3_:=aM ((by rw [hg];exact (wZ (by repeat (first|(with_reducible first|exact HB.out|apply wA|apply wN_|apply wD)|exact HB.out))) : w.heap.size ≤ gb322));have n4_:=aM ((by rw [hg];exact (wZ (by repeat (first|(with_reducible first|exact HB.out|apply wA|apply wN_|apply wD)|exact HB.out))) : w.heap.size ≤ gb322));clear HO_9;clear HB;have HO_9:=n0_;have HB:=n1_;have BK322:=n2_;have GW322:=n3_;have GE322:=n4_;clear n0_ n1_ n2_ n3_ n4_;clear hb hbox hg;have hcy22_0 : ∀ x0_ x1_ y0_ y1_ : Value,World.cell? ((((w21.setCell ⟨gb322,0,none⟩ x0_).setCell ⟨gb322,1,none⟩ x1_).setCell ⟨gb322,0,none⟩ y0_).setCell ⟨gb322,1,none⟩ y1_) ⟨gb322,0,none⟩ = some y0_:=fun x0_ x1_ y0_ y1_ => (bC (bP (bP (bP (bP BK322.out 0 x0_ rfl) 1 x1_ rfl) 0 y0_ rfl) 1 y1_ rfl) 0).trans rfl;have hcy22_1 : ∀ x0_ x1_ y0_ y1_ : Value,World.cell? ((((w21.setCell ⟨gb322,0,none⟩ x0_).setCell ⟨gb322,1,none⟩ x1_).setCell ⟨gb322,0,none⟩ y0_).setCell ⟨gb322,1,none⟩ y1_) ⟨gb322,1,none⟩ = some y1_:=fun x0_ x1_ y0_ y1_ => (bC (bP (bP (bP (bP BK322.out 0 x0_ rfl) 1 x1_ rfl) 0 y0_ rfl) 1 y1_ rfl) 1).trans rfl;have hcz22_0 : w21.cell? ⟨gb322,0,none⟩ = some (.int .i64 0):=(bC BK322.out 0).trans rfl;have hcz22_1 : w21.cell? ⟨gb322,1,none⟩ = some (.int .i64 0):=(bC BK322.out 1).trans rfl;have hfz22_0:=bF BK322.out 0;have hfz22_1:=bF BK322.out 1))
         repeat (go_quiet (first|((with_reducible refine gate_dst (N:=11) rfl ?_);refine box_event ?hg (N:=11) ?hd (cs:=#[.int .i64 0,.int .i64 0]) (t:=32) ?hr ?_;(case hd => rfl);(case hg => rfl);(case hr => first|(go_simp;done)|(go_simp;rfl));intro gb322 hg w21 hbox hb;have n0_:=aM (rB (Kd.R_elderB (by (with_reducible repeat (first|apply rA|apply rN|apply rD));exact HO_9.out) gb322 (Nat.le_of_eq hg.symm)) hb);have n1_:=aM (wT (by repeat (first|(with_reducible first|exact HB.out|apply wA|apply wN_|apply wD)|exact HB.out)) hb);have n2_:=aM (hbox);have n3_:=aM ((by rw [hg];exact (wZ (by repeat (first|(with_reducible first|exact HB.out|apply wA|apply wN_|apply wD)|exact HB.out))) : w.heap.size ≤ gb322));have n4_:=aM ((by rw [hg];exact (wZ (by repeat (first|(with_reducible first|exact HB.out|apply wA|apply wN_|apply wD)|exact HB.out))) : w.heap.size ≤ gb322));clear HO_9;clear HB;have HO_9:=n0_;have HB:=n1_;have BK322:=n2_;have GW322:=n3_;have GE322:=n4_;clear n0_ n1_ n2_ n3_ n4_;clear hb hbox hg;have hcy22_0 : ∀ x0_ x1_ y0_ y1_ : Value,World.cell? ((((w21.setCell ⟨gb322,0,none⟩ x0_).setCell ⟨gb322,1,none⟩ x1_).setCell ⟨gb322,0,none⟩ y0_).setCell ⟨gb322,1,none⟩ y1_) ⟨gb322,0,none⟩ = some y0_:=fun x0_ x1_ y0_ y1_ => (bC (bP (bP (bP (bP BK322.out 0 x0_ rfl) 1 x1_ rfl) 0 y0_ rfl) 1 y1_ rfl) 0).trans rfl;have hcy22_1 : ∀ x0_ x1_ y0_ y1_ : Value,World.cell? ((((w21.setCell ⟨gb322,0,none⟩ x0_).setCell ⟨gb322,1,none⟩ x1_).setCell ⟨gb322,0,none⟩ y0_).setCell ⟨gb322,1,none⟩ y1_) ⟨gb322,1,none⟩ = some y1_:=fun x0_ x1_ y0_ y1_ => (bC (bP (bP (bP (bP BK322.out 0 x0_ rfl) 1 x1_ rfl) 0 y0_ rfl) 1 y1_ rfl) 1).trans rfl;have hcz22_0 : w21.cell? ⟨gb322,0,none⟩ = some (.int .i64 0):=(bC BK322.out 0).trans rfl;have hcz22_1 : w21.cell? ⟨gb322,1,none⟩ = some (.int .i64 0):=(bC BK322.out 1).trans rfl;have hfz22_0:=bF BK322.out 0;have hfz22_1:=bF BK322.out 1));try go_wp2_with (first|((with_reducible refine gate_dst (N:=11) rfl ?_);refine box_event ?hg (N:=11) ?hd (cs:=#[.int .i64 0,.int .i64 0]) (t:=32) ?hr ?_;(case hd => rfl);(case hg => rfl);(case hr => first|(go_simp;done)|(go_simp;rfl));intro gb322 hg w21 hbox hb;have n0_:=aM (rB (Kd.R_elderB (by (with_reducible repeat (first|apply rA|apply rN|apply rD));exact HO_9.out) gb322 (Nat.le_of_eq hg.symm)) hb);have n1_:=aM (wT (by repeat (first|(with_reducible first|exact HB.out|apply wA|apply wN_|apply wD)|exact HB.out)) hb);have n2_:=aM (hbox);have n3_:=aM ((by rw [hg];exact (wZ (by repeat (first|(with_reducible first|exact HB.out|apply wA|apply wN_|apply wD)|exact HB.out))) : w.heap.size ≤ gb322));have n4_:=aM ((by rw [hg];exact (wZ (by repeat (first|(with_reducible first|exact HB.out|apply wA|apply wN_|apply wD)|exact HB.out))) : w.heap.size ≤ gb322));clear HO_9;clear HB;have HO_9:=n0_;have HB:=n1_;have BK322:=n2_;have GW322:=n3_;have GE322:=n4_;clear n0_ n1_ n2_ n3_ n4_;clear hb hbox hg;have hcy22_0 : ∀ x0_ x1_ y0_ y1_ : Value,World.cell? ((((w21.setCell ⟨gb322,0,none⟩ x0_).setCell ⟨gb322,1,none⟩ x1_).setCell ⟨gb322,0,none⟩ y0_).setCell ⟨gb322,1,none⟩ y1_) ⟨gb322,0,none⟩ = some y0_:=fun x0_ x1_ y0_ y1_ => (bC (bP (bP (bP (bP BK322.out 0 x0_ rfl) 1 x1_ rfl) 0 y0_ rfl) 1 y1_ rfl) 0).trans rfl;have hcy22_1 : ∀ x0_ x1_ y0_ y1_ : Value,World.cell? ((((w21.setCell ⟨gb322,0,none⟩ x0_).setCell ⟨gb322,1,none⟩ x1_).setCell ⟨gb322,0,none⟩ y0_).setCell ⟨gb322,1,none⟩ y1_) ⟨gb322,1,none⟩ = some y1_:=fun x0_ x1_ y0_ y1_ => (bC (bP (bP (bP (bP BK322.out 0 x0_ rfl) 1 x1_ rfl) 0 y0_ rfl) 1 y1_ rfl) 1).trans rfl;have hcz22_0 : w21.cell? ⟨gb322,0,none⟩ = some (.int .i64 0):=(bC BK322.out 0).trans rfl;have hcz22_1 : w21.cell? ⟨gb322,1,none⟩ = some (.int .i64 0):=(bC BK322.out 1).trans rfl;have hfz22_0:=bF BK322.out 0;have hfz22_1:=bF BK322.out 1)))
         go_roundg k1
         case measure => have:=HK1.out;omega
         case rel => exact ⟨(x9_1),(wrap64 (x10_1 + 1)),(by first|rfl|(simp;done)|(simp [*];done)),H',⟨by have:=HK1.out;omega⟩,⟨by (with_reducible repeat (first|apply rA|apply rN|apply rD));exact rM (rF_ (p:=⟨gb322,1,none⟩) (rF_ (p:=⟨gb322,0,none⟩) (rM HO_9.out (fun k_ hk => (⟨hk,hk.2⟩ : _ ∧ k_ ≠ gb322))) (fun _ hk => hk.2) (.int .i64 ((rd_T32 l0 x10_1).f0))) (fun _ hk => hk.2) (.int .i64 ((rd_T32 l0 x10_1).f1))) (fun _ hk => trivial)⟩,⟨by repeat (first|(with_reducible first|exact HB.out|apply wA|apply wN_|apply wD|refine wS ?_ GE322.out)|exact HB.out)⟩⟩
      ·rw [if_neg c7] at H
       exact absurd H (by simp)
     ·rw [if_neg c6] at H
      have c6b0 : decide (x10_1 < (l0.length : Int)) = false := decide_eq_false c6
      clear c6
      by_cases c23 : 0 ≤ t318
      ·rw [if_pos c23] at H
       have c23b0 : decide (0 ≤ t318) = true := decide_eq_true c23
       clear c23
       by_cases c24 : t318 < (l0.length : Int)
       ·rw [if_pos c24] at H
        have c24b0 : decide (t318 < (l0.length : Int)) = true := decide_eq_true c24
        clear c24
        simp only [Option.some.injEq, Prod.mk.injEq] at H
        obtain ⟨rfl, rfl, rfl⟩ := H
        have p320 : 0 ≤ (t318 : Int) := oD (by first | (with_reducible assumption) | assumption)
        have q320 : t318 < (l0.length : Int) := oD (by first | (with_reducible assumption) | assumption)
        obtain ⟨ad320, e320, hx320_0, hx320_1⟩ := at_T32 HR0.out t318 p320 q320
        cases e320
        replace hx320_0 := (HB.out.cell (wL w _ hx320_0)).trans hx320_0
        replace hx320_1 := (HB.out.cell (wL w _ hx320_1)).trans hx320_1
        replace p320 := eq_true p320
        replace q320 := eq_true q320
        go_wp2
        repeat (go_quiet (fail);try go_wp2)
        go_ret3
        exact ⟨_, by first | rfl | (simp [errW_none, errW_some] <;> rfl) | (simp [*, errW_none, errW_some] <;> rfl), by (with_reducible repeat (first | apply rA | apply rN | apply rD)); exact HO_9.out, by repeat (first | (with_reducible first | exact HB.out | apply wA | apply wN_ | apply wD) | exact HB.out)⟩
       ·rw [if_neg c24] at H
        exact absurd H (by simp)
      ·rw [if_neg c23] at H
       exact absurd H (by simp)
  ·replace c5 := Bool.eq_false_iff.mpr c5
   subst c5
   have H1 : (some (([] : List (S32)), 0, 3)) = some (r1, r2, r3) := by rw [if_neg (show ¬ (false = true) by decide)] at H; exact H
   clear H
   have H := H1
   clear H1
   simp only [Option.some.injEq, Prod.mk.injEq] at H
   obtain ⟨rfl, rfl, rfl⟩ := H
   go_enter Try.func22, Try.ntmps22
   go_wp2_with (first|(go_at_call 49;(with_reducible refine (rickyardref1_Fit.calls k _ _ l0 a1 t318 false _ ?side1 ?side2 A4.out).mono ?_);(case side1 => repeat (first|exact HR0.out|(with_reducible refine cA ?_ _)|(with_reducible refine cN ?_ _)|(with_reducible refine cD ?_)));(case side2 => exact HC0.out);rintro e w' ⟨rfl,⟨nd,rfl⟩⟩;(try first|exact ⟨rfl,_,World.drewN_drewN _ _ _⟩|exact ⟨rfl,_,Eq.trans (World.drewN_drewN _ _ _) (congrArg (World.drewN _) (Nat.add_assoc _ _ _))⟩)))
   repeat (go_quiet (first|(go_at_call 49;(with_reducible refine (rickyardref1_Fit.calls k _ _ l0 a1 t318 false _ ?side1 ?side2 A4.out).mono ?_);(case side1 => repeat (first|exact HR0.out|(with_reducible refine cA ?_ _)|(with_reducible refine cN ?_ _)|(with_reducible refine cD ?_)));(case side2 => exact HC0.out);rintro e w' ⟨rfl,⟨nd,rfl⟩⟩;(try first|exact ⟨rfl,_,World.drewN_drewN _ _ _⟩|exact ⟨rfl,_,Eq.trans (World.drewN_drewN _ _ _) (congrArg (World.drewN _) (Nat.add_assoc _ _ _))⟩)));try go_wp2_with (first|(go_at_call 49;(with_reducible refine (rickyardref1_Fit.calls k _ _ l0 a1 t318 false _ ?side1 ?side2 A4.out).mono ?_);(case side1 => repeat (first|exact HR0.out|(with_reducible refine cA ?_ _)|(with_reducible refine cN ?_ _)|(with_reducible refine cD ?_)));(case side2 => exact HC0.out);rintro e w' ⟨rfl,⟨nd,rfl⟩⟩;(try first|exact ⟨rfl,_,World.drewN_drewN _ _ _⟩|exact ⟨rfl,_,Eq.trans (World.drewN_drewN _ _ _) (congrArg (World.drewN _) (Nat.add_assoc _ _ _))⟩))))
   go_ret3
   exact ⟨_, by first | rfl | (simp [errW_none, errW_some] <;> rfl) | (simp [*, errW_none, errW_some] <;> rfl), by first | exact Kd.R_nil _ _ _ _ _ | exact Kd.N_nil _ _ _ _ _ | exact Kd.V_nil _ _ _ _ _ | exact Kd.Q_nil _ _ _ _ _ | exact Kd.S_nil _ _ _ _ _, by repeat (first | (with_reducible first | exact HB.out | apply wA | apply wN_ | apply wD) | exact HB.out)⟩

/-! ### rickyardref1_Over: function 50 -/
def rickyardref1_Over.f (a0 : Int) (a1 : Int) (a2 : Int) (a3 : Int) : Option (Bool) := if a0 < 0 then (some false) else (if a0 > 2305843009213693952 then (some false) else (if a2 < 0 then (some false) else (if a2 > 2305843009213693952 then (some false) else (if a1 < 1 then (some false) else (if a1 > 2305843009213693952 then (some false) else (if a3 < 1 then (some false) else (if a3 > 2305843009213693952 then (some false) else (if a0 < (wrap64 (a2 + a3)) then (some (decide (a2 < (wrap64 (a0 + a1))))) else (some false)))))))))
set_option maxHeartbeats 8000000 in
set_option maxRecDepth 100000 in
theorem rickyardref1_Over.calls (a0 : Int) (a1 : Int) (a2 : Int) (a3 : Int) (r : Bool) (w : World) (h : rickyardref1_Over.f a0 a1 a2 a3 = some r) :
  Calls Try.prog 50 #[.int .i64 a0, .int .i64 a1, .int .i64 a2, .int .i64 a3] w fun e w' => e = .returned (.bool r) ∧ Drawn0 w w' := by
 have H : (if a0 < 0 then (some false) else (if a0 > 2305843009213693952 then (some false) else (if a2 < 0 then (some false) else (if a2 > 2305843009213693952 then (some false) else (if a1 < 1 then (some false) else (if a1 > 2305843009213693952 then (some false) else (if a3 < 1 then (some false) else (if a3 > 2305843009213693952 then (some false) else (if a0 < (wrap64 (a2 + a3)) then (some (decide (a2 < (wrap64 (a0 + a1))))) else (some false)))))))))) = some r := h
 clear h
 by_cases c5 : a0 < 0
 ·rw [if_pos c5] at H
  have c5b0 : decide (a0 < 0) = true := decide_eq_true c5
  clear c5
  obtain rfl := Option.some.inj H
  go_enter Try.func50, Try.ntmps50
  go_wp2
  go_ret
  exact ⟨by first | rfl | (simp; done) | (simp [*]; done), by repeat (first | exact Drawn0.refl _ | apply Drawn0.step)⟩
 ·rw [if_neg c5] at H
  have c5b0 : decide (a0 < 0) = false := decide_eq_false c5
  clear c5
  by_cases c6 : a0 > 2305843009213693952
  ·rw [if_pos c6] at H
   have c6b0 : decide (2305843009213693952 < a0) = true := decide_eq_true c6
   clear c6
   obtain rfl := Option.some.inj H
   go_enter Try.func50, Try.ntmps50
   go_wp2
   go_ret
   exact ⟨by first | rfl | (simp; done) | (simp [*]; done), by repeat (first | exact Drawn0.refl _ | apply Drawn0.step)⟩
  ·rw [if_neg c6] at H
   have c6b0 : decide (2305843009213693952 < a0) = false := decide_eq_false c6
   clear c6
   by_cases c7 : a2 < 0
   ·rw [if_pos c7] at H
    have c7b0 : decide (a2 < 0) = true := decide_eq_true c7
    clear c7
    obtain rfl := Option.some.inj H
    go_enter Try.func50, Try.ntmps50
    go_wp2
    go_ret
    exact ⟨by first | rfl | (simp; done) | (simp [*]; done), by repeat (first | exact Drawn0.refl _ | apply Drawn0.step)⟩
   ·rw [if_neg c7] at H
    have c7b0 : decide (a2 < 0) = false := decide_eq_false c7
    clear c7
    by_cases c8 : a2 > 2305843009213693952
    ·rw [if_pos c8] at H
     have c8b0 : decide (2305843009213693952 < a2) = true := decide_eq_true c8
     clear c8
     obtain rfl := Option.some.inj H
     go_enter Try.func50, Try.ntmps50
     go_wp2
     go_ret
     exact ⟨by first | rfl | (simp; done) | (simp [*]; done), by repeat (first | exact Drawn0.refl _ | apply Drawn0.step)⟩
    ·rw [if_neg c8] at H
     have c8b0 : decide (2305843009213693952 < a2) = false := decide_eq_false c8
     clear c8
     by_cases c9 : a1 < 1
     ·rw [if_pos c9] at H
      have c9b0 : decide (a1 < 1) = true := decide_eq_true c9
      clear c9
      obtain rfl := Option.some.inj H
      go_enter Try.func50, Try.ntmps50
      go_wp2
      go_ret
      exact ⟨by first | rfl | (simp; done) | (simp [*]; done), by repeat (first | exact Drawn0.refl _ | apply Drawn0.step)⟩
     ·rw [if_neg c9] at H
      have c9b0 : decide (a1 < 1) = false := decide_eq_false c9
      clear c9
      by_cases c10 : a1 > 2305843009213693952
      ·rw [if_pos c10] at H
       have c10b0 : decide (2305843009213693952 < a1) = true := decide_eq_true c10
       clear c10
       obtain rfl := Option.some.inj H
       go_enter Try.func50, Try.ntmps50
       go_wp2
       go_ret
       exact ⟨by first | rfl | (simp; done) | (simp [*]; done), by repeat (first | exact Drawn0.refl _ | apply Drawn0.step)⟩
      ·rw [if_neg c10] at H
       have c10b0 : decide (2305843009213693952 < a1) = false := decide_eq_false c10
       clear c10
       by_cases c11 : a3 < 1
       ·rw [if_pos c11] at H
        have c11b0 : decide (a3 < 1) = true := decide_eq_true c11
        clear c11
        obtain rfl := Option.some.inj H
        go_enter Try.func50, Try.ntmps50
        go_wp2
        go_ret
        exact ⟨by first | rfl | (simp; done) | (simp [*]; done), by repeat (first | exact Drawn0.refl _ | apply Drawn0.step)⟩
       ·rw [if_neg c11] at H
        have c11b0 : decide (a3 < 1) = false := decide_eq_false c11
        clear c11
        by_cases c12 : a3 > 2305843009213693952
        ·rw [if_pos c12] at H
         have c12b0 : decide (2305843009213693952 < a3) = true := decide_eq_true c12
         clear c12
         obtain rfl := Option.some.inj H
         go_enter Try.func50, Try.ntmps50
         go_wp2
         go_ret
         exact ⟨by first | rfl | (simp; done) | (simp [*]; done), by repeat (first | exact Drawn0.refl _ | apply Drawn0.step)⟩
        ·rw [if_neg c12] at H
         have c12b0 : decide (2305843009213693952 < a3) = false := decide_eq_false c12
         clear c12
         by_cases c13 : a0 < (wrap64 (a2 + a3))
         ·rw [if_pos c13] at H
          have c13b0 : decide (a0 < (wrap64 (a2 + a3))) = true := decide_eq_true c13
          clear c13
          obtain rfl := Option.some.inj H
          go_enter Try.func50, Try.ntmps50
          go_wp2
          go_ret
          exact ⟨by first | rfl | (simp; done) | (simp [*]; done), by repeat (first | exact Drawn0.refl _ | apply Drawn0.step)⟩
         ·rw [if_neg c13] at H
          have c13b0 : decide (a0 < (wrap64 (a2 + a3))) = false := decide_eq_false c13
          clear c13
          obtain rfl := Option.some.inj H
          go_enter Try.func50, Try.ntmps50
          go_wp2
          go_ret
          exact ⟨by first | rfl | (simp; done) | (simp [*]; done), by repeat (first | exact Drawn0.refl _ | apply Drawn0.step)⟩

end Go.Proofs.Ythbknmblehecaaa.Pr
