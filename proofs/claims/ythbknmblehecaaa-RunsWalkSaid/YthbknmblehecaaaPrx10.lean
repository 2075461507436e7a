-- Printed by a program of this session (wip/tools/myprint.py) that runs the kit's print with contracts of this session's own.
import Derived.Test.YthbknmblehecaaaPrx0
import Derived.Test.YthbknmblehecaaaShort
namespace Go.Proofs.Ythbknmblehecaaa.Pr
open Go.RowKit Go.Proofs.YthbknmblehecaaaW.PrintWords Go.Proofs.YthbknmblehecaaaW.PrintLast Go.Proofs.YthbknmblehecaaaW.PrintMore
attribute [local go_sem] max2_int min2_int max_two min_two max_three min_three max_four min_four   -- for this text's walks alone
set_option linter.unusedVariables false
set_option linter.unusedSimpArgs false

/-! ### runs_Most: function 20 -/
def runs_Most.l0 : Nat → Int → List (S32) → Int → Int → Option (Int)
 | 0, _, _, _, _ => none
 | k + 1, x3, x6, x7, x8 => if x8 < x7 then (if 0 ≤ x8 then (if x8 < (x6.length : Int) then (runs_Most.l0 k (mx x3 ((rd_T32 x6 x8).f1)) x6 x7 (wrap64 (x8 + 1))) else (none)) else (none)) else (some x3)
def runs_Most.f (k : Nat) (l0 : List (S32)) : Option (Int) := runs_Most.l0 k 0 l0 (l0.length : Int) 0
theorem runs_Most.mono_l : ∀ k, (∀ y0 y1 y2 y3, LeO (runs_Most.l0 k y0 y1 y2 y3) (runs_Most.l0 (k + 1) y0 y1 y2 y3))
 | 0 => fun _ _ _ _ r h => by simp [runs_Most.l0] at h
 | k + 1 => by
  have ih0 := runs_Most.mono_l k
  ·intro y0 y1 y2 y3
   unfold runs_Most.l0
   repeat' first
   | (with_reducible exact ih0 _ _ _ _)
   | (with_reducible exact LeO.refl _)
   | (with_reducible exact LeO.none _)
   | (with_reducible refine LeO.ite ?_ ?_)
   | (with_reducible refine LeO.bind ?_ (fun _ => ?_))
   | exact ih0 _ _ _ _
   | exact LeO.none _
   | refine LeO.ite ?_ ?_
   | refine LeO.bind ?_ (fun _ => ?_)
theorem runs_Most.mono : ∀ a0 k, LeO (runs_Most.f k a0) (runs_Most.f (k + 1) a0) := by
 intro a0 k
 have ih0 := runs_Most.mono_l k
 unfold runs_Most.f
 repeat' first
   | (with_reducible exact ih0 _ _ _ _)
   | (with_reducible exact LeO.refl _)
   | (with_reducible exact LeO.none _)
   | (with_reducible refine LeO.ite ?_ ?_)
   | (with_reducible refine LeO.bind ?_ (fun _ => ?_))
   | exact ih0 _ _ _ _
   | exact LeO.none _
   | refine LeO.ite ?_ ?_
   | refine LeO.bind ?_ (fun _ => ?_)
set_option maxHeartbeats 8000000 in
set_option maxRecDepth 100000 in
theorem runs_Most.calls (k : Nat) (A0 : Option Addr) (c0 : Nat) (l0 : List (S32)) (r : Int) (w : World) (hr0 : Kd.C k32 w A0 l0.length l0) (hc0 : l0.length ≤ c0) (h : runs_Most.f k l0 = some r) :
  Calls Try.prog 20 #[.slice A0 l0.length c0] w fun e w' => e = .returned (.int .i64 r) ∧ Below w.heap.size w w' := by
 have hu32 := Try.underlying32
 have HR0 := aM hr0
 have HC0 := aM hc0
 clear hr0 hc0
 have HB := aM (Below.refl w.heap.size w)
 have H : (runs_Most.l0 k 0 l0 (l0.length : Int) 0) = some r := h
 clear h
 have H' := aM H
 clear H
 go_enter Try.func20, Try.ntmps20
 go_wp2
 go_loopg [3, 8] k (fun kq v3 v8 w' => ∃ (x3_1 : Int) (x8_1 : Int), v3 = .int .i64 x3_1 ∧ v8 = .int .i64 x8_1 ∧ Aside0 (runs_Most.l0 kq x3_1 l0 (l0.length : Int) x8_1 = some r) ∧ Aside0 (kq ≤ k) ∧ Aside0 (Below w.heap.size w w'))
 case atStart => exact ⟨(0),(0),(by first|rfl|(simp;done)|(simp [*];done)),(by first|rfl|(simp;done)|(simp [*];done)),H',⟨Nat.le_refl _⟩,⟨by repeat (first|(with_reducible first|exact HB.out|apply wA|apply wN_|apply wD)|exact HB.out)⟩⟩
 case round =>
  clear H'
  obtain ⟨x3_1, x8_1, rfl, rfl, HA, HK1, HB⟩ := hrel
  cases gk with
  | zero => exact absurd HA.out (by simp [runs_Most.l0])
  | succ k1 =>
   have H := HA.out
   clear HA
   simp only [runs_Most.l0] at H
   by_cases c2 : x8_1 < (l0.length : Int)
   ·rw [if_pos c2] at H
    have c2b0 : decide (x8_1 < (l0.length : Int)) = true := decide_eq_true c2
    clear c2
    by_cases c3 : 0 ≤ x8_1
    ·rw [if_pos c3] at H
     have c3b0 : decide (0 ≤ x8_1) = true := decide_eq_true c3
     clear c3
     by_cases c4 : x8_1 < (l0.length : Int)
     ·rw [if_pos c4] at H
      have c4b0 : decide (x8_1 < (l0.length : Int)) = true := decide_eq_true c4
      clear c4
      obtain ⟨ji5, hji5⟩ : ∃ j_ : Int, (mx x3_1 ((rd_T32 l0 x8_1).f1)) = j_ := ⟨_, rfl⟩
      replace H : (runs_Most.l0 k1 ji5 l0 (l0.length : Int) (wrap64 (x8_1 + 1))) = some r := by first | (rw [hji5] at H; exact H) | (simp only [hji5] at H ⊢; exact H)
      have hji5_ : (if x3_1 < ((rd_T32 l0 x8_1).f1) then ((rd_T32 l0 x8_1).f1) else x3_1) = ji5 := hji5
      have H' := aM H
      clear H
      have p293 : 0 ≤ (x8_1 : Int) := oD (by first | (with_reducible assumption) | assumption)
      have q293 : x8_1 < (l0.length : Int) := oD (by first | (with_reducible assumption) | assumption)
      obtain ⟨ad293, e293, hx293_0, hx293_1⟩ := at_T32 HR0.out x8_1 p293 q293
      cases e293
      replace hx293_0 := (HB.out.cell (wL w _ hx293_0)).trans hx293_0
      replace hx293_1 := (HB.out.cell (wL w _ hx293_1)).trans hx293_1
      replace p293 := eq_true p293
      replace q293 := eq_true q293
      go_wp2_with (first|((with_reducible refine gate_dst (N:=5) rfl ?_);refine box_event ?hg (N:=5) ?hd (cs:=#[.int .i64 0,.int .i64 0]) (t:=32) ?hr ?_;(case hd => rfl);(case hg => rfl);(case hr => first|(go_simp;done)|(go_simp;rfl));intro gb294 hg w6 hbox hb;have n0_:=aM (wT (by repeat (first|(with_reducible first|exact HB.out|apply wA|apply wN_|apply wD)|exact HB.out)) hb);have n1_:=aM (hbox);have n2_:=aM ((by rw [hg];exact (wZ (by repeat (first|(with_reducible first|exact HB.out|apply wA|apply wN_|apply wD)|exact HB.out))) : w.heap.size ≤ gb294));have n3_:=aM ((by rw [hg];exact (wZ (by repeat (first|(with_reducible first|exact HB.out|apply wA|apply wN_|apply wD)|exact HB.out))) : w.heap.size ≤ gb294));clear HB;have HB:=n0_;have BK294:=n1_;have GW294:=n2_;have GE294:=n3_;clear n0_ n1_ n2_ n3_;clear hb hbox hg;have hcz7_0 : w6.cell? ⟨gb294,0,none⟩ = some (.int .i64 0):=(bC BK294.out 0).trans rfl;have hcz7_1 : w6.cell? ⟨gb294,1,none⟩ = some (.int .i64 0):=(bC BK294.out 1).trans rfl;have hfz7_0:=bF BK294.out 0;have hfz7_1:=bF BK294.out 1))
      go_roundg k1
      case measure => have:=HK1.out;omega
      case rel => exact ⟨(ji5),(wrap64 (x8_1 + 1)),(by first|rfl|(simp;done)|(simp only [← hji5] <;> (first|rfl|simp))|(simp [*];done)),(by first|rfl|(simp;done)|(simp [*];done)),H',⟨by have:=HK1.out;omega⟩,⟨by repeat (first|(with_reducible first|exact HB.out|apply wA|apply wN_|apply wD|refine wS ?_ GE294.out)|exact HB.out)⟩⟩
     ·rw [if_neg c4] at H
      exact absurd H (by simp)
    ·rw [if_neg c3] at H
     exact absurd H (by simp)
   ·rw [if_neg c2] at H
    have c2b0 : decide (x8_1 < (l0.length : Int)) = false := decide_eq_false c2
    clear c2
    obtain rfl := Option.some.inj H
    go_wp2
    go_ret
    exact ⟨by first | rfl | (simp [errW_none, errW_some] <;> rfl) | (simp [*, errW_none, errW_some] <;> rfl), by repeat (first | (with_reducible first | exact HB.out | apply wA | apply wN_ | apply wD) | exact HB.out)⟩

end Go.Proofs.Ythbknmblehecaaa.Pr
