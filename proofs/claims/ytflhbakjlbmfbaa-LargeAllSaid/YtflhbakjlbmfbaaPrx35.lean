-- Printed by a program of this session (wip/tools/myprint.py) that runs the kit's print with contracts of this session's own.
import Derived.Test.YtflhbakjlbmfbaaPrx0
import Derived.Test.YtflhbakjlbmfbaaShort
import Derived.Test.YtflhbakjlbmfbaaPrx7
namespace Go.Proofs.Ytflhbakjlbmfbaa.Pr
open Go.RowKit Go.Proofs.YtflhbakjlbmfbaaW.PrintWords Go.Proofs.YtflhbakjlbmfbaaW.PrintLast Go.Proofs.YtflhbakjlbmfbaaW.PrintMore
attribute [local go_sem] max2_int min2_int max_two min_two max_three min_three max_four min_four   -- for this text's walks alone
set_option linter.unusedVariables false
set_option linter.unusedSimpArgs false

/-! ### large_Words: function 28 -/
def large_Words.l0 : Nat → Int → List (S29) → Int → Int → Option (Int)
 | 0, _, _, _, _ => none
 | k + 1, x3, x6, x7, x8 => if x8 < x7 then (if 0 ≤ x8 then (if x8 < (x6.length : Int) then ((size_Words.f ((rd_T29 x6 x8).f1)).bind fun t468 => (large_Words.l0 k (wrap64 (x3 + t468)) x6 x7 (wrap64 (x8 + 1)))) else (none)) else (none)) else (some x3)
def large_Words.f (k : Nat) (l0 : List (S29)) : Option (Int) := large_Words.l0 k 0 l0 (l0.length : Int) 0
theorem large_Words.mono_l : ∀ k, (∀ y0 y1 y2 y3, LeO (large_Words.l0 k y0 y1 y2 y3) (large_Words.l0 (k + 1) y0 y1 y2 y3))
 | 0 => fun _ _ _ _ r h => by simp [large_Words.l0] at h
 | k + 1 => by
  have ih0 := large_Words.mono_l k
  ·intro y0 y1 y2 y3
   unfold large_Words.l0
   repeat' first
   | (with_reducible exact ih0 _ _ _ _)
   | (with_reducible exact LeO.refl _)
   | (with_reducible exact LeO.none _)
   | (with_reducible refine LeO.ite ?_ ?_)
   | (with_reducible refine LeO.bind ?_ (fun _ => ?_))
   | exact ih0 _ _ _ _
   | exact LeO.none _
   | refine LeO.ite ?_ ?_
   | refine LeO.bind ?_ (fun _ => ?_)
theorem large_Words.mono : ∀ a0 k, LeO (large_Words.f k a0) (large_Words.f (k + 1) a0) := by
 intro a0 k
 have ih0 := large_Words.mono_l k
 unfold large_Words.f
 repeat' first
   | (with_reducible exact ih0 _ _ _ _)
   | (with_reducible exact LeO.refl _)
   | (with_reducible exact LeO.none _)
   | (with_reducible refine LeO.ite ?_ ?_)
   | (with_reducible refine LeO.bind ?_ (fun _ => ?_))
   | exact ih0 _ _ _ _
   | exact LeO.none _
   | refine LeO.ite ?_ ?_
   | refine LeO.bind ?_ (fun _ => ?_)
set_option maxHeartbeats 8000000 in
set_option maxRecDepth 100000 in
theorem large_Words.calls (k : Nat) (A0 : Option Addr) (c0 : Nat) (l0 : List (S29)) (r : Int) (w : World) (hr0 : Kd.C k29 w A0 l0.length l0) (hc0 : l0.length ≤ c0) (h : large_Words.f k l0 = some r) :
  Calls Try.prog 28 #[.slice A0 l0.length c0] w fun e w' => e = .returned (.int .i64 r) ∧ Below w.heap.size w w' := by
 have hu29 := Try.underlying29
 have HR0 := aM hr0
 have HC0 := aM hc0
 clear hr0 hc0
 have HB := aM (Below.refl w.heap.size w)
 have H : (large_Words.l0 k 0 l0 (l0.length : Int) 0) = some r := h
 clear h
 have H' := aM H
 clear H
 go_enter Try.func28, Try.ntmps28
 go_wp2
 go_loopg [3, 8] k (fun kq v3 v8 w' => ∃ (x3_1 : Int) (x8_1 : Int), v3 = .int .i64 x3_1 ∧ v8 = .int .i64 x8_1 ∧ Aside0 (large_Words.l0 kq x3_1 l0 (l0.length : Int) x8_1 = some r) ∧ Aside0 (kq ≤ k) ∧ Aside0 (Below w.heap.size w w'))
 case atStart => exact ⟨(0),(0),(by first|rfl|(simp;done)|(simp [*];done)),(by first|rfl|(simp;done)|(simp [*];done)),H',⟨Nat.le_refl _⟩,⟨by repeat (first|(with_reducible first|exact HB.out|apply wA|apply wN_|apply wD)|exact HB.out)⟩⟩
 case round =>
  clear H'
  obtain ⟨x3_1, x8_1, rfl, rfl, HA, HK1, HB⟩ := hrel
  cases gk with
  | zero => exact absurd HA.out (by simp [large_Words.l0])
  | succ k1 =>
   have H := HA.out
   clear HA
   simp only [large_Words.l0] at H
   by_cases c2 : x8_1 < (l0.length : Int)
   ·rw [if_pos c2] at H
    have c2b0 : decide (x8_1 < (l0.length : Int)) = true := decide_eq_true c2
    clear c2
    by_cases c3 : 0 ≤ x8_1
    ·rw [if_pos c3] at H
     have c3b0 : decide (0 ≤ x8_1) = true := decide_eq_true c3
     clear c3
     by_cases c4 : x8_1 < (l0.length : Int)
     ·rw [if_pos c4] at H
      have c4b0 : decide (x8_1 < (l0.length : Int)) = true := decide_eq_true c4
      clear c4
      replace H := Option.bind_eq_some_iff.mp H
      obtain ⟨t468, A50, H⟩ := H
      replace H : (large_Words.l0 k1 (wrap64 (x3_1 + t468)) l0 (l0.length : Int) (wrap64 (x8_1 + 1))) = some r := H
      have A5 := aM A50
      clear A50
      have H' := aM H
      clear H
      have p466 : 0 ≤ (x8_1 : Int) := oD (by first | (with_reducible assumption) | assumption)
      have q466 : x8_1 < (l0.length : Int) := oD (by first | (with_reducible assumption) | assumption)
      obtain ⟨ad466, e466, hx466_0, hx466_1⟩ := at_T29 HR0.out x8_1 p466 q466
      cases e466
      replace hx466_0 := (HB.out.cell (wL w _ hx466_0)).trans hx466_0
      replace hx466_1 := (HB.out.cell (wL w _ hx466_1)).trans hx466_1
      replace p466 := eq_true p466
      replace q466 := eq_true q466
      go_wp2_with (first|((with_reducible refine gate_dst (N:=5) rfl ?_);refine box_event ?hg (N:=5) ?hd (cs:=#[.int .i64 0,.int .i64 0]) (t:=29) ?hr ?_;(case hd => rfl);(case hg => rfl);(case hr => first|(go_simp;done)|(go_simp;rfl));intro gb467 hg w6 hbox hb;have n0_:=aM (wT (by repeat (first|(with_reducible first|exact HB.out|apply wA|apply wN_|apply wD)|exact HB.out)) hb);have n1_:=aM (hbox);have n2_:=aM ((by rw [hg];exact (wZ (by repeat (first|(with_reducible first|exact HB.out|apply wA|apply wN_|apply wD)|exact HB.out))) : w.heap.size ≤ gb467));have n3_:=aM ((by rw [hg];exact (wZ (by repeat (first|(with_reducible first|exact HB.out|apply wA|apply wN_|apply wD)|exact HB.out))) : w.heap.size ≤ gb467));clear HB;have HB:=n0_;have BK467:=n1_;have GW467:=n2_;have GE467:=n3_;clear n0_ n1_ n2_ n3_;clear hb hbox hg;have hcz7_0 : w6.cell? ⟨gb467,0,none⟩ = some (.int .i64 0):=(bC BK467.out 0).trans rfl;have hcz7_1 : w6.cell? ⟨gb467,1,none⟩ = some (.int .i64 0):=(bC BK467.out 1).trans rfl;have hfz7_0:=bF BK467.out 0;have hfz7_1:=bF BK467.out 1)|((with_reducible refine gate_callee (f:=62) rfl ?_);refine goesL_ (some 15) rfl rfl Try.func62 (by kernel_rfl) rfl #[.int .i64 ((rd_T29 l0 x8_1).f1)] rfl (by (try simp only [lM,lC,lN]);first|done|rfl|(simp only [lD,lT];rfl)) ?_;(with_reducible refine (size_Words.calls ((rd_T29 l0 x8_1).f1) t468 _ A5.out).mono ?_);rintro e w8 ⟨rfl,hb⟩;refine ⟨_,rfl,?_⟩;have n0_:=aM (bB (g:=gb467) (o:=.cells #[.int .i64 ((rd_T29 l0 x8_1).f0),.int .i64 ((rd_T29 l0 x8_1).f1)] 29 (0,0)) (by (with_reducible repeat (first|refine bN ?_ _|refine bD ?_|refine bA ?_ _));refine bP (cs:=#[.int .i64 ((rd_T29 l0 x8_1).f0),.int .i64 0]) ?_ 1 _ rfl;(with_reducible repeat (first|refine bN ?_ _|refine bD ?_|refine bA ?_ _));refine bP (cs:=#[.int .i64 0,.int .i64 0]) ?_ 0 _ rfl;(with_reducible repeat (first|refine bN ?_ _|refine bD ?_|refine bA ?_ _));exact BK467.out) hb);have n1_:=aM (wT (by repeat (first|(with_reducible first|exact HB.out|apply wA|apply wN_|apply wD|refine wS ?_ GE467.out)|exact HB.out)) hb);clear BK467;clear HB;have BK467:=n0_;have HB:=n1_;clear n0_ n1_;(try clear hb);(try clear hb2);(try clear hk);(try clear hi)))
      go_roundg k1
      case measure => have:=HK1.out;omega
      case rel => exact ⟨(wrap64 (x3_1 + t468)),(wrap64 (x8_1 + 1)),(by first|rfl|(simp;done)|(simp [*];done)),(by first|rfl|(simp;done)|(simp [*];done)),H',⟨by have:=HK1.out;omega⟩,⟨by repeat (first|(with_reducible first|exact HB.out|apply wA|apply wN_|apply wD|refine wS ?_ GE467.out)|exact HB.out)⟩⟩
     ·rw [if_neg c4] at H
      exact absurd H (by simp)
    ·rw [if_neg c3] at H
     exact absurd H (by simp)
   ·rw [if_neg c2] at H
    have c2b0 : decide (x8_1 < (l0.length : Int)) = false := decide_eq_false c2
    clear c2
    obtain rfl := Option.some.inj H
    go_wp2
    go_ret
    exact ⟨by first | rfl | (simp [errW_none, errW_some] <;> rfl) | (simp [*, errW_none, errW_some] <;> rfl), by repeat (first | (with_reducible first | exact HB.out | apply wA | apply wN_ | apply wD) | exact HB.out)⟩

end Go.Proofs.Ytflhbakjlbmfbaa.Pr
