-- Printed by a program of this session (wip/tools/myprint.py) that runs the kit's print with contracts of this session's own.
import Derived.Test.YthbknmblehecaaaPrx0
import Derived.Test.YthbknmblehecaaaShort
import Derived.Test.YthbknmblehecaaaRunFit
import Derived.Test.YthbknmblehecaaaRunRows
import Derived.Test.YthbknmblehecaaaPrx1
namespace Go.Proofs.Ythbknmblehecaaa.Pr
open Go.RowKit Go.Proofs.YthbknmblehecaaaW.PrintWords Go.Proofs.YthbknmblehecaaaW.PrintLast Go.Proofs.YthbknmblehecaaaW.PrintMore
attribute [local go_sem] max2_int min2_int max_two min_two max_three min_three max_four min_four   -- for this text's walks alone
set_option linter.unusedVariables false
set_option linter.unusedSimpArgs false

attribute [local go_sem high] eqA32
/-! ### rickyardlaw5_Made: function 13 -/
def rickyardlaw5_Made.l0 : Nat → List Int → List (S32) → Int → Int → Option ((List (S32)))
 | 0, _, _, _, _ => none
 | k + 1, x0, x3, x4, x5 => if (wrap64 (x5 + 1)) < (x0.length : Int) then (if 0 ≤ x5 then (if x5 < (x0.length : Int) then (if (x3.length : Int) > 0 then (if 0 ≤ (wrap64 (x5 + 1)) then (if (wrap64 (1 + (Int.tmod (wrap64 (rd x0 (wrap64 (x5 + 1)))) 20))) > (wrap64 (256 - (wrap64 ((wrap64 (x4 + (Int.tmod (wrap64 (rd x0 x5)) 9))) + 1)))) then (some x3) else (if x3.length < 8796093022208 then (rickyardlaw5_Made.l0 k x0 (x3 ++ [(⟨wrap64 ((wrap64 (x4 + (Int.tmod (wrap64 (rd x0 x5)) 9))) + 1), wrap64 (1 + (Int.tmod (wrap64 (rd x0 (wrap64 (x5 + 1)))) 20))⟩ : S32)]) (wrap64 ((wrap64 ((wrap64 (x4 + (Int.tmod (wrap64 (rd x0 x5)) 9))) + 1)) + (wrap64 (1 + (Int.tmod (wrap64 (rd x0 (wrap64 (x5 + 1)))) 20))))) (wrap64 (x5 + 2))) else (none))) else (none)) else (if 0 ≤ (wrap64 (x5 + 1)) then (if (wrap64 (1 + (Int.tmod (wrap64 (rd x0 (wrap64 (x5 + 1)))) 20))) > (wrap64 (256 - (wrap64 (x4 + (Int.tmod (wrap64 (rd x0 x5)) 9))))) then (some x3) else (if x3.length < 8796093022208 then (rickyardlaw5_Made.l0 k x0 (x3 ++ [(⟨wrap64 (x4 + (Int.tmod (wrap64 (rd x0 x5)) 9)), wrap64 (1 + (Int.tmod (wrap64 (rd x0 (wrap64 (x5 + 1)))) 20))⟩ : S32)]) (wrap64 ((wrap64 (x4 + (Int.tmod (wrap64 (rd x0 x5)) 9))) + (wrap64 (1 + (Int.tmod (wrap64 (rd x0 (wrap64 (x5 + 1)))) 20))))) (wrap64 (x5 + 2))) else (none))) else (none))) else (none)) else (none)) else (some x3)
def rickyardlaw5_Made.f (k : Nat) (l0 : List Int) : Option ((List (S32))) := rickyardlaw5_Made.l0 k l0 ([] : List (S32)) 0 0
theorem rickyardlaw5_Made.mono_l : ∀ k, (∀ y0 y1 y2 y3, LeO (rickyardlaw5_Made.l0 k y0 y1 y2 y3) (rickyardlaw5_Made.l0 (k + 1) y0 y1 y2 y3))
 | 0 => fun _ _ _ _ r h => by simp [rickyardlaw5_Made.l0] at h
 | k + 1 => by
  have ih0 := rickyardlaw5_Made.mono_l k
  ·intro y0 y1 y2 y3
   unfold rickyardlaw5_Made.l0
   repeat' first
   | (with_reducible exact ih0 _ _ _ _)
   | (with_reducible exact LeO.refl _)
   | (with_reducible exact LeO.none _)
   | (with_reducible refine LeO.ite ?_ ?_)
   | (with_reducible refine LeO.bind ?_ (fun _ => ?_))
   | exact ih0 _ _ _ _
   | exact LeO.none _
   | refine LeO.ite ?_ ?_
   | refine LeO.bind ?_ (fun _ => ?_)
theorem rickyardlaw5_Made.mono : ∀ a0 k, LeO (rickyardlaw5_Made.f k a0) (rickyardlaw5_Made.f (k + 1) a0) := by
 intro a0 k
 have ih0 := rickyardlaw5_Made.mono_l k
 unfold rickyardlaw5_Made.f
 repeat' first
   | (with_reducible exact ih0 _ _ _ _)
   | (with_reducible exact LeO.refl _)
   | (with_reducible exact LeO.none _)
   | (with_reducible refine LeO.ite ?_ ?_)
   | (with_reducible refine LeO.bind ?_ (fun _ => ?_))
   | exact ih0 _ _ _ _
   | exact LeO.none _
   | refine LeO.ite ?_ ?_
   | refine LeO.bind ?_ (fun _ => ?_)
set_option maxHeartbeats 8000000 in
set_option maxRecDepth 100000 in
theorem rickyardlaw5_Made.calls (k : Nat) (A0 : Option Addr) (c0 : Nat) (l0 : List Int) (r : List (S32)) (w : World) (hr0 : Kd.C (Kd.int .u8) w A0 l0.length l0) (hc0 : l0.length ≤ c0) (h : rickyardlaw5_Made.f k l0 = some r) :
  Calls Try.prog 13 #[.slice A0 l0.length c0] w fun e w' => ∃ v0_ : Value, e = .returned (v0_) ∧ Kd.R k32 32 w' w.heap.size (fun _ => True) v0_ r ∧ Below w.heap.size w w' := by
 have hu32 := Try.underlying32
 have HR0 := aM hr0
 have HC0 := aM hc0
 clear hr0 hc0
 have HB := aM (Below.refl w.heap.size w)
 have H : (rickyardlaw5_Made.l0 k l0 ([] : List (S32)) 0 0) = some r := h
 clear h
 have H' := aM H
 clear H
 go_enter Try.func13, Try.ntmps13
 go_wp2
 go_loopg [3, 4, 5] k (fun kq v3 v4 v5 w' => ∃ (x3_1 : List (S32)) (x4_1 : Int) (x5_1 : Int), v4 = .int .i64 x4_1 ∧ v5 = .int .i64 x5_1 ∧ Aside0 (rickyardlaw5_Made.l0 kq l0 x3_1 x4_1 x5_1 = some r) ∧ Aside0 (kq ≤ k) ∧ Aside0 (Kd.R k32 32 w' w.heap.size (fun _ => True) v3 x3_1) ∧ Aside0 (Below w.heap.size w w'))
 case atStart => exact ⟨(([] : List (S32))),(0),(0),(by first|rfl|(simp;done)|(simp [*];done)),(by first|rfl|(simp;done)|(simp [*];done)),H',⟨Nat.le_refl _⟩,⟨by first|exact Kd.R_nil _ _ _ _ _|exact Kd.N_nil _ _ _ _ _|exact Kd.V_nil _ _ _ _ _|exact Kd.Q_nil _ _ _ _ _|exact Kd.S_nil _ _ _ _ _⟩,⟨by repeat (first|(with_reducible first|exact HB.out|apply wA|apply wN_|apply wD)|exact HB.out)⟩⟩
 case round =>
  clear H'
  try clear c1
  obtain ⟨x3_1, x4_1, x5_1, rfl, rfl, HA, HK1, HO_3, HB⟩ := hrel
  cases gk with
  | zero => exact absurd HA.out (by simp [rickyardlaw5_Made.l0])
  | succ k1 =>
   have H := HA.out
   clear HA
   simp only [rickyardlaw5_Made.l0] at H
   by_cases c2 : (wrap64 (x5_1 + 1)) < (l0.length : Int)
   ·rw [if_pos c2] at H
    have c2b0 : decide ((wrap64 (x5_1 + 1)) < (l0.length : Int)) = true := decide_eq_true c2
    clear c2
    by_cases c3 : 0 ≤ x5_1
    ·rw [if_pos c3] at H
     have c3b0 : decide (0 ≤ x5_1) = true := decide_eq_true c3
     clear c3
     by_cases c4 : x5_1 < (l0.length : Int)
     ·rw [if_pos c4] at H
      have c4b0 : decide (x5_1 < (l0.length : Int)) = true := decide_eq_true c4
      clear c4
      by_cases c5 : (x3_1.length : Int) > 0
      ·rw [if_pos c5] at H
       have c5b0 : decide (0 < (x3_1.length : Int)) = true := decide_eq_true c5
       have c5b1 : decide (0 < x3_1.length) = true := decide_eq_true (by omega)
       clear c5
       obtain ⟨ji6, hji6⟩ : ∃ j_ : Int, (wrap64 (x5_1 + 1)) = j_ := ⟨_, rfl⟩
       replace H : (if 0 ≤ (ji6) then (if (wrap64 (1 + (Int.tmod (wrap64 (rd l0 (ji6))) 20))) > (wrap64 (256 - (wrap64 ((wrap64 (x4_1 + (Int.tmod (wrap64 (rd l0 x5_1)) 9))) + 1)))) then (some x3_1) else (if x3_1.length < 8796093022208 then (rickyardlaw5_Made.l0 k1 l0 (x3_1 ++ [(⟨wrap64 ((wrap64 (x4_1 + (Int.tmod (wrap64 (rd l0 x5_1)) 9))) + 1), wrap64 (1 + (Int.tmod (wrap64 (rd l0 (ji6))) 20))⟩ : S32)]) (wrap64 ((wrap64 ((wrap64 (x4_1 + (Int.tmod (wrap64 (rd l0 x5_1)) 9))) + 1)) + (wrap64 (1 + (Int.tmod (wrap64 (rd l0 (ji6))) 20))))) (wrap64 (x5_1 + 2))) else (none))) else (none)) = some r := by first | (rw [hji6] at H; exact H) | (simp only [hji6] at H ⊢; exact H)
       (try rw [hji6] at c2b0)
       have hji6w : (IntKind.i64.wrap (x5_1 + 1)) = ji6 := (i64_w _).trans hji6
       by_cases c7 : 0 ≤ (ji6)
       ·rw [if_pos c7] at H
        have c7b0 : decide (0 ≤ (ji6)) = true := decide_eq_true c7
        clear c7
        by_cases c8 : (wrap64 (1 + (Int.tmod (wrap64 (rd l0 (ji6))) 20))) > (wrap64 (256 - (wrap64 ((wrap64 (x4_1 + (Int.tmod (wrap64 (rd l0 x5_1)) 9))) + 1))))
        ·rw [if_pos c8] at H
         have c8b0 : decide ((wrap64 (256 - (wrap64 ((wrap64 (x4_1 + (Int.tmod (wrap64 (rd l0 x5_1)) 9))) + 1)))) < (wrap64 (1 + (Int.tmod (wrap64 (rd l0 (ji6))) 20)))) = true := decide_eq_true c8
         clear c8
         obtain rfl := Option.some.inj H
         have p101 : 0 ≤ (x5_1 : Int) := oD (by first | (with_reducible assumption) | assumption)
         have q101 : x5_1 < (l0.length : Int) := oD (by first | (with_reducible assumption) | assumption)
         obtain ⟨ad101, e101, hx101_0⟩ := Kd.at_int HR0.out x5_1 p101 q101
         cases e101
         replace hx101_0 := (HB.out.cell (wL w _ hx101_0)).trans hx101_0
         replace p101 := eq_true p101
         replace q101 := eq_true q101
         obtain ⟨Ao9, co9, eo9⟩ := Kd.R_slice HO_3.out
         subst eo9
         have p102 : 0 ≤ ((ji6) : Int) := oD (by first | (with_reducible assumption) | assumption)
         have q102 : (ji6) < (l0.length : Int) := oD (by first | (with_reducible assumption) | assumption)
         obtain ⟨ad102, e102, hx102_0⟩ := Kd.at_int HR0.out (ji6) p102 q102
         obtain rfl : ad101 = ad102 := (by injection e102)
         replace hx102_0 := (HB.out.cell (wL w _ hx102_0)).trans hx102_0
         replace p102 := eq_true p102
         replace q102 := eq_true q102
         go_wp2
         go_ret
         exact ⟨_, by first | rfl | (simp [errW_none, errW_some] <;> rfl) | (simp only [← hji6]; first | rfl | (simp [errW_none, errW_some] <;> rfl)) | (simp [*, errW_none, errW_some] <;> rfl), by (with_reducible repeat (first | apply rA | apply rN | apply rD)); exact HO_3.out, by repeat (first | (with_reducible first | exact HB.out | apply wA | apply wN_ | apply wD) | exact HB.out)⟩
        ·rw [if_neg c8] at H
         have c8b0 : decide ((wrap64 (256 - (wrap64 ((wrap64 (x4_1 + (Int.tmod (wrap64 (rd l0 x5_1)) 9))) + 1)))) < (wrap64 (1 + (Int.tmod (wrap64 (rd l0 (ji6))) 20)))) = false := decide_eq_false c8
         clear c8
         by_cases c10 : x3_1.length < 8796093022208
         ·rw [if_pos c10] at H
          have LMc10 := aM c10
          clear c10
          obtain ⟨y103, hy103⟩ : ∃ y_ : List (S32), y_ = (x3_1 ++ [(⟨wrap64 ((wrap64 (x4_1 + (Int.tmod (wrap64 (rd l0 x5_1)) 9))) + 1), wrap64 (1 + (Int.tmod (wrap64 (rd l0 (ji6))) 20))⟩ : S32)]) := ⟨_, rfl⟩
          replace H : (rickyardlaw5_Made.l0 k1 l0 y103 (wrap64 ((wrap64 ((wrap64 (x4_1 + (Int.tmod (wrap64 (rd l0 x5_1)) 9))) + 1)) + (wrap64 (1 + (Int.tmod (wrap64 (rd l0 (ji6))) 20))))) (wrap64 (x5_1 + 2))) = some r := by first | (rw [hy103]; with_reducible exact H) | (have H2_ := (Option.bind_some _ _).symm.trans H; rw [hy103]; with_reducible exact H2_) | (have H2_ := (Option.bind_some _ _).symm.trans H; with_reducible exact H2_) | with_reducible exact H | (rw [hy103]; exact H) | exact H
          have Ny103 := aM hy103
          clear hy103
          have H' := aM H
          clear H
          have p101 : 0 ≤ (x5_1 : Int) := oD (by first | (with_reducible assumption) | assumption)
          have q101 : x5_1 < (l0.length : Int) := oD (by first | (with_reducible assumption) | assumption)
          obtain ⟨ad101, e101, hx101_0⟩ := Kd.at_int HR0.out x5_1 p101 q101
          cases e101
          replace hx101_0 := (HB.out.cell (wL w _ hx101_0)).trans hx101_0
          replace p101 := eq_true p101
          replace q101 := eq_true q101
          obtain ⟨Ao11, co11, eo11⟩ := Kd.R_slice HO_3.out
          subst eo11
          have p102 : 0 ≤ ((ji6) : Int) := oD (by first | (with_reducible assumption) | assumption)
          have q102 : (ji6) < (l0.length : Int) := oD (by first | (with_reducible assumption) | assumption)
          obtain ⟨ad102, e102, hx102_0⟩ := Kd.at_int HR0.out (ji6) p102 q102
          obtain rfl : ad101 = ad102 := (by injection e102)
          replace hx102_0 := (HB.out.cell (wL w _ hx102_0)).trans hx102_0
          replace p102 := eq_true p102
          replace q102 := eq_true q102
          go_wp2_with (first|((with_reducible refine gate_builtin (b:=.append) (xs:=#[.tmp 39,.tmp 43]) rfl ?_);at_builtin;refine Kd.R_append k32 (w0:=w) w.heap.size rfl (.tmp 39) (.tmp 43) 23 32 (.agg #[(.int .i64 0),(.int .i64 0)]) 16 rfl Try.underlying23 info32 rfl (by decide) (by omega) (.slice Ao11 x3_1.length co11) x3_1 (⟨wrap64 ((wrap64 (x4_1 + (Int.tmod (wrap64 (rd l0 x5_1)) 9))) + 1),wrap64 (1 + (Int.tmod (wrap64 (rd l0 (ji6))) 20))⟩ : S32) [.int .i64 (wrap64 ((wrap64 (x4_1 + (Int.tmod (wrap64 (rd l0 x5_1)) 9))) + 1)),.int .i64 (wrap64 (1 + (Int.tmod (wrap64 (rd l0 (ji6))) 20)))] (fun _ => True) (fun _ => False) rfl rfl ?aP (fun _ hk => hk.elim) ?aF ?aO ?aB ?aS ?aL ?_;(case aP => exact k32_mkM _ _ _ (⟨wrap64 ((wrap64 (x4_1 + (Int.tmod (wrap64 (rd l0 x5_1)) 9))) + 1),wrap64 (1 + (Int.tmod (wrap64 (rd l0 (ji6))) 20))⟩ : S32));(case aB => exact (by repeat (first|(with_reducible first|exact HB.out|apply wA|apply wN_|apply wD)|exact HB.out)));(case aF => exact (fun _ _ => trivial));(case aO => exact (by (with_reducible repeat (first|apply rA|apply rN|apply rD));exact HO_3.out));(case aS => exact (wZ (by repeat (first|(with_reducible first|exact HB.out|apply wA|apply wN_|apply wD)|exact HB.out))));(case aL => have:=LMc10.out;omega);intro v104 w12 ho hb hg hat;rw [← Ny103.out] at ho;have n0_:=aM (hb);have n1_:=aM (ho);clear HB;clear HO_3;have HB:=n0_;have HO105:=n1_;clear n0_ n1_;clear ho hb hg hat))
          go_roundg k1
          case measure => have:=HK1.out;omega
          case rel => exact ⟨(y103),(wrap64 ((wrap64 ((wrap64 (x4_1 + (Int.tmod (wrap64 (rd l0 x5_1)) 9))) + 1)) + (wrap64 (1 + (Int.tmod (wrap64 (rd l0 (ji6))) 20))))),(wrap64 (x5_1 + 2)),(by first|rfl|(simp;done)|(simp only [← hji6] <;> (first|rfl|simp))|(simp [*];done)),(by first|rfl|(simp;done)|(simp [*];done)),H',⟨by have:=HK1.out;omega⟩,⟨by (with_reducible repeat (first|apply rA|apply rN|apply rD));exact HO105.out⟩,⟨by repeat (first|(with_reducible first|exact HB.out|apply wA|apply wN_|apply wD)|exact HB.out)⟩⟩
         ·rw [if_neg c10] at H
          exact absurd H (by simp)
       ·rw [if_neg c7] at H
        exact absurd H (by simp)
      ·rw [if_neg c5] at H
       have c5b0 : decide (0 < (x3_1.length : Int)) = false := decide_eq_false c5
       have c5b1 : decide (0 < x3_1.length) = false := decide_eq_false (by omega)
       clear c5
       obtain ⟨ji13, hji13⟩ : ∃ j_ : Int, (wrap64 (x5_1 + 1)) = j_ := ⟨_, rfl⟩
       replace H : (if 0 ≤ (ji13) then (if (wrap64 (1 + (Int.tmod (wrap64 (rd l0 (ji13))) 20))) > (wrap64 (256 - (wrap64 (x4_1 + (Int.tmod (wrap64 (rd l0 x5_1)) 9))))) then (some x3_1) else (if x3_1.length < 8796093022208 then (rickyardlaw5_Made.l0 k1 l0 (x3_1 ++ [(⟨wrap64 (x4_1 + (Int.tmod (wrap64 (rd l0 x5_1)) 9)), wrap64 (1 + (Int.tmod (wrap64 (rd l0 (ji13))) 20))⟩ : S32)]) (wrap64 ((wrap64 (x4_1 + (Int.tmod (wrap64 (rd l0 x5_1)) 9))) + (wrap64 (1 + (Int.tmod (wrap64 (rd l0 (ji13))) 20))))) (wrap64 (x5_1 + 2))) else (none))) else (none)) = some r := by first | (rw [hji13] at H; exact H) | (simp only [hji13] at H ⊢; exact H)
       (try rw [hji13] at c2b0)
       have hji13w : (IntKind.i64.wrap (x5_1 + 1)) = ji13 := (i64_w _).trans hji13
       by_cases c14 : 0 ≤ (ji13)
       ·rw [if_pos c14] at H
        have c14b0 : decide (0 ≤ (ji13)) = true := decide_eq_true c14
        clear c14
        by_cases c15 : (wrap64 (1 + (Int.tmod (wrap64 (rd l0 (ji13))) 20))) > (wrap64 (256 - (wrap64 (x4_1 + (Int.tmod (wrap64 (rd l0 x5_1)) 9)))))
        ·rw [if_pos c15] at H
         have c15b0 : decide ((wrap64 (256 - (wrap64 (x4_1 + (Int.tmod (wrap64 (rd l0 x5_1)) 9))))) < (wrap64 (1 + (Int.tmod (wrap64 (rd l0 (ji13))) 20)))) = true := decide_eq_true c15
         clear c15
         obtain rfl := Option.some.inj H
         have p101 : 0 ≤ (x5_1 : Int) := oD (by first | (with_reducible assumption) | assumption)
         have q101 : x5_1 < (l0.length : Int) := oD (by first | (with_reducible assumption) | assumption)
         obtain ⟨ad101, e101, hx101_0⟩ := Kd.at_int HR0.out x5_1 p101 q101
         cases e101
         replace hx101_0 := (HB.out.cell (wL w _ hx101_0)).trans hx101_0
         replace p101 := eq_true p101
         replace q101 := eq_true q101
         obtain ⟨Ao16, co16, eo16⟩ := Kd.R_slice HO_3.out
         subst eo16
         have p106 : 0 ≤ ((ji13) : Int) := oD (by first | (with_reducible assumption) | assumption)
         have q106 : (ji13) < (l0.length : Int) := oD (by first | (with_reducible assumption) | assumption)
         obtain ⟨ad106, e106, hx106_0⟩ := Kd.at_int HR0.out (ji13) p106 q106
         obtain rfl : ad101 = ad106 := (by injection e106)
         replace hx106_0 := (HB.out.cell (wL w _ hx106_0)).trans hx106_0
         replace p106 := eq_true p106
         replace q106 := eq_true q106
         go_wp2
         go_ret
         exact ⟨_, by first | rfl | (simp [errW_none, errW_some] <;> rfl) | (simp only [← hji13]; first | rfl | (simp [errW_none, errW_some] <;> rfl)) | (simp [*, errW_none, errW_some] <;> rfl), by (with_reducible repeat (first | apply rA | apply rN | apply rD)); exact HO_3.out, by repeat (first | (with_reducible first | exact HB.out | apply wA | apply wN_ | apply wD) | exact HB.out)⟩
        ·rw [if_neg c15] at H
         have c15b0 : decide ((wrap64 (256 - (wrap64 (x4_1 + (Int.tmod (wrap64 (rd l0 x5_1)) 9))))) < (wrap64 (1 + (Int.tmod (wrap64 (rd l0 (ji13))) 20)))) = false := decide_eq_false c15
         clear c15
         by_cases c17 : x3_1.length < 8796093022208
         ·rw [if_pos c17] at H
          have LMc17 := aM c17
          clear c17
          obtain ⟨y107, hy107⟩ : ∃ y_ : List (S32), y_ = (x3_1 ++ [(⟨wrap64 (x4_1 + (Int.tmod (wrap64 (rd l0 x5_1)) 9)), wrap64 (1 + (Int.tmod (wrap64 (rd l0 (ji13))) 20))⟩ : S32)]) := ⟨_, rfl⟩
          replace H : (rickyardlaw5_Made.l0 k1 l0 y107 (wrap64 ((wrap64 (x4_1 + (Int.tmod (wrap64 (rd l0 x5_1)) 9))) + (wrap64 (1 + (Int.tmod (wrap64 (rd l0 (ji13))) 20))))) (wrap64 (x5_1 + 2))) = some r := by first | (rw [hy107]; with_reducible exact H) | (have H2_ := (Option.bind_some _ _).symm.trans H; rw [hy107]; with_reducible exact H2_) | (have H2_ := (Option.bind_some _ _).symm.trans H; with_reducible exact H2_) | with_reducible exact H | (rw [hy107]; exact H) | exact H
          have Ny107 := aM hy107
          clear hy107
          have H' := aM H
          clear H
          have p101 : 0 ≤ (x5_1 : Int) := oD (by first | (with_reducible assumption) | assumption)
          have q101 : x5_1 < (l0.length : Int) := oD (by first | (with_reducible assumption) | assumption)
          obtain ⟨ad101, e101, hx101_0⟩ := Kd.at_int HR0.out x5_1 p101 q101
          cases e101
          replace hx101_0 := (HB.out.cell (wL w _ hx101_0)).trans hx101_0
          replace p101 := eq_true p101
          replace q101 := eq_true q101
          obtain ⟨Ao18, co18, eo18⟩ := Kd.R_slice HO_3.out
          subst eo18
          have p106 : 0 ≤ ((ji13) : Int) := oD (by first | (with_reducible assumption) | assumption)
          have q106 : (ji13) < (l0.length : Int) := oD (by first | (with_reducible assumption) | assumption)
          obtain ⟨ad106, e106, hx106_0⟩ := Kd.at_int HR0.out (ji13) p106 q106
          obtain rfl : ad101 = ad106 := (by injection e106)
          replace hx106_0 := (HB.out.cell (wL w _ hx106_0)).trans hx106_0
          replace p106 := eq_true p106
          replace q106 := eq_true q106
          go_wp2_with (first|((with_reducible refine gate_builtin (b:=.append) (xs:=#[.tmp 39,.tmp 43]) rfl ?_);at_builtin;refine Kd.R_append k32 (w0:=w) w.heap.size rfl (.tmp 39) (.tmp 43) 23 32 (.agg #[(.int .i64 0),(.int .i64 0)]) 16 rfl Try.underlying23 info32 rfl (by decide) (by omega) (.slice Ao18 x3_1.length co18) x3_1 (⟨wrap64 (x4_1 + (Int.tmod (wrap64 (rd l0 x5_1)) 9)),wrap64 (1 + (Int.tmod (wrap64 (rd l0 (ji13))) 20))⟩ : S32) [.int .i64 (wrap64 (x4_1 + (Int.tmod (wrap64 (rd l0 x5_1)) 9))),.int .i64 (wrap64 (1 + (Int.tmod (wrap64 (rd l0 (ji13))) 20)))] (fun _ => True) (fun _ => False) rfl rfl ?aP (fun _ hk => hk.elim) ?aF ?aO ?aB ?aS ?aL ?_;(case aP => exact k32_mkM _ _ _ (⟨wrap64 (x4_1 + (Int.tmod (wrap64 (rd l0 x5_1)) 9)),wrap64 (1 + (Int.tmod (wrap64 (rd l0 (ji13))) 20))⟩ : S32));(case aB => exact (by repeat (first|(with_reducible first|exact HB.out|apply wA|apply wN_|apply wD)|exact HB.out)));(case aF => exact (fun _ _ => trivial));(case aO => exact (by (with_reducible repeat (first|apply rA|apply rN|apply rD));exact HO_3.out));(case aS => exact (wZ (by repeat (first|(with_reducible first|exact HB.out|apply wA|apply wN_|apply wD)|exact HB.out))));(case aL => have:=LMc17.out;omega);intro v108 w19 ho hb hg hat;rw [← Ny107.out] at ho;have n0_:=aM (hb);have n1_:=aM (ho);clear HB;clear HO_3;have HB:=n0_;have HO109:=n1_;clear n0_ n1_;clear ho hb hg hat))
          go_roundg k1
          case measure => have:=HK1.out;omega
          case rel => exact ⟨(y107),(wrap64 ((wrap64 (x4_1 + (Int.tmod (wrap64 (rd l0 x5_1)) 9))) + (wrap64 (1 + (Int.tmod (wrap64 (rd l0 (ji13))) 20))))),(wrap64 (x5_1 + 2)),(by first|rfl|(simp;done)|(simp only [← hji13] <;> (first|rfl|simp))|(simp [*];done)),(by first|rfl|(simp;done)|(simp [*];done)),H',⟨by have:=HK1.out;omega⟩,⟨by (with_reducible repeat (first|apply rA|apply rN|apply rD));exact HO109.out⟩,⟨by repeat (first|(with_reducible first|exact HB.out|apply wA|apply wN_|apply wD)|exact HB.out)⟩⟩
         ·rw [if_neg c17] at H
          exact absurd H (by simp)
       ·rw [if_neg c14] at H
        exact absurd H (by simp)
     ·rw [if_neg c4] at H
      exact absurd H (by simp)
    ·rw [if_neg c3] at H
     exact absurd H (by simp)
   ·rw [if_neg c2] at H
    have c2b0 : decide ((wrap64 (x5_1 + 1)) < (l0.length : Int)) = false := decide_eq_false c2
    clear c2
    obtain rfl := Option.some.inj H
    go_wp2
    go_ret
    exact ⟨_, by first | rfl | (simp [errW_none, errW_some] <;> rfl) | (simp [*, errW_none, errW_some] <;> rfl), by (with_reducible repeat (first | apply rA | apply rN | apply rD)); exact HO_3.out, by repeat (first | (with_reducible first | exact HB.out | apply wA | apply wN_ | apply wD) | exact HB.out)⟩

/-! ### runs_Fit: function 14 (a contract of this session's own) -/
def runs_Fit.f (l0 : List (S32)) (a1 : Int) : Option (Int × Bool) := if l0.length ≤ 17592186044416 then some (fitS l0 a1) else none
theorem runs_Fit.calls (A0 : Option Addr) (c0 : Nat) (l0 : List (S32)) (a1 : Int) (r1 : Int) (r2 : Bool) (w : World) (hr0 : Kd.C k32 w A0 l0.length l0) (hc0 : l0.length ≤ c0) (h : runs_Fit.f l0 a1 = some (r1, r2)) :
  Calls Try.prog 14 #[.slice A0 l0.length c0, .int .i64 a1] w fun e w' => e = .returned (.tuple #[.int .i64 r1, .bool r2]) ∧ Below w.heap.size w w' := by
 unfold runs_Fit.f at h
 split at h
 next hl =>
  have h1 := Option.some.inj h
  have h2 := fit_any A0 c0 l0 a1 w hr0 hl
  rw [h1] at h2
  exact h2
 next => cases h

/-! ### api_Run_42: function 42 (a contract of this session's own) -/
def api_Run_42.f (l0 : List (S32)) : Option (List (S32)) := if l0.length < 8796093022208 then some l0 else none
set_option maxHeartbeats 1000000 in
theorem api_Run_42.calls (A0 : Option Addr) (c0 : Nat) (l0 : List (S32)) (r : List (S32)) (w : World) (hr0 : Kd.C k32 w A0 l0.length l0) (hc0 : l0.length ≤ c0) (h : api_Run_42.f l0 = some r) :
  Calls Try.prog 42 #[.slice A0 l0.length c0] w fun e w' => ∃ v0_ : Value, e = .returned (v0_) ∧ Kd.R k32 32 w' w.heap.size (fun _ => True) v0_ r ∧ Below w.heap.size w w' := by
 have hlim : l0.length < 8796093022208 ∧ l0 = r := by
  unfold api_Run_42.f at h
  by_cases hl : l0.length < 8796093022208
  ·rw [if_pos hl] at h
   exact ⟨hl, Option.some.inj h⟩
  ·rw [if_neg hl] at h
   cases h
 obtain ⟨hl, he⟩ := hlim
 clear h
 subst he
 have HR0 := aM hr0
 have HL0 := aM hl
 have HB := aM (Below.refl w.heap.size w)
 clear hl hc0
 rcases A0 with _ | ad
 ·have h00 : l0 = [] := by
   rcases Nat.eq_zero_or_pos l0.length with h1 | h1
   ·exact List.eq_nil_of_length_eq_zero h1
   ·obtain ⟨ad, h2, _⟩ := hr0.2.2 h1
    cases h2
  clear hr0 HR0 HL0
  subst h00
  have h0 := fun (w : World) => Lib.run_eql_slice_nil (P := Try.prog) w 23 32 none 0 c0 0 0 Try.underlying23
  go_enter Try.func42, Try.ntmps42
  go_wp2
  go_ret
  exact ⟨_, rfl, Kd.R_nil _ _ _ _ _, Below.refl _ _⟩
 ·clear hr0
  have h0 := fun (w : World) => Lib.run_eql_slice_nil (P := Try.prog) w 23 32 (some ad) l0.length c0 0 0 Try.underlying23
  go_enter Try.func42, Try.ntmps42
  go_wp2_with (first|((with_reducible refine gate_builtin (b:=.append) (xs:=#[.tmp 5,.tmp 6]) rfl ?_);at_builtin;refine Kd.R_append_rows k32 (w0:=w) w.heap.size rfl (.tmp 5) (.tmp 6) 23 32 (.agg #[(.int .i64 0),(.int .i64 0)]) 16 rfl Try.underlying23 info32 rfl (by decide) (by omega) (.slice (some ⟨w.heap.size,0,none⟩) 0 0) [] l0 _ _ _ (fun _ => True) (fun _ => False) rfl rfl ?aO ?aR (fun _ _ h => h) (fun _ h => h.elim) ?aF ?aB ?aS ?aL ?_;(case aO => exact ⟨fun _ _ => trivial,[],World.ownsRow_made w #[] 0 (Nat.le_refl _) (by simp [maxLen]) (by rfl),Reps.none _ _⟩);(case aR => exact cA HR0.out _);(case aF => exact fun _ _ => trivial);(case aB => exact wA HB.out _);(case aS => simp);(case aL => have:=HL0.out;simp only [List.length_nil];omega);intro v1 w1 ho hb hg hat;have HO:=aM ho;have HB1:=aM hb;clear ho hb hg hat))
  go_ret
  exact ⟨_, rfl, by simpa using HO.out, HB1.out⟩

/-! ### api_Run_43: function 43 (a contract of this session's own) -/
def api_Run_43.f (l0 : List (S32)) (a1 a2 : Int) : Option (List (S32)) := del_run l0 a1 a2
theorem api_Run_43.calls (P0_ : Nat → Prop) (u0_ : Value) (l0 : List (S32)) (a1 a2 : Int) (r : List (S32)) (w0 w : World) (hB : Below w0.heap.size w0 w) (ho0 : Kd.R k32 32 w w0.heap.size P0_ u0_ l0) (h : api_Run_43.f l0 a1 a2 = some r) :
  Calls Try.prog 43 #[u0_, .int .i64 a1, .int .i64 a2] w fun e w' => ∃ v0_ : Value, e = .returned (v0_) ∧ Kd.R k32 32 w' w0.heap.size (fun k_ => (P0_ k_ ∨ w.heap.size ≤ k_)) v0_ r ∧ Below w0.heap.size w0 w' ∧ Kept w w' (fun k_ => P0_ k_) :=
 deleteOwn_run P0_ u0_ l0 a1 a2 r w0 w hB ho0 h

/-! ### runs_Take: function 15 -/
def runs_Take.f (l0 : List (S32)) (a1 : Int) : Option ((List (S32)) × Int × Int) := if a1 < 1 then (some (([] : List (S32)), 0, 1)) else ((runs_Fit.f l0 a1).bind fun bt110 => (if bt110.2 = true then (if 0 ≤ bt110.1 then (if bt110.1 < (l0.length : Int) then ((api_Run_42.f l0).bind fun t113 => (if bt110.1 < (t113.length : Int) then (if ((rd_T32 t113 bt110.1).f1) = a1 then ((api_Run_43.f t113 bt110.1 (wrap64 (bt110.1 + 1))).bind fun t117 => (some (t117, (rd_T32 l0 bt110.1).f0, 0))) else (some ((t113.set (bt110.1 : Int).toNat (⟨wrap64 (((rd_T32 l0 bt110.1).f0) + a1), wrap64 (((rd_T32 t113 bt110.1).f1) - a1)⟩ : S32)), (rd_T32 l0 bt110.1).f0, 0))) else (none))) else (none)) else (none)) else (some (([] : List (S32)), 0, 3))))
set_option maxHeartbeats 8000000 in
set_option maxRecDepth 100000 in
theorem runs_Take.calls (A0 : Option Addr) (c0 : Nat) (l0 : List (S32)) (a1 : Int) (r1 : List (S32)) (r2 : Int) (r3 : Int) (w : World) (hr0 : Kd.C k32 w A0 l0.length l0) (hc0 : l0.length ≤ c0) (h : runs_Take.f l0 a1 = some (r1, r2, r3)) :
  Calls Try.prog 15 #[.slice A0 l0.length c0, .int .i64 a1] w fun e w' => ∃ v0_ : Value, e = .returned (.tuple #[v0_, .int .i64 r2, .int .i64 r3]) ∧ Kd.R k32 32 w' w.heap.size (fun _ => True) v0_ r1 ∧ Below w.heap.size w w' := by
 have hu32 := Try.underlying32
 have HR0 := aM hr0
 have HC0 := aM hc0
 clear hr0 hc0
 have HB := aM (Below.refl w.heap.size w)
 have H : (if a1 < 1 then (some (([] : List (S32)), 0, 1)) else ((runs_Fit.f l0 a1).bind fun bt110 => (if bt110.2 = true then (if 0 ≤ bt110.1 then (if bt110.1 < (l0.length : Int) then ((api_Run_42.f l0).bind fun t113 => (if bt110.1 < (t113.length : Int) then (if ((rd_T32 t113 bt110.1).f1) = a1 then ((api_Run_43.f t113 bt110.1 (wrap64 (bt110.1 + 1))).bind fun t117 => (some (t117, (rd_T32 l0 bt110.1).f0, 0))) else (some ((t113.set (bt110.1 : Int).toNat (⟨wrap64 (((rd_T32 l0 bt110.1).f0) + a1), wrap64 (((rd_T32 t113 bt110.1).f1) - a1)⟩ : S32)), (rd_T32 l0 bt110.1).f0, 0))) else (none))) else (none)) else (none)) else (some (([] : List (S32)), 0, 3))))) = some (r1, r2, r3) := h
 clear h
 by_cases c3 : a1 < 1
 ·rw [if_pos c3] at H
  have c3b0 : decide (a1 < 1) = true := decide_eq_true c3
  clear c3
  simp only [Option.some.injEq, Prod.mk.injEq] at H
  obtain ⟨rfl, rfl, rfl⟩ := H
  go_enter Try.func15, Try.ntmps15
  go_wp2
  go_ret3
  exact ⟨_, by first | rfl | (simp [errW_none, errW_some] <;> rfl) | (simp [*, errW_none, errW_some] <;> rfl), by first | exact Kd.R_nil _ _ _ _ _ | exact Kd.N_nil _ _ _ _ _ | exact Kd.V_nil _ _ _ _ _ | exact Kd.Q_nil _ _ _ _ _ | exact Kd.S_nil _ _ _ _ _, by repeat (first | (with_reducible first | exact HB.out | apply wA | apply wN_ | apply wD) | exact HB.out)⟩
 ·rw [if_neg c3] at H
  have c3b0 : decide (a1 < 1) = false := decide_eq_false c3
  clear c3
  replace H := Option.bind_eq_some_iff.mp H
  obtain ⟨⟨t110, t111⟩, A40, H⟩ := H
  replace H : (if t111 = true then (if 0 ≤ t110 then (if t110 < (l0.length : Int) then ((api_Run_42.f l0).bind fun t113 => (if t110 < (t113.length : Int) then (if ((rd_T32 t113 t110).f1) = a1 then ((api_Run_43.f t113 t110 (wrap64 (t110 + 1))).bind fun t117 => (some (t117, (rd_T32 l0 t110).f0, 0))) else (some ((t113.set (t110 : Int).toNat (⟨wrap64 (((rd_T32 l0 t110).f0) + a1), wrap64 (((rd_T32 t113 t110).f1) - a1)⟩ : S32)), (rd_T32 l0 t110).f0, 0))) else (none))) else (none)) else (none)) else (some (([] : List (S32)), 0, 3))) = some (r1, r2, r3) := H
  have A4 := aM A40
  clear A40
  by_cases c5 : t111 = true
  ·subst c5
   have H1 : (if 0 ≤ t110 then (if t110 < (l0.length : Int) then ((api_Run_42.f l0).bind fun t113 => (if t110 < (t113.length : Int) then (if ((rd_T32 t113 t110).f1) = a1 then ((api_Run_43.f t113 t110 (wrap64 (t110 + 1))).bind fun t117 => (some (t117, (rd_T32 l0 t110).f0, 0))) else (some ((t113.set (t110 : Int).toNat (⟨wrap64 (((rd_T32 l0 t110).f0) + a1), wrap64 (((rd_T32 t113 t110).f1) - a1)⟩ : S32)), (rd_T32 l0 t110).f0, 0))) else (none))) else (none)) else (none)) = some (r1, r2, r3) := by rw [if_pos rfl] at H; exact H
   clear H
   have H := H1
   clear H1
   by_cases c6 : 0 ≤ t110
   ·rw [if_pos c6] at H
    have c6b0 : decide (0 ≤ t110) = true := decide_eq_true c6
    clear c6
    by_cases c7 : t110 < (l0.length : Int)
    ·rw [if_pos c7] at H
     have c7b0 : decide (t110 < (l0.length : Int)) = true := decide_eq_true c7
     clear c7
     replace H := Option.bind_eq_some_iff.mp H
     obtain ⟨t113, A80, H⟩ := H
     replace H : (if t110 < (t113.length : Int) then (if ((rd_T32 t113 t110).f1) = a1 then ((api_Run_43.f t113 t110 (wrap64 (t110 + 1))).bind fun t117 => (some (t117, (rd_T32 l0 t110).f0, 0))) else (some ((t113.set (t110 : Int).toNat (⟨wrap64 (((rd_T32 l0 t110).f0) + a1), wrap64 (((rd_T32 t113 t110).f1) - a1)⟩ : S32)), (rd_T32 l0 t110).f0, 0))) else (none)) = some (r1, r2, r3) := H
     have A8 := aM A80
     clear A80
     by_cases c9 : t110 < (t113.length : Int)
     ·rw [if_pos c9] at H
      have c9b0 : decide (t110 < (t113.length : Int)) = true := decide_eq_true c9
      clear c9
      by_cases c10 : ((rd_T32 t113 t110).f1) = a1
      ·rw [if_pos c10] at H
       have c10b0 : (((rd_T32 t113 t110).f1) == a1) = true := beq_iff_eq.mpr c10
       have c10b1 : (((rd_T32 t113 t110).f1) != a1) = false := bne_eq_false_iff_eq.mpr c10
       clear c10
       replace H := Option.bind_eq_some_iff.mp H
       obtain ⟨t117, A110, H⟩ := H
       replace H : (some (t117, (rd_T32 l0 t110).f0, 0)) = some (r1, r2, r3) := H
       have A11 := aM A110
       clear A110
       simp only [Option.some.injEq, Prod.mk.injEq] at H
       obtain ⟨rfl, rfl, rfl⟩ := H
       go_enter Try.func15, Try.ntmps15
       go_wp2_with (first|((with_reducible refine gate_callee (f:=14) rfl ?_);refine goesL_ (some 16) rfl rfl Try.func14 (by kernel_rfl) rfl #[.slice A0 l0.length c0,.int .i64 a1] rfl (by (try simp only [lM,lC,lN]);first|done|rfl|(simp only [lD,lT];rfl)) ?_;(with_reducible refine (runs_Fit.calls _ _ l0 a1 t110 true _ ?side1 ?side2 A4.out).mono ?_);(case side1 => repeat (first|exact HR0.out|(with_reducible refine cA ?_ _)|(with_reducible refine cN ?_ _)|(with_reducible refine cD ?_)));(case side2 => exact HC0.out);rintro e w12 ⟨rfl,hb⟩;refine ⟨_,rfl,?_⟩;have n0_:=aM (wT (by repeat (first|(with_reducible first|exact HB.out|apply wA|apply wN_|apply wD)|exact HB.out)) hb);clear HB;have HB:=n0_;clear n0_;(try clear hb);(try clear hb2);(try clear hk);(try clear hi);have p112 : 0 ≤ (t110 : Int):=oD (by first|(with_reducible assumption)|assumption);have q112 : t110 < (l0.length : Int):=oD (by first|(with_reducible assumption)|assumption);obtain ⟨ad112,e112,hx112_0,hx112_1⟩:=at_T32 HR0.out t110 p112 q112;cases e112;replace hx112_0:=(HB.out.cell (wL w _ hx112_0)).trans hx112_0;replace hx112_1:=(HB.out.cell (wL w _ hx112_1)).trans hx112_1;replace p112:=eq_true p112;replace q112:=eq_true q112)|((with_reducible refine gate_callee (f:=42) rfl ?_);refine goesL_ (some 27) rfl rfl Try.func42 (by kernel_rfl) rfl #[.slice (some ad112) l0.length c0] rfl (by (try simp only [lM,lC,lN]);first|done|rfl|(simp only [lD,lT];rfl)) ?_;(with_reducible refine (api_Run_42.calls _ _ l0 t113 _ ?side1 ?side2 A8.out).mono ?_);(case side1 => repeat (first|exact (cB HR0.out HB.out)|(with_reducible refine cA ?_ _)|(with_reducible refine cN ?_ _)|(with_reducible refine cD ?_)));(case side2 => exact HC0.out);rintro e w13 ⟨v114,rfl,ho0,hb⟩;refine ⟨_,rfl,?_⟩;have n0_:=aM (Kd.R_lower ho0 (wZ (by repeat (first|(with_reducible first|exact HB.out|apply wA|apply wN_|apply wD)|exact HB.out))));have n1_:=aM (wT (by repeat (first|(with_reducible first|exact HB.out|apply wA|apply wN_|apply wD)|exact HB.out)) hb);clear HB;have HO115:=n0_;have HB:=n1_;clear n0_ n1_;(try clear hb);(try clear hb2);(try clear hk);(try clear hi);(try clear ho0);obtain ⟨Ao14,co14,eo14⟩:=Kd.R_slice HO115.out;subst eo14;have p116 : 0 ≤ (t110 : Int):=oD (by first|(with_reducible assumption)|assumption);have q116 : t110 < (t113.length : Int):=oD (by first|(with_reducible assumption)|assumption);obtain ⟨ad116,e116,hx116_0,hx116_1⟩:=at_T32 (Kd.R_reads' HO115.out).2.2 t110 p116 q116;cases e116;replace p116:=eq_true p116;replace q116:=eq_true q116)|((with_reducible refine gate_callee (f:=43) rfl ?_);refine goesL_ (some 39) rfl rfl Try.func43 (by kernel_rfl) rfl #[.slice (some ad116) t113.length co14,.int .i64 t110,.int .i64 (wrap64 (t110 + 1))] rfl (by (try simp only [lM,lC,lN]);first|done|rfl|(simp only [lD,lT];rfl)) ?_;(with_reducible refine (api_Run_43.calls (fun k_ => some k_ = (.slice (some ad116) t113.length co14 : Value).ownBlock) (.slice (some ad116) t113.length co14) t113 t110 (wrap64 (t110 + 1)) t117 w _ ?side1 ?side2 A11.out).mono ?_);(case side1 => repeat (first|(with_reducible first|exact HB.out|apply wA|apply wN_|apply wD)|exact HB.out));(case side2 => exact Kd.R_tight rfl HO115.out);rintro e w15 ⟨v118,rfl,ho0,hb,hkp⟩;refine ⟨_,rfl,?_⟩;have n0_:=aM (rM (ok':=fun k_ => True) ho0 (fun k_ hk_ => trivial));have n1_:=aM (hb);clear HB;clear HO115;have HO119:=n0_;have HB:=n1_;clear n0_ n1_;(try clear hb);(try clear hkp);(try clear ho0)))
       go_ret3
       exact ⟨_, by first | rfl | (simp [errW_none, errW_some] <;> rfl) | (simp [*, errW_none, errW_some] <;> rfl), by (with_reducible repeat (first | apply rA | apply rN | apply rD)); exact HO119.out, by repeat (first | (with_reducible first | exact HB.out | apply wA | apply wN_ | apply wD) | exact HB.out)⟩
      ·rw [if_neg c10] at H
       have c10b0 : (((rd_T32 t113 t110).f1) == a1) = false := beq_eq_false_iff_ne.mpr c10
       have c10b1 : (((rd_T32 t113 t110).f1) != a1) = true := bne_iff_ne.mpr c10
       obtain ⟨y121, hy121⟩ : ∃ y_ : List (S32), y_ = (t113.set (t110 : Int).toNat (⟨wrap64 (((rd_T32 l0 t110).f0) + a1), wrap64 (((rd_T32 t113 t110).f1) - a1)⟩ : S32)) := ⟨_, rfl⟩
       replace H : (some (y121, (rd_T32 l0 t110).f0, 0)) = some (r1, r2, r3) := by first | (rw [hy121]; with_reducible exact H) | (have H2_ := (Option.bind_some _ _).symm.trans H; rw [hy121]; with_reducible exact H2_) | (have H2_ := (Option.bind_some _ _).symm.trans H; with_reducible exact H2_) | with_reducible exact H | (rw [hy121]; exact H) | exact H
       have Ny121 := aM hy121
       clear hy121
       simp only [Option.some.injEq, Prod.mk.injEq] at H
       obtain ⟨rfl, rfl, rfl⟩ := H
       go_enter Try.func15, Try.ntmps15
       go_wp2_with (first|((with_reducible refine gate_callee (f:=14) rfl ?_);refine goesL_ (some 16) rfl rfl Try.func14 (by kernel_rfl) rfl #[.slice A0 l0.length c0,.int .i64 a1] rfl (by (try simp only [lM,lC,lN]);first|done|rfl|(simp only [lD,lT];rfl)) ?_;(with_reducible refine (runs_Fit.calls _ _ l0 a1 t110 true _ ?side1 ?side2 A4.out).mono ?_);(case side1 => repeat (first|exact HR0.out|(with_reducible refine cA ?_ _)|(with_reducible refine cN ?_ _)|(with_reducible refine cD ?_)));(case side2 => exact HC0.out);rintro e w17 ⟨rfl,hb⟩;refine ⟨_,rfl,?_⟩;have n0_:=aM (wT (by repeat (first|(with_reducible first|exact HB.out|apply wA|apply wN_|apply wD)|exact HB.out)) hb);clear HB;have HB:=n0_;clear n0_;(try clear hb);(try clear hb2);(try clear hk);(try clear hi);have p112 : 0 ≤ (t110 : Int):=oD (by first|(with_reducible assumption)|assumption);have q112 : t110 < (l0.length : Int):=oD (by first|(with_reducible assumption)|assumption);obtain ⟨ad112,e112,hx112_0,hx112_1⟩:=at_T32 HR0.out t110 p112 q112;cases e112;replace hx112_0:=(HB.out.cell (wL w _ hx112_0)).trans hx112_0;replace hx112_1:=(HB.out.cell (wL w _ hx112_1)).trans hx112_1;replace p112:=eq_true p112;replace q112:=eq_true q112)|((with_reducible refine gate_callee (f:=42) rfl ?_);refine goesL_ (some 27) rfl rfl Try.func42 (by kernel_rfl) rfl #[.slice (some ad112) l0.length c0] rfl (by (try simp only [lM,lC,lN]);first|done|rfl|(simp only [lD,lT];rfl)) ?_;(with_reducible refine (api_Run_42.calls _ _ l0 t113 _ ?side1 ?side2 A8.out).mono ?_);(case side1 => repeat (first|exact (cB HR0.out HB.out)|(with_reducible refine cA ?_ _)|(with_reducible refine cN ?_ _)|(with_reducible refine cD ?_)));(case side2 => exact HC0.out);rintro e w18 ⟨v114,rfl,ho0,hb⟩;refine ⟨_,rfl,?_⟩;have n0_:=aM (Kd.R_lower ho0 (wZ (by repeat (first|(with_reducible first|exact HB.out|apply wA|apply wN_|apply wD)|exact HB.out))));have n1_:=aM (wT (by repeat (first|(with_reducible first|exact HB.out|apply wA|apply wN_|apply wD)|exact HB.out)) hb);clear HB;have HO115:=n0_;have HB:=n1_;clear n0_ n1_;(try clear hb);(try clear hb2);(try clear hk);(try clear hi);(try clear ho0);obtain ⟨Ao19,co19,eo19⟩:=Kd.R_slice HO115.out;subst eo19;have p116 : 0 ≤ (t110 : Int):=oD (by first|(with_reducible assumption)|assumption);have q116 : t110 < (t113.length : Int):=oD (by first|(with_reducible assumption)|assumption);obtain ⟨ad116,e116,hx116_0,hx116_1⟩:=at_T32 (Kd.R_reads' HO115.out).2.2 t110 p116 q116;cases e116;replace p116:=eq_true p116;replace q116:=eq_true q116;have p120 : 0 ≤ (t110 : Int):=oD (by first|(with_reducible assumption)|assumption);have q120 : t110 < (t113.length : Int):=oD (by first|(with_reducible assumption)|assumption);obtain ⟨ad120,e120,hx120_0,hx120_1⟩:=at_T32 (Kd.R_reads' HO115.out).2.2 t110 p120 q120;obtain rfl : ad116 = ad120:=(by injection e120);replace p120:=eq_true p120;replace q120:=eq_true q120;have p16 : 0 ≤ (t110 : Int):=oD (by first|(with_reducible assumption)|assumption);have q16 : (t110 : Int) < ((t113.length : Int) : Int):=oD (by first|(with_reducible assumption)|assumption);obtain ⟨go16,co16,eo16,gb16,gl16,cl16,HG16⟩:=Kd.R_form HO115.out (by omega);(first|cases eo16|(injection eo16 with ea_ en_ ec_;(first|subst ea_|(injection ea_ with ea_;subst ea_));subst ec_;clear en_));have GB16:=aM gb16;have GG16:=aM HG16;clear gb16 gl16 HG16;(first|simp only [add_plain] at hx116_0|skip);(first|simp only [add_plain] at hx116_1|skip);(first|simp only [add_plain] at hx120_0|skip);(first|simp only [add_plain] at hx120_1|skip);obtain ⟨ce16,hcl16,hM16,hcc16,hfr16⟩:=Kd.R_elem HO115.out z32 (t110 : Int) p16 q16;obtain rfl:=k32_openM hM16;have hx16_0 : w18.cell? ⟨go16,(t110 : Int).toNat * 2,none⟩ = some (.int .i64 ((rd_T32 t113 t110).f0)):=hcc16 0 _ rfl;have hx16_1 : w18.cell? ⟨go16,(t110 : Int).toNat * 2 + 1,none⟩ = some (.int .i64 ((rd_T32 t113 t110).f1)):=hcc16 1 _ rfl;have hf16_0 : w18.frozen? ⟨go16,(t110 : Int).toNat * 2,none⟩ = false:=hfr16 0;have hf16_1 : w18.frozen? ⟨go16,(t110 : Int).toNat * 2 + 1,none⟩ = false:=hfr16 1;clear hcl16 hcc16 hfr16 hM16;replace p16:=eq_true p16;replace q16:=eq_true q16;have HX20:=aM (show Kd.R k32 32 w18 w.heap.size (fun _ => True) (.slice (some ⟨go16,0,none⟩) t113.length co19) t113 from (by (with_reducible repeat (first|apply rA|apply rN|apply rD));exact HO115.out));obtain ⟨ce20,hcl20,hM20,hcc20,hfr20⟩:=Kd.R_elem HX20.out z32 (t110 : Int) (oD (by first|(with_reducible assumption)|assumption)) (by have h_ : (t110 : Int) < ((t113.length : Int) : Int):=oD (by first|(with_reducible assumption)|assumption);first|exact h_|(have e_:=(Kd.R_reads' HO115.out).1;omega)|simpa using h_);obtain rfl:=k32_openM hM20;have HP20:=Kd.R_seg HX20.out (t110 : Int) (oD (by first|(with_reducible assumption)|assumption)) (by have h_ : (t110 : Int) < ((t113.length : Int) : Int):=oD (by first|(with_reducible assumption)|assumption);first|exact h_|(have e_:=(Kd.R_reads' HO115.out).1;omega)|simpa using h_) (seg:=[.int .i64 (wrap64 (((rd_T32 l0 t110).f0) + a1)),.int .i64 (wrap64 (((rd_T32 t113 t110).f1) - a1))]) (j:=0) hcl20 hcc20 (show 2 ≤ 2 from by decide) (x':=(⟨wrap64 (((rd_T32 l0 t110).f0) + a1),wrap64 (((rd_T32 t113 t110).f1) - a1)⟩ : S32)) (k32_mkM _ _ _ (⟨wrap64 (((rd_T32 l0 t110).f0) + a1),wrap64 (((rd_T32 t113 t110).f1) - a1)⟩ : S32) ) (fun _ hk => hk);have hx20_0:=hcc20 0 _ rfl;(try simp only [show (k32).sz = 2 from rfl,Nat.mul_one,Nat.add_zero] at hx20_0);have hf20_0:=hfr20 0;(try simp only [show (k32).sz = 2 from rfl,Nat.mul_one,Nat.add_zero] at hf20_0);have hx20_1:=hcc20 1 _ rfl;(try simp only [show (k32).sz = 2 from rfl,Nat.mul_one,Nat.add_zero] at hx20_1);have hf20_1:=hfr20 1;(try simp only [show (k32).sz = 2 from rfl,Nat.mul_one,Nat.add_zero] at hf20_1);clear hcl20 hcc20 hfr20 hM20)|((with_reducible refine gate_store (t:=32) (p:=54) rfl ?_);refine store_event (t:=32) (p:=54) (v:=?vo_w21) (w1:=((w18.setCell ⟨go16,(t110 : Int).toNat * 2,none⟩ (.int .i64 (wrap64 (((rd_T32 l0 t110).f0) + a1)))).setCell ⟨go16,(t110 : Int).toNat * 2 + 1,none⟩ (.int .i64 (wrap64 (((rd_T32 t113 t110).f1) - a1))))) ?hg ?ho ?hn ?hr ?_;(case ho => rfl);(case hg => rfl);(case hn => rfl);(case hr => first|(go_simp;done)|(go_simp;rfl));intro w21 hw;have hg : w18.grownBy w21 (some go16):=(by rw [hw];exact HP20.2);have hp_ : Kd.R k32 32 w21 w.heap.size (fun _ => True) (.slice (some ⟨go16,0,none⟩) t113.length co19) y121:=(by rw [hw,Ny121.out];exact HP20.1);clear HP20;have n0_:=aM (hp_);have n1_:=aM ((by rw [hw];exact wS (wS (HB.out) GB16.out) GB16.out : Below w.heap.size w w21));clear HO115;clear HB;have HO115:=n0_;have HB:=n1_;clear n0_ n1_;clear hg hw hp_))
       go_ret3
       exact ⟨_, by first | rfl | (simp [errW_none, errW_some] <;> rfl) | (simp [*, errW_none, errW_some] <;> rfl), by (with_reducible repeat (first | apply rA | apply rN | apply rD)); exact HO115.out, by repeat (first | (with_reducible first | exact HB.out | apply wA | apply wN_ | apply wD) | exact HB.out)⟩
     ·rw [if_neg c9] at H
      exact absurd H (by simp)
    ·rw [if_neg c7] at H
     exact absurd H (by simp)
   ·rw [if_neg c6] at H
    exact absurd H (by simp)
  ·replace c5 := Bool.eq_false_iff.mpr c5
   subst c5
   have H1 : (some (([] : List (S32)), 0, 3)) = some (r1, r2, r3) := by rw [if_neg (show ¬ (false = true) by decide)] at H; exact H
   clear H
   have H := H1
   clear H1
   simp only [Option.some.injEq, Prod.mk.injEq] at H
   obtain ⟨rfl, rfl, rfl⟩ := H
   go_enter Try.func15, Try.ntmps15
   go_wp2_with (first|((with_reducible refine gate_callee (f:=14) rfl ?_);refine goesL_ (some 16) rfl rfl Try.func14 (by kernel_rfl) rfl #[.slice A0 l0.length c0,.int .i64 a1] rfl (by (try simp only [lM,lC,lN]);first|done|rfl|(simp only [lD,lT];rfl)) ?_;(with_reducible refine (runs_Fit.calls _ _ l0 a1 t110 false _ ?side1 ?side2 A4.out).mono ?_);(case side1 => repeat (first|exact HR0.out|(with_reducible refine cA ?_ _)|(with_reducible refine cN ?_ _)|(with_reducible refine cD ?_)));(case side2 => exact HC0.out);rintro e w22 ⟨rfl,hb⟩;refine ⟨_,rfl,?_⟩;have n0_:=aM (wT (by repeat (first|(with_reducible first|exact HB.out|apply wA|apply wN_|apply wD)|exact HB.out)) hb);clear HB;have HB:=n0_;clear n0_;(try clear hb);(try clear hb2);(try clear hk);(try clear hi)))
   go_ret3
   exact ⟨_, by first | rfl | (simp [errW_none, errW_some] <;> rfl) | (simp [*, errW_none, errW_some] <;> rfl), by first | exact Kd.R_nil _ _ _ _ _ | exact Kd.N_nil _ _ _ _ _ | exact Kd.V_nil _ _ _ _ _ | exact Kd.Q_nil _ _ _ _ _ | exact Kd.S_nil _ _ _ _ _, by repeat (first | (with_reducible first | exact HB.out | apply wA | apply wN_ | apply wD) | exact HB.out)⟩

/-! ### rickyardref1_SameRuns: function 17 -/
def rickyardref1_SameRuns.l0 : Nat → List (S32) → List (S32) → Int → Option (Bool)
 | 0, _, _, _ => none
 | k + 1, x0, x1, x5 => if x5 < (x0.length : Int) then (if 0 ≤ x5 then (if x5 < (x1.length : Int) then (if (!(((rd_T32 x0 x5).f0) == ((rd_T32 x1 x5).f0)) || (!(((rd_T32 x0 x5).f1) == ((rd_T32 x1 x5).f1)))) = true then (some false) else (rickyardref1_SameRuns.l0 k x0 x1 (wrap64 (x5 + 1)))) else (none)) else (none)) else (some true)
def rickyardref1_SameRuns.f (k : Nat) (l0 : List (S32)) (l1 : List (S32)) : Option (Bool) := if (l0.length : Int) = (l1.length : Int) then (rickyardref1_SameRuns.l0 k l0 l1 0) else (some false)
theorem rickyardref1_SameRuns.mono_l : ∀ k, (∀ y0 y1 y2, LeO (rickyardref1_SameRuns.l0 k y0 y1 y2) (rickyardref1_SameRuns.l0 (k + 1) y0 y1 y2))
 | 0 => fun _ _ _ r h => by simp [rickyardref1_SameRuns.l0] at h
 | k + 1 => by
  have ih0 := rickyardref1_SameRuns.mono_l k
  ·intro y0 y1 y2
   unfold rickyardref1_SameRuns.l0
   repeat' first
   | (with_reducible exact ih0 _ _ _)
   | (with_reducible exact LeO.refl _)
   | (with_reducible exact LeO.none _)
   | (with_reducible refine LeO.ite ?_ ?_)
   | (with_reducible refine LeO.bind ?_ (fun _ => ?_))
   | exact ih0 _ _ _
   | exact LeO.none _
   | refine LeO.ite ?_ ?_
   | refine LeO.bind ?_ (fun _ => ?_)
theorem rickyardref1_SameRuns.mono : ∀ a0 a1 k, LeO (rickyardref1_SameRuns.f k a0 a1) (rickyardref1_SameRuns.f (k + 1) a0 a1) := by
 intro a0 a1 k
 have ih0 := rickyardref1_SameRuns.mono_l k
 unfold rickyardref1_SameRuns.f
 repeat' first
   | (with_reducible exact ih0 _ _ _)
   | (with_reducible exact LeO.refl _)
   | (with_reducible exact LeO.none _)
   | (with_reducible refine LeO.ite ?_ ?_)
   | (with_reducible refine LeO.bind ?_ (fun _ => ?_))
   | exact ih0 _ _ _
   | exact LeO.none _
   | refine LeO.ite ?_ ?_
   | refine LeO.bind ?_ (fun _ => ?_)
set_option maxHeartbeats 8000000 in
set_option maxRecDepth 100000 in
theorem rickyardref1_SameRuns.calls (k : Nat) (A0 : Option Addr) (c0 : Nat) (l0 : List (S32)) (A1 : Option Addr) (c1 : Nat) (l1 : List (S32)) (r : Bool) (w : World) (hr0 : Kd.C k32 w A0 l0.length l0) (hc0 : l0.length ≤ c0) (hr1 : Kd.C k32 w A1 l1.length l1) (hc1 : l1.length ≤ c1) (h : rickyardref1_SameRuns.f k l0 l1 = some r) :
  Calls Try.prog 17 #[.slice A0 l0.length c0, .slice A1 l1.length c1] w fun e w' => e = .returned (.bool r) ∧ Drawn0 w w' := by
 have hu32 := Try.underlying32
 have HR0 := aM hr0
 have HC0 := aM hc0
 clear hr0 hc0
 have HR1 := aM hr1
 have HC1 := aM hc1
 clear hr1 hc1
 have H : (if (l0.length : Int) = (l1.length : Int) then (rickyardref1_SameRuns.l0 k l0 l1 0) else (some false)) = some r := h
 clear h
 by_cases c3 : (l0.length : Int) = (l1.length : Int)
 ·rw [if_pos c3] at H
  have c3b0 : ((l0.length : Int) == (l1.length : Int)) = true := beq_iff_eq.mpr c3
  have c3b1 : ((l0.length : Int) != (l1.length : Int)) = false := bne_eq_false_iff_eq.mpr c3
  have c3b2 : (l0.length == l1.length) = true := by first | simpa using c3 | (simp at c3 ⊢; omega)
  clear c3
  have H' := aM H
  clear H
  go_enter Try.func17, Try.ntmps17
  go_wp2
  repeat (go_quiet (fail);try go_wp2)
  go_loopg [5] k (fun kq v5 w' => ∃ (x5_1 : Int), v5 = .int .i64 x5_1 ∧ Aside0 (rickyardref1_SameRuns.l0 kq l0 l1 x5_1 = some r) ∧ Aside0 (kq ≤ k) ∧ Drawn0 w w')
  case atStart => exact ⟨(0),(by first|rfl|(simp;done)|(simp [*];done)),H',⟨Nat.le_refl _⟩,by repeat (first|exact Drawn0.refl _|apply Drawn0.step)⟩
  case round =>
   clear H'
   try clear c1
   try clear p2
   try clear c3
   try clear c3b0
   try clear c3b1
   try clear c3b2
   obtain ⟨x5_1, rfl, HA, HK1, ⟨m1, rfl⟩⟩ := hrel
   cases gk with
   | zero => exact absurd HA.out (by simp [rickyardref1_SameRuns.l0])
   | succ k1 =>
    have H := HA.out
    clear HA
    simp only [rickyardref1_SameRuns.l0] at H
    by_cases c4 : x5_1 < (l0.length : Int)
    ·rw [if_pos c4] at H
     have c4b0 : decide (x5_1 < (l0.length : Int)) = true := decide_eq_true c4
     clear c4
     by_cases c5 : 0 ≤ x5_1
     ·rw [if_pos c5] at H
      have c5b0 : decide (0 ≤ x5_1) = true := decide_eq_true c5
      clear c5
      by_cases c6 : x5_1 < (l1.length : Int)
      ·rw [if_pos c6] at H
       have c6b0 : decide (x5_1 < (l1.length : Int)) = true := decide_eq_true c6
       clear c6
       by_cases c7 : (!(((rd_T32 l0 x5_1).f0) == ((rd_T32 l1 x5_1).f0)) || (!(((rd_T32 l0 x5_1).f1) == ((rd_T32 l1 x5_1).f1)))) = true
       ·rw [if_pos c7] at H
        have c7b0 : (!(((rd_T32 l0 x5_1).f0) == ((rd_T32 l1 x5_1).f0)) || (!(((rd_T32 l0 x5_1).f1) == ((rd_T32 l1 x5_1).f1)))) = true := c7
        clear c7
        obtain rfl := Option.some.inj H
        have p122 : 0 ≤ (x5_1 : Int) := oD (by first | (with_reducible assumption) | assumption)
        have q122 : x5_1 < (l0.length : Int) := oD (by first | (with_reducible assumption) | assumption)
        obtain ⟨ad122, e122, hx122_0, hx122_1⟩ := at_T32 HR0.out x5_1 p122 q122
        cases e122
        replace p122 := eq_true p122
        replace q122 := eq_true q122
        have p123 : 0 ≤ (x5_1 : Int) := oD (by first | (with_reducible assumption) | assumption)
        have q123 : x5_1 < (l1.length : Int) := oD (by first | (with_reducible assumption) | assumption)
        obtain ⟨ad123, e123, hx123_0, hx123_1⟩ := at_T32 HR1.out x5_1 p123 q123
        cases e123
        replace p123 := eq_true p123
        replace q123 := eq_true q123
        go_wp2
        repeat (go_quiet (fail);try go_wp2)
        go_ret
        exact ⟨by first | rfl | (simp; done) | (simp [*]; done), by repeat (first | exact Drawn0.refl _ | apply Drawn0.step)⟩
       ·rw [if_neg c7] at H
        have c7b0 : (!(((rd_T32 l0 x5_1).f0) == ((rd_T32 l1 x5_1).f0)) || (!(((rd_T32 l0 x5_1).f1) == ((rd_T32 l1 x5_1).f1)))) = false := by simpa using c7
        clear c7
        have H' := aM H
        clear H
        have p122 : 0 ≤ (x5_1 : Int) := oD (by first | (with_reducible assumption) | assumption)
        have q122 : x5_1 < (l0.length : Int) := oD (by first | (with_reducible assumption) | assumption)
        obtain ⟨ad122, e122, hx122_0, hx122_1⟩ := at_T32 HR0.out x5_1 p122 q122
        cases e122
        replace p122 := eq_true p122
        replace q122 := eq_true q122
        have p123 : 0 ≤ (x5_1 : Int) := oD (by first | (with_reducible assumption) | assumption)
        have q123 : x5_1 < (l1.length : Int) := oD (by first | (with_reducible assumption) | assumption)
        obtain ⟨ad123, e123, hx123_0, hx123_1⟩ := at_T32 HR1.out x5_1 p123 q123
        cases e123
        replace p123 := eq_true p123
        replace q123 := eq_true q123
        go_wp2
        repeat (go_quiet (fail);try go_wp2)
        go_roundg k1
        case measure => have:=HK1.out;omega
        case rel => exact ⟨(wrap64 (x5_1 + 1)),(by first|rfl|(simp;done)|(simp [*];done)),H',⟨by have:=HK1.out;omega⟩,by repeat (first|exact Drawn0.refl _|apply Drawn0.step)⟩
      ·rw [if_neg c6] at H
       exact absurd H (by simp)
     ·rw [if_neg c5] at H
      exact absurd H (by simp)
    ·rw [if_neg c4] at H
     have c4b0 : decide (x5_1 < (l0.length : Int)) = false := decide_eq_false c4
     clear c4
     obtain rfl := Option.some.inj H
     go_wp2
     repeat (go_quiet (fail);try go_wp2)
     go_ret
     exact ⟨by first | rfl | (simp; done) | (simp [*]; done), by repeat (first | exact Drawn0.refl _ | apply Drawn0.step)⟩
 ·rw [if_neg c3] at H
  have c3b0 : ((l0.length : Int) == (l1.length : Int)) = false := beq_eq_false_iff_ne.mpr c3
  have c3b1 : ((l0.length : Int) != (l1.length : Int)) = true := bne_iff_ne.mpr c3
  have c3b2 : (l0.length == l1.length) = false := by first | simpa using c3 | (simp at c3 ⊢; omega)
  obtain rfl := Option.some.inj H
  go_enter Try.func17, Try.ntmps17
  go_wp2
  repeat (go_quiet (fail);try go_wp2)
  go_ret
  exact ⟨by first | rfl | (simp; done) | (simp [*]; done), by repeat (first | exact Drawn0.refl _ | apply Drawn0.step)⟩

/-! ### runs_within: function 44 -/
def runs_within.f (a0_0 : Int) (a0_1 : Int) (a1 : Int) : Option (Bool) := if a0_1 ≥ 1 then (if a0_0 ≥ 0 then (if a0_0 ≤ a1 then (some (decide (a0_1 ≤ (wrap64 (a1 - a0_0))))) else (some false)) else (some false)) else (some false)
set_option maxHeartbeats 8000000 in
set_option maxRecDepth 100000 in
theorem runs_within.calls (a0_0 : Int) (a0_1 : Int) (a1 : Int) (r : Bool) (w : World) (h : runs_within.f a0_0 a0_1 a1 = some r) :
  Calls Try.prog 44 #[.agg #[.int .i64 a0_0, .int .i64 a0_1], .int .i64 a1] w fun e w' => e = .returned (.bool r) ∧ Below w.heap.size w w' := by
 have hu32 := Try.underlying32
 have HB := aM (Below.refl w.heap.size w)
 have H : (if a0_1 ≥ 1 then (if a0_0 ≥ 0 then (if a0_0 ≤ a1 then (some (decide (a0_1 ≤ (wrap64 (a1 - a0_0))))) else (some false)) else (some false)) else (some false)) = some r := h
 clear h
 by_cases c3 : a0_1 ≥ 1
 ·rw [if_pos c3] at H
  have c3b0 : decide (1 ≤ a0_1) = true := decide_eq_true c3
  clear c3
  by_cases c4 : a0_0 ≥ 0
  ·rw [if_pos c4] at H
   have c4b0 : decide (0 ≤ a0_0) = true := decide_eq_true c4
   clear c4
   by_cases c5 : a0_0 ≤ a1
   ·rw [if_pos c5] at H
    have c5b0 : decide (a0_0 ≤ a1) = true := decide_eq_true c5
    clear c5
    obtain rfl := Option.some.inj H
    go_enter Try.func44, Try.ntmps44
    go_wp2_with (first|((with_reducible refine gate_dst (N:=2) rfl ?_);refine box_event ?hg (N:=2) ?hd (cs:=#[.int .i64 a0_0,.int .i64 a0_1]) (t:=32) ?hr ?_;(case hd => rfl);(case hg => rfl);(case hr => first|(go_simp;done)|(go_simp;rfl));intro gb124 hg w6 hbox hb;have n0_:=aM (wT (by repeat (first|(with_reducible first|exact HB.out|apply wA|apply wN_|apply wD)|exact HB.out)) hb);have n1_:=aM (hbox);have n2_:=aM ((by rw [hg];exact (wZ (by repeat (first|(with_reducible first|exact HB.out|apply wA|apply wN_|apply wD)|exact HB.out))) : w.heap.size ≤ gb124));have n3_:=aM ((by rw [hg];exact (wZ (by repeat (first|(with_reducible first|exact HB.out|apply wA|apply wN_|apply wD)|exact HB.out))) : w.heap.size ≤ gb124));clear HB;have HB:=n0_;have BK124:=n1_;have GW124:=n2_;have GE124:=n3_;clear n0_ n1_ n2_ n3_;clear hb hbox hg;have hcz7_0 : w6.cell? ⟨gb124,0,none⟩ = some (.int .i64 a0_0):=(bC BK124.out 0).trans rfl;have hcz7_1 : w6.cell? ⟨gb124,1,none⟩ = some (.int .i64 a0_1):=(bC BK124.out 1).trans rfl;have hfz7_0:=bF BK124.out 0;have hfz7_1:=bF BK124.out 1))
    go_ret
    exact ⟨by first | rfl | (simp [errW_none, errW_some] <;> rfl) | (simp [*, errW_none, errW_some] <;> rfl), by repeat (first | (with_reducible first | exact HB.out | apply wA | apply wN_ | apply wD | refine wS ?_ GE124.out) | exact HB.out)⟩
   ·rw [if_neg c5] at H
    have c5b0 : decide (a0_0 ≤ a1) = false := decide_eq_false c5
    clear c5
    obtain rfl := Option.some.inj H
    go_enter Try.func44, Try.ntmps44
    go_wp2_with (first|((with_reducible refine gate_dst (N:=2) rfl ?_);refine box_event ?hg (N:=2) ?hd (cs:=#[.int .i64 a0_0,.int .i64 a0_1]) (t:=32) ?hr ?_;(case hd => rfl);(case hg => rfl);(case hr => first|(go_simp;done)|(go_simp;rfl));intro gb124 hg w8 hbox hb;have n0_:=aM (wT (by repeat (first|(with_reducible first|exact HB.out|apply wA|apply wN_|apply wD)|exact HB.out)) hb);have n1_:=aM (hbox);have n2_:=aM ((by rw [hg];exact (wZ (by repeat (first|(with_reducible first|exact HB.out|apply wA|apply wN_|apply wD)|exact HB.out))) : w.heap.size ≤ gb124));have n3_:=aM ((by rw [hg];exact (wZ (by repeat (first|(with_reducible first|exact HB.out|apply wA|apply wN_|apply wD)|exact HB.out))) : w.heap.size ≤ gb124));clear HB;have HB:=n0_;have BK124:=n1_;have GW124:=n2_;have GE124:=n3_;clear n0_ n1_ n2_ n3_;clear hb hbox hg;have hcz9_0 : w8.cell? ⟨gb124,0,none⟩ = some (.int .i64 a0_0):=(bC BK124.out 0).trans rfl;have hcz9_1 : w8.cell? ⟨gb124,1,none⟩ = some (.int .i64 a0_1):=(bC BK124.out 1).trans rfl;have hfz9_0:=bF BK124.out 0;have hfz9_1:=bF BK124.out 1))
    go_ret
    exact ⟨by first | rfl | (simp [errW_none, errW_some] <;> rfl) | (simp [*, errW_none, errW_some] <;> rfl), by repeat (first | (with_reducible first | exact HB.out | apply wA | apply wN_ | apply wD | refine wS ?_ GE124.out) | exact HB.out)⟩
  ·rw [if_neg c4] at H
   have c4b0 : decide (0 ≤ a0_0) = false := decide_eq_false c4
   clear c4
   obtain rfl := Option.some.inj H
   go_enter Try.func44, Try.ntmps44
   go_wp2_with (first|((with_reducible refine gate_dst (N:=2) rfl ?_);refine box_event ?hg (N:=2) ?hd (cs:=#[.int .i64 a0_0,.int .i64 a0_1]) (t:=32) ?hr ?_;(case hd => rfl);(case hg => rfl);(case hr => first|(go_simp;done)|(go_simp;rfl));intro gb124 hg w10 hbox hb;have n0_:=aM (wT (by repeat (first|(with_reducible first|exact HB.out|apply wA|apply wN_|apply wD)|exact HB.out)) hb);have n1_:=aM (hbox);have n2_:=aM ((by rw [hg];exact (wZ (by repeat (first|(with_reducible first|exact HB.out|apply wA|apply wN_|apply wD)|exact HB.out))) : w.heap.size ≤ gb124));have n3_:=aM ((by rw [hg];exact (wZ (by repeat (first|(with_reducible first|exact HB.out|apply wA|apply wN_|apply wD)|exact HB.out))) : w.heap.size ≤ gb124));clear HB;have HB:=n0_;have BK124:=n1_;have GW124:=n2_;have GE124:=n3_;clear n0_ n1_ n2_ n3_;clear hb hbox hg;have hcz11_0 : w10.cell? ⟨gb124,0,none⟩ = some (.int .i64 a0_0):=(bC BK124.out 0).trans rfl;have hcz11_1 : w10.cell? ⟨gb124,1,none⟩ = some (.int .i64 a0_1):=(bC BK124.out 1).trans rfl;have hfz11_0:=bF BK124.out 0;have hfz11_1:=bF BK124.out 1))
   go_ret
   exact ⟨by first | rfl | (simp [errW_none, errW_some] <;> rfl) | (simp [*, errW_none, errW_some] <;> rfl), by repeat (first | (with_reducible first | exact HB.out | apply wA | apply wN_ | apply wD | refine wS ?_ GE124.out) | exact HB.out)⟩
 ·rw [if_neg c3] at H
  have c3b0 : decide (1 ≤ a0_1) = false := decide_eq_false c3
  clear c3
  obtain rfl := Option.some.inj H
  go_enter Try.func44, Try.ntmps44
  go_wp2_with (first|((with_reducible refine gate_dst (N:=2) rfl ?_);refine box_event ?hg (N:=2) ?hd (cs:=#[.int .i64 a0_0,.int .i64 a0_1]) (t:=32) ?hr ?_;(case hd => rfl);(case hg => rfl);(case hr => first|(go_simp;done)|(go_simp;rfl));intro gb124 hg w12 hbox hb;have n0_:=aM (wT (by repeat (first|(with_reducible first|exact HB.out|apply wA|apply wN_|apply wD)|exact HB.out)) hb);have n1_:=aM (hbox);have n2_:=aM ((by rw [hg];exact (wZ (by repeat (first|(with_reducible first|exact HB.out|apply wA|apply wN_|apply wD)|exact HB.out))) : w.heap.size ≤ gb124));have n3_:=aM ((by rw [hg];exact (wZ (by repeat (first|(with_reducible first|exact HB.out|apply wA|apply wN_|apply wD)|exact HB.out))) : w.heap.size ≤ gb124));clear HB;have HB:=n0_;have BK124:=n1_;have GW124:=n2_;have GE124:=n3_;clear n0_ n1_ n2_ n3_;clear hb hbox hg;have hcz13_0 : w12.cell? ⟨gb124,0,none⟩ = some (.int .i64 a0_0):=(bC BK124.out 0).trans rfl;have hcz13_1 : w12.cell? ⟨gb124,1,none⟩ = some (.int .i64 a0_1):=(bC BK124.out 1).trans rfl;have hfz13_0:=bF BK124.out 0;have hfz13_1:=bF BK124.out 1))
  go_ret
  exact ⟨by first | rfl | (simp [errW_none, errW_some] <;> rfl) | (simp [*, errW_none, errW_some] <;> rfl), by repeat (first | (with_reducible first | exact HB.out | apply wA | apply wN_ | apply wD | refine wS ?_ GE124.out) | exact HB.out)⟩

/-! ### runs_end: function 45 -/
def runs_end.f (a0_0 : Int) (a0_1 : Int) : Option (Int) := some (wrap64 (a0_0 + a0_1))
set_option maxHeartbeats 8000000 in
set_option maxRecDepth 100000 in
theorem runs_end.calls (a0_0 : Int) (a0_1 : Int) (r : Int) (w : World) (h : runs_end.f a0_0 a0_1 = some r) :
  Calls Try.prog 45 #[.agg #[.int .i64 a0_0, .int .i64 a0_1]] w fun e w' => e = .returned (.int .i64 r) ∧ Below w.heap.size w w' := by
 have hu32 := Try.underlying32
 have HB := aM (Below.refl w.heap.size w)
 have H : (some (wrap64 (a0_0 + a0_1))) = some r := h
 clear h
 obtain rfl := Option.some.inj H
 go_enter Try.func45, Try.ntmps45
 go_wp2_with (first|((with_reducible refine gate_dst (N:=1) rfl ?_);refine box_event ?hg (N:=1) ?hd (cs:=#[.int .i64 a0_0,.int .i64 a0_1]) (t:=32) ?hr ?_;(case hd => rfl);(case hg => rfl);(case hr => first|(go_simp;done)|(go_simp;rfl));intro gb125 hg w2 hbox hb;have n0_:=aM (wT (by repeat (first|(with_reducible first|exact HB.out|apply wA|apply wN_|apply wD)|exact HB.out)) hb);have n1_:=aM (hbox);have n2_:=aM ((by rw [hg];exact (wZ (by repeat (first|(with_reducible first|exact HB.out|apply wA|apply wN_|apply wD)|exact HB.out))) : w.heap.size ≤ gb125));have n3_:=aM ((by rw [hg];exact (wZ (by repeat (first|(with_reducible first|exact HB.out|apply wA|apply wN_|apply wD)|exact HB.out))) : w.heap.size ≤ gb125));clear HB;have HB:=n0_;have BK125:=n1_;have GW125:=n2_;have GE125:=n3_;clear n0_ n1_ n2_ n3_;clear hb hbox hg;have hcz3_0 : w2.cell? ⟨gb125,0,none⟩ = some (.int .i64 a0_0):=(bC BK125.out 0).trans rfl;have hcz3_1 : w2.cell? ⟨gb125,1,none⟩ = some (.int .i64 a0_1):=(bC BK125.out 1).trans rfl;have hfz3_0:=bF BK125.out 0;have hfz3_1:=bF BK125.out 1))
 go_ret
 exact ⟨by first | rfl | (simp [errW_none, errW_some] <;> rfl) | (simp [*, errW_none, errW_some] <;> rfl), by repeat (first | (with_reducible first | exact HB.out | apply wA | apply wN_ | apply wD | refine wS ?_ GE125.out) | exact HB.out)⟩

/-! ### api_Run_46: function 46 (a contract of this session's own) -/
def api_Run_46.f (l0 : List (S32)) (a1 : Int) (l2 : List (S32)) : Option (List (S32)) := ins_run l0 a1 l2
theorem api_Run_46.calls (P0_ : Nat → Prop) (u0_ : Value) (l0 : List (S32)) (a1 : Int) (P2_ : Nat → Prop) (u2_ : Value) (l2 : List (S32)) (r : List (S32)) (w0 w : World) (hB : Below w0.heap.size w0 w) (ho0 : Kd.R k32 32 w w0.heap.size P0_ u0_ l0) (hp0_2 : ∀ k_, P0_ k_ → ¬ P2_ k_) (ho2 : Kd.R k32 32 w w0.heap.size P2_ u2_ l2) (hp2_0 : ∀ k_, P2_ k_ → ¬ P0_ k_) (h : api_Run_46.f l0 a1 l2 = some r) :
  Calls Try.prog 46 #[u0_, .int .i64 a1, u2_] w fun e w' => ∃ v0_ : Value, e = .returned (v0_) ∧ Kd.R k32 32 w' w0.heap.size (fun k_ => ((P0_ k_ ∨ P2_ k_) ∨ w.heap.size ≤ k_)) v0_ r ∧ Below w0.heap.size w0 w' ∧ Kept w w' (fun k_ => P0_ k_ ∨ P2_ k_) :=
 insertOwn_run P0_ u0_ l0 a1 P2_ u2_ l2 r w0 w hB ho0 hp0_2 ho2 h

end Go.Proofs.Ythbknmblehecaaa.Pr
