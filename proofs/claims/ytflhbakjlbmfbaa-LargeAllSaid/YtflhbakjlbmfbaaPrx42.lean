-- Printed by a program of this session (wip/tools/myprint.py) that runs the kit's print with contracts of this session's own.
import Derived.Test.YtflhbakjlbmfbaaPrx0
import Derived.Test.YtflhbakjlbmfbaaWTab
import Derived.Test.YtflhbakjlbmfbaaShort
import Derived.Test.YtflhbakjlbmfbaaScope
import Derived.Test.YtflhbakjlbmfbaaPrx3
namespace Go.Proofs.Ytflhbakjlbmfbaa.Pr
open Go.RowKit Go.Proofs.YtflhbakjlbmfbaaW.PrintWords Go.Proofs.YtflhbakjlbmfbaaW.PrintLast Go.Proofs.YtflhbakjlbmfbaaW.PrintMore
attribute [local go_sem] max2_int min2_int max_two min_two max_three min_three max_four min_four   -- for this text's walks alone
set_option linter.unusedVariables false
set_option linter.unusedSimpArgs false

/-! ### rickyardref9_RightBig: function 32 -/
mutual
def rickyardref9_RightBig.l0 : Nat → List (S29) → Int → Option (Bool)
 | 0, _, _ => none
 | k + 1, x0, x3 => if x3 < (x0.length : Int) then (if 0 ≤ x3 then ((rickyardref9_MayBig.f ((rd_T29 x0 x3).f0) ((rd_T29 x0 x3).f1)).bind fun t580 => (if t580 = true then (if x3 > 0 then (if 0 ≤ (wrap64 (x3 - 1)) then (if (wrap64 (x3 - 1)) < (x0.length : Int) then ((rickyardref9_ahead.f ((rd_T29 x0 (wrap64 (x3 - 1))).f0) ((rd_T29 x0 (wrap64 (x3 - 1))).f1) ((rd_T29 x0 x3).f0) ((rd_T29 x0 x3).f1)).bind fun t583 => (rickyardref9_RightBig.j1 k x0 x3 (!t583))) else (none)) else (none)) else (rickyardref9_RightBig.j1 k x0 x3 false)) else (rickyardref9_RightBig.j1 k x0 x3 true))) else (none)) else (some true)
def rickyardref9_RightBig.j1 : Nat → List (S29) → Int → Bool → Option (Bool)
 | 0, _, _, _ => none
 | k + 1, x0, x3, x33 => if x33 = true then (some false) else (rickyardref9_RightBig.l1 k x0 x3 0)
def rickyardref9_RightBig.l1 : Nat → List (S29) → Int → Int → Option (Bool)
 | 0, _, _, _ => none
 | k + 1, x0, x3, x4 => if x4 < x3 then (if 0 ≤ x4 then (if x4 < (x0.length : Int) then (if 0 ≤ x3 then (if x3 < (x0.length : Int) then ((rickyardref9_overBig.f ((rd_T29 x0 x4).f0) ((rd_T29 x0 x4).f1) ((rd_T29 x0 x3).f0) ((rd_T29 x0 x3).f1)).bind fun t586 => (if t586 = true then (some false) else (rickyardref9_RightBig.l1 k x0 x3 (wrap64 (x4 + 1))))) else (none)) else (none)) else (none)) else (none)) else (rickyardref9_RightBig.l0 k x0 (wrap64 (x3 + 1)))
end
def rickyardref9_RightBig.f (k : Nat) (l0 : List (S29)) : Option (Bool) := rickyardref9_RightBig.l0 k l0 0
theorem rickyardref9_RightBig.mono_l : ∀ k, (∀ y0 y1, LeO (rickyardref9_RightBig.l0 k y0 y1) (rickyardref9_RightBig.l0 (k + 1) y0 y1)) ∧ (∀ y0 y1 y2, LeO (rickyardref9_RightBig.j1 k y0 y1 y2) (rickyardref9_RightBig.j1 (k + 1) y0 y1 y2)) ∧ (∀ y0 y1 y2, LeO (rickyardref9_RightBig.l1 k y0 y1 y2) (rickyardref9_RightBig.l1 (k + 1) y0 y1 y2))
 | 0 => ⟨fun _ _ r h => by simp [rickyardref9_RightBig.l0] at h, fun _ _ _ r h => by simp [rickyardref9_RightBig.j1] at h, fun _ _ _ r h => by simp [rickyardref9_RightBig.l1] at h⟩
 | k + 1 => by
  obtain ⟨ih0, ih1, ih2⟩ := rickyardref9_RightBig.mono_l k
  refine ⟨?_, ?_, ?_⟩
  ·intro y0 y1
   unfold rickyardref9_RightBig.l0
   repeat' first
   | (with_reducible exact ih0 _ _)
   | (with_reducible exact ih1 _ _ _)
   | (with_reducible exact ih2 _ _ _)
   | (with_reducible exact LeO.refl _)
   | (with_reducible exact LeO.none _)
   | (with_reducible refine LeO.ite ?_ ?_)
   | (with_reducible refine LeO.bind ?_ (fun _ => ?_))
   | exact ih0 _ _
   | exact ih1 _ _ _
   | exact ih2 _ _ _
   | exact LeO.none _
   | refine LeO.ite ?_ ?_
   | refine LeO.bind ?_ (fun _ => ?_)
  ·intro y0 y1 y2
   unfold rickyardref9_RightBig.j1
   repeat' first
   | (with_reducible exact ih0 _ _)
   | (with_reducible exact ih1 _ _ _)
   | (with_reducible exact ih2 _ _ _)
   | (with_reducible exact LeO.refl _)
   | (with_reducible exact LeO.none _)
   | (with_reducible refine LeO.ite ?_ ?_)
   | (with_reducible refine LeO.bind ?_ (fun _ => ?_))
   | exact ih0 _ _
   | exact ih1 _ _ _
   | exact ih2 _ _ _
   | exact LeO.none _
   | refine LeO.ite ?_ ?_
   | refine LeO.bind ?_ (fun _ => ?_)
  ·intro y0 y1 y2
   unfold rickyardref9_RightBig.l1
   repeat' first
   | (with_reducible exact ih0 _ _)
   | (with_reducible exact ih1 _ _ _)
   | (with_reducible exact ih2 _ _ _)
   | (with_reducible exact LeO.refl _)
   | (with_reducible exact LeO.none _)
   | (with_reducible refine LeO.ite ?_ ?_)
   | (with_reducible refine LeO.bind ?_ (fun _ => ?_))
   | exact ih0 _ _
   | exact ih1 _ _ _
   | exact ih2 _ _ _
   | exact LeO.none _
   | refine LeO.ite ?_ ?_
   | refine LeO.bind ?_ (fun _ => ?_)
theorem rickyardref9_RightBig.mono : ∀ a0 k, LeO (rickyardref9_RightBig.f k a0) (rickyardref9_RightBig.f (k + 1) a0) := by
 intro a0 k
 obtain ⟨ih0, ih1, ih2⟩ := rickyardref9_RightBig.mono_l k
 unfold rickyardref9_RightBig.f
 repeat' first
   | (with_reducible exact ih0 _ _)
   | (with_reducible exact ih1 _ _ _)
   | (with_reducible exact ih2 _ _ _)
   | (with_reducible exact LeO.refl _)
   | (with_reducible exact LeO.none _)
   | (with_reducible refine LeO.ite ?_ ?_)
   | (with_reducible refine LeO.bind ?_ (fun _ => ?_))
   | exact ih0 _ _
   | exact ih1 _ _ _
   | exact ih2 _ _ _
   | exact LeO.none _
   | refine LeO.ite ?_ ?_
   | refine LeO.bind ?_ (fun _ => ?_)
def rickyardref9_RightBig.T4 : Bool × List (List Nat × List Nat) := (true, [([], []), ([], []), ([0, 1], [0, 1]), ([2], [2]), ([3], [3]), ([4], [4]), ([5, 4], [5]), ([6], [6]), ([7, 6], [6, 7]), ([8, 6, 6], [6, 8]), ([9], [9]), ([9], [9]), ([11, 9], [9, 11]), ([10, 12, 9], [9, 10, 12]), ([13, 9], [9, 13]), ([9], [9]), ([9], [9]), ([15, 16, 9], [9, 15, 16]), ([17, 9], [9, 17]), ([14, 18, 9, 9], [9, 14, 18]), ([19, 9], [9, 19]), ([9, 20, 6], [6, 9, 20]), ([6, 21], [6, 21])])
def rickyardref9_RightBig.B4 : List Nat := [0, 0, 3, 7, 15, 31, 63, 127, 255, 511, 1023, 1023, 3071, 8191, 16383, 1023, 1023, 99327, 230399, 524287, 1048575, 2097151, 4194303]
theorem rickyardref9_RightBig.tab4 : rtab .any (opsOf Try.f32 4) = rickyardref9_RightBig.T4 := by kernel_rfl
theorem rickyardref9_RightBig.bits4 : waitsOk rickyardref9_RightBig.T4.2 rickyardref9_RightBig.B4 = true := by kernel_rfl
def rickyardref9_RightBig.T9 : Bool × List (List Nat × List Nat) := (true, [([], []), ([], []), ([0, 1], [0, 1]), ([2], [2]), ([], []), ([], []), ([4, 5], [4, 5]), ([6], [6]), ([3, 7], [3, 7])])
def rickyardref9_RightBig.B9 : List Nat := [0, 0, 3, 7, 0, 0, 48, 112, 255]
theorem rickyardref9_RightBig.tab9 : rtab .any (opsOf Try.f32 9) = rickyardref9_RightBig.T9 := by kernel_rfl
theorem rickyardref9_RightBig.bits9 : waitsOk rickyardref9_RightBig.T9.2 rickyardref9_RightBig.B9 = true := by kernel_rfl
set_option maxHeartbeats 8000000 in
set_option maxRecDepth 100000 in
theorem rickyardref9_RightBig.calls (k : Nat) (A0 : Option Addr) (c0 : Nat) (l0 : List (S29)) (r : Bool) (w : World) (hr0 : Kd.C k29 w A0 l0.length l0) (hc0 : l0.length ≤ c0) (h : rickyardref9_RightBig.f k l0 = some r) :
  Calls Try.prog 32 #[.slice A0 l0.length c0] w fun e w' => e = .returned (.bool r) ∧ Below w.heap.size w w' := by
 have hu29 := Try.underlying29
 have HR0 := aM hr0
 have HC0 := aM hc0
 clear hr0 hc0
 have HB := aM (Below.refl w.heap.size w)
 have H : (rickyardref9_RightBig.l0 k l0 0) = some r := h
 clear h
 have H' := aM H
 clear H
 go_enter Try.func32, Try.ntmps32
 go_wp2
 go_loopg [3] k (fun kq v3 w' => ∃ (x3_1 : Int), v3 = .int .i64 x3_1 ∧ Aside0 (rickyardref9_RightBig.l0 kq l0 x3_1 = some r) ∧ Aside0 (kq ≤ k) ∧ Aside0 (Below w.heap.size w w'))
 case atStart => exact ⟨(0),(by first|rfl|(simp;done)|(simp [*];done)),H',⟨Nat.le_refl _⟩,⟨by repeat (first|(with_reducible first|exact HB.out|apply wA|apply wN_|apply wD)|exact HB.out)⟩⟩
 case round =>
  clear H'
  obtain ⟨x3_1, rfl, HA, HK1, HB⟩ := hrel
  cases gk with
  | zero => exact absurd HA.out (by simp [rickyardref9_RightBig.l0])
  | succ k1 =>
   have H := HA.out
   clear HA
   simp only [rickyardref9_RightBig.l0] at H
   by_cases c2 : x3_1 < (l0.length : Int)
   ·rw [if_pos c2] at H
    have c2b0 : decide (x3_1 < (l0.length : Int)) = true := decide_eq_true c2
    clear c2
    have HC3 := aM H
    clear H
    go_upto_region 4 with (fail)
    go_cut [33] (fun v33 wc => ∃ (kq : Nat) (x33_2 : Bool), v33 = .bool x33_2 ∧ Aside0 (rickyardref9_RightBig.j1 kq l0 x3_1 x33_2 = some r) ∧ Aside0 (kq ≤ k1) ∧ Aside0 (Below w.heap.size w wc))
    case first =>
     have H := HC3.out
     clear HC3
     by_cases c4 : 0 ≤ x3_1
     ·rw [if_pos c4] at H
      have c4b0 : decide (0 ≤ x3_1) = true := decide_eq_true c4
      clear c4
      (first | rw [c4b0] | (simp only [i64_w, i32_w]; rw [c4b0]) | skip)
      replace H := Option.bind_eq_some_iff.mp H
      obtain ⟨t580, A50, H⟩ := H
      replace H : (if t580 = true then (if x3_1 > 0 then (if 0 ≤ (wrap64 (x3_1 - 1)) then (if (wrap64 (x3_1 - 1)) < (l0.length : Int) then ((rickyardref9_ahead.f ((rd_T29 l0 (wrap64 (x3_1 - 1))).f0) ((rd_T29 l0 (wrap64 (x3_1 - 1))).f1) ((rd_T29 l0 x3_1).f0) ((rd_T29 l0 x3_1).f1)).bind fun t583 => (rickyardref9_RightBig.j1 k1 l0 x3_1 (!t583))) else (none)) else (none)) else (rickyardref9_RightBig.j1 k1 l0 x3_1 false)) else (rickyardref9_RightBig.j1 k1 l0 x3_1 true)) = some r := H
      have A5 := aM A50
      clear A50
      by_cases c6 : t580 = true
      ·subst c6
       have H1 : (if x3_1 > 0 then (if 0 ≤ (wrap64 (x3_1 - 1)) then (if (wrap64 (x3_1 - 1)) < (l0.length : Int) then ((rickyardref9_ahead.f ((rd_T29 l0 (wrap64 (x3_1 - 1))).f0) ((rd_T29 l0 (wrap64 (x3_1 - 1))).f1) ((rd_T29 l0 x3_1).f0) ((rd_T29 l0 x3_1).f1)).bind fun t583 => (rickyardref9_RightBig.j1 k1 l0 x3_1 (!t583))) else (none)) else (none)) else (rickyardref9_RightBig.j1 k1 l0 x3_1 false)) = some r := by rw [if_pos rfl] at H; exact H
       clear H
       have H := H1
       clear H1
       by_cases c7 : x3_1 > 0
       ·rw [if_pos c7] at H
        have c7b0 : decide (0 < x3_1) = true := decide_eq_true c7
        clear c7
        obtain ⟨ji8, hji8⟩ : ∃ j_ : Int, (wrap64 (x3_1 - 1)) = j_ := ⟨_, rfl⟩
        replace H : (if 0 ≤ (ji8) then (if (ji8) < (l0.length : Int) then ((rickyardref9_ahead.f ((rd_T29 l0 (ji8)).f0) ((rd_T29 l0 (ji8)).f1) ((rd_T29 l0 x3_1).f0) ((rd_T29 l0 x3_1).f1)).bind fun t583 => (rickyardref9_RightBig.j1 k1 l0 x3_1 (!t583))) else (none)) else (none)) = some r := by first | (rw [hji8] at H; exact H) | (simp only [hji8] at H ⊢; exact H)
        (try rw [hji8] at A5)
        have hji8w : (IntKind.i64.wrap (x3_1 - 1)) = ji8 := (i64_w _).trans hji8
        by_cases c9 : 0 ≤ (ji8)
        ·rw [if_pos c9] at H
         have c9b0 : decide (0 ≤ (ji8)) = true := decide_eq_true c9
         clear c9
         by_cases c10 : (ji8) < (l0.length : Int)
         ·rw [if_pos c10] at H
          have c10b0 : decide ((ji8) < (l0.length : Int)) = true := decide_eq_true c10
          clear c10
          replace H := Option.bind_eq_some_iff.mp H
          obtain ⟨t583, A110, H⟩ := H
          replace H : (rickyardref9_RightBig.j1 k1 l0 x3_1 (!t583)) = some r := H
          have A11 := aM A110
          clear A110
          have H' := aM H
          clear H
          try go_wp2
          have n0_ := aM (wD HB.out)
          clear HB
          have HB := n0_
          clear n0_
          have p579 : 0 ≤ (x3_1 : Int) := oD (by first | (with_reducible assumption) | assumption)
          have q579 : x3_1 < (l0.length : Int) := oD (by first | (with_reducible assumption) | assumption)
          obtain ⟨ad579, e579, hx579_0, hx579_1⟩ := at_T29 HR0.out x3_1 p579 q579
          have hw579_1 := hx579_1
          have hw579_0 := hx579_0
          cases e579
          replace hx579_0 := (HB.out.cell (wL w _ hx579_0)).trans hx579_0
          replace hx579_1 := (HB.out.cell (wL w _ hx579_1)).trans hx579_1
          replace p579 := eq_true p579
          replace q579 := eq_true q579
          have p581 : 0 ≤ ((ji8) : Int) := oD (by first | (with_reducible assumption) | assumption)
          have q581 : (ji8) < (l0.length : Int) := oD (by first | (with_reducible assumption) | assumption)
          obtain ⟨ad581, e581, hx581_0, hx581_1⟩ := at_T29 HR0.out (ji8) p581 q581
          have hw581_1 := hx581_1
          have hw581_0 := hx581_0
          obtain rfl : ad579 = ad581 := (by injection e581)
          replace hx581_0 := (HB.out.cell (wL w _ hx581_0)).trans hx581_0
          replace hx581_1 := (HB.out.cell (wL w _ hx581_1)).trans hx581_1
          replace p581 := eq_true p581
          replace q581 := eq_true q581
          have p582 : 0 ≤ (x3_1 : Int) := oD (by first | (with_reducible assumption) | assumption)
          have q582 : x3_1 < (l0.length : Int) := oD (by first | (with_reducible assumption) | assumption)
          obtain ⟨ad582, e582, hx582_0, hx582_1⟩ := at_T29 HR0.out x3_1 p582 q582
          have hw582_1 := hx582_1
          have hw582_0 := hx582_0
          obtain rfl : ad579 = ad582 := (by injection e582)
          replace hx582_0 := (HB.out.cell (wL w _ hx582_0)).trans hx582_0
          replace hx582_1 := (HB.out.cell (wL w _ hx582_1)).trans hx582_1
          replace p582 := eq_true p582
          replace q582 := eq_true q582
          refine start_ (n := 23) (S := fun w' => w'.cell? (ad579.add ((x3_1).toNat * 2)) = some (.int .i64 ((rd_T29 l0 x3_1).f0)) ∧ w'.cell? ⟨(ad579.add ((x3_1).toNat * 2)).block, (ad579.add ((x3_1).toNat * 2)).off + 1, none⟩ = some (.int .i64 ((rd_T29 l0 x3_1).f1)) ∧ w'.cell? (ad579.add (((ji8)).toNat * 2)) = some (.int .i64 ((rd_T29 l0 (ji8)).f0)) ∧ w'.cell? ⟨(ad579.add (((ji8)).toNat * 2)).block, (ad579.add (((ji8)).toNat * 2)).off + 1, none⟩ = some (.int .i64 ((rd_T29 l0 (ji8)).f1)) ∧ w'.cell? (ad579.add ((x3_1).toNat * 2)) = some (.int .i64 ((rd_T29 l0 x3_1).f0)) ∧ w'.cell? ⟨(ad579.add ((x3_1).toNat * 2)).block, (ad579.add ((x3_1).toNat * 2)).off + 1, none⟩ = some (.int .i64 ((rd_T29 l0 x3_1).f1))) (ds := []) (msk 0 23) (by kernel_rfl) rfl rfl ⟨((HB.out.cell (wL w _ hw579_0)).trans hw579_0), ((HB.out.cell (wL w _ hw579_1)).trans hw579_1), ((HB.out.cell (wL w _ hw581_0)).trans hw581_0), ((HB.out.cell (wL w _ hw581_1)).trans hw581_1), ((HB.out.cell (wL w _ hw582_0)).trans hw582_0), ((HB.out.cell (wL w _ hw582_1)).trans hw582_1)⟩ (fun hHeld => ?_); refine with_tabW rickyardref9_RightBig.tab4 rickyardref9_RightBig.bits4 (fun HT_ HW_ => ?_)
          generalize wr.drew = w12 at HB hx579_0 hx579_1 hx581_0 hx581_1 hx582_0 hx582_1 hHeld ⊢
          refine pure_ (i := 0) (N := some 11) (v := ?_) (a' := ?_) (msk 1 22) rfl rfl (any_of HT_.out (by kernel_rfl)) (fun _ _ _ h => h) (Or.inl ⟨by rfl, ?_⟩) ?_ ?_
          rotate_left
          ·intro w'
           go_simp
           with_reducible rfl
          rotate_left
          ·simp only [Act.put, lS, lZ, lU, i64_w, i32_w]
           rfl
          refine pure_ (i := 1) (N := some 12) (v := ?_) (a' := ?_) (msk 2 21) rfl rfl (any_of HT_.out (by kernel_rfl)) (fun _ _ _ h => h) (Or.inl ⟨by rfl, ?_⟩) ?_ ?_
          rotate_left
          ·intro w'
           go_simp
           with_reducible rfl
          rotate_left
          ·simp only [Act.put, lS, lZ, lU, i64_w, i32_w]
           rfl
          refine pure_ (i := 2) (N := some 13) (v := ?_) (a' := ?_) (msk 3 20) rfl rfl (any_of HT_.out (by kernel_rfl)) (fun _ _ _ h => h) (Or.inl ⟨by rfl, ?_⟩) ?_ ?_
          rotate_left
          ·intro w'
           go_simp
           with_reducible rfl
          rotate_left
          ·simp only [Act.put, lS, lZ, lU, i64_w, i32_w]
           rfl
          refine take_ (i := 3) (N := some 14) (v := ?_) (a' := ?_) (msk 4 19) rfl rfl (take_ofW HT_.out HW_.out (by kernel_rfl)) (fun _ _ _ h => h) (Or.inl ⟨by rfl, ?_⟩) hHeld ?_ ?_
          rotate_left
          ·rintro w' ⟨s0, s1, s2, s3, s4, s5⟩
           go_simp
           with_reducible rfl
          rotate_left
          ·simp only [Act.put, lS, lZ, lU, i64_w, i32_w]
           rfl
          refine one_ (i := 4) (N := some 15) (msk 5 18) rfl rfl (one_of HT_.out (by kernel_rfl)) (by decide) (fun K hK => ?_)
          refine goes_ Try.func65 (by kernel_rfl) rfl #[.agg #[.int .i64 ((rd_T29 l0 x3_1).f0), .int .i64 ((rd_T29 l0 x3_1).f1)]] (by rfl) rfl rfl (by (try simp only [lM, lC, lN]); first | done | rfl | (simp only [lD, lT]; rfl)) ?_
          with_reducible refine (rickyardref9_MayBig.calls ((rd_T29 l0 x3_1).f0) ((rd_T29 l0 x3_1).f1) true _ A5.out).mono ?_
          rintro e w13 ⟨rfl, hb⟩
          refine ⟨_, rfl, ?_⟩
          have n0_ := aM (wT (by repeat (first | (with_reducible first | exact HB.out | apply wA | apply wN_ | apply wD) | exact HB.out)) hb)
          clear HB
          have HB := n0_
          clear n0_
          (try clear hb)
          (try clear hb2)
          (try clear hk)
          (try clear hi)
          refine hK.out _ _ ⟨((HB.out.cell (wL w _ hw579_0)).trans hw579_0), ((HB.out.cell (wL w _ hw579_1)).trans hw579_1), ((HB.out.cell (wL w _ hw581_0)).trans hw581_0), ((HB.out.cell (wL w _ hw581_1)).trans hw581_1), ((HB.out.cell (wL w _ hw582_0)).trans hw582_0), ((HB.out.cell (wL w _ hw582_1)).trans hw582_1)⟩ (fun hHeld => ?_)
          clear hK K
          refine norm_ (a' := ?_) ?_ ?_
          rotate_left
          ·show Act.put _ (some 15) _ = _
           simp only [Act.put, lS, lZ, lU, i64_w, i32_w]
           rfl
          refine pure_ (i := 5) (N := some 16) (v := ?_) (a' := ?_) (msk 6 17) rfl rfl (any_of HT_.out (by kernel_rfl)) (fun _ _ _ h => h) (Or.inl ⟨by rfl, ?_⟩) ?_ ?_
          rotate_left
          ·intro w'
           go_simp
           with_reducible rfl
          rotate_left
          ·simp only [Act.put, lS, lZ, lU, i64_w, i32_w]
           rfl
          refine pure_ (i := 6) (N := some 17) (v := ?_) (a' := ?_) (msk 7 16) rfl rfl (any_of HT_.out (by kernel_rfl)) (fun _ _ _ h => h) (Or.inl ⟨by rfl, ?_⟩) ?_ ?_
          rotate_left
          ·intro w'
           go_simp
           with_reducible rfl
          rotate_left
          ·simp only [Act.put, lS, lZ, lU, i64_w, i32_w]
           rfl
          refine pure_ (i := 7) (N := some 18) (v := ?_) (a' := ?_) (msk 8 15) rfl rfl (any_of HT_.out (by kernel_rfl)) (fun _ _ _ h => h) (Or.inl ⟨by rfl, ?_⟩) ?_ ?_
          rotate_left
          ·intro w'
           go_simp
           with_reducible rfl
          rotate_left
          ·simp only [Act.put, lS, lZ, lU, i64_w, i32_w]
           rfl
          refine pure_ (i := 8) (N := some 19) (v := ?_) (a' := ?_) (msk 9 14) rfl rfl (any_of HT_.out (by kernel_rfl)) (fun _ _ _ h => h) (Or.inl ⟨by rfl, ?_⟩) ?_ ?_
          rotate_left
          ·intro w'
           go_simp
           with_reducible rfl
          rotate_left
          ·simp only [Act.put, lS, lZ, lU, i64_w, i32_w]
           rfl
          refine pure_ (i := 9) (N := some 20) (v := ?_) (a' := ?_) (msk 10 13) rfl rfl (any_of HT_.out (by kernel_rfl)) (fun _ _ _ h => h) (Or.inl ⟨by rfl, ?_⟩) ?_ ?_
          rotate_left
          ·intro w'
           go_simp
           with_reducible rfl
          rotate_left
          ·simp only [Act.put, lS, lZ, lU, i64_w, i32_w]
           rfl
          refine pure_ (i := 10) (N := some 21) (v := ?_) (a' := ?_) (msk 11 12) rfl rfl (any_of HT_.out (by kernel_rfl)) (fun _ _ _ h => h) (Or.inl ⟨by rfl, ?_⟩) ?_ ?_
          rotate_left
          ·intro w'
           go_simp
           with_reducible rfl
          rotate_left
          ·simp only [Act.put, lS, lZ, lU, i64_w, i32_w]
           rfl
          refine pure_ (i := 11) (N := some 22) (v := ?_) (a' := ?_) (msk 12 11) rfl rfl (any_of HT_.out (by kernel_rfl)) (fun _ _ _ h => h) (Or.inl ⟨by rfl, ?_⟩) ?_ ?_
          rotate_left
          ·intro w'
           go_simp
           with_reducible rfl
          rotate_left
          ·simp only [Act.put, lS, lZ, lU, i64_w, i32_w]
           rfl
          refine pure_ (i := 12) (N := some 23) (v := ?_) (a' := ?_) (msk 13 10) rfl rfl (any_of HT_.out (by kernel_rfl)) (fun _ _ _ h => h) (Or.inl ⟨by rfl, ?_⟩) ?_ ?_
          rotate_left
          ·intro w'
           go_simp
           with_reducible rfl
          rotate_left
          ·simp only [Act.put, lS, lZ, lU, i64_w, i32_w]
           rfl
          refine pure_ (i := 13) (N := some 24) (v := ?_) (a' := ?_) (msk 14 9) rfl rfl (any_of HT_.out (by kernel_rfl)) (fun _ _ _ h => h) (Or.inl ⟨by rfl, ?_⟩) ?_ ?_
          rotate_left
          ·intro w'
           go_simp
           with_reducible rfl
          rotate_left
          ·simp only [Act.put, lS, lZ, lU, i64_w, i32_w]
           rfl
          refine pure_ (i := 15) (N := some 26) (v := ?_) (a' := ?_) #[tt,tt,tt,tt,tt,tt,tt,tt,tt,tt,tt,tt,tt,tt,ff,tt,ff,ff,ff,ff,ff,ff,ff] rfl rfl (any_of HT_.out (by kernel_rfl)) (fun _ _ _ h => h) (Or.inl ⟨by rfl, ?_⟩) ?_ ?_
          rotate_left
          ·intro w'
           go_simp
           with_reducible rfl
          rotate_left
          ·simp only [Act.put, lS, lZ, lU, i64_w, i32_w]
           rfl
          refine pure_ (i := 16) (N := some 27) (v := ?_) (a' := ?_) #[tt,tt,tt,tt,tt,tt,tt,tt,tt,tt,tt,tt,tt,tt,ff,tt,tt,ff,ff,ff,ff,ff,ff] rfl rfl (any_of HT_.out (by kernel_rfl)) (fun _ _ _ h => h) (Or.inl ⟨by rfl, ?_⟩) ?_ ?_
          rotate_left
          ·intro w'
           go_simp
           with_reducible rfl
          rotate_left
          ·simp only [Act.put, lS, lZ, lU, i64_w, i32_w]
           rfl
          refine pure_ (i := 17) (N := some 28) (v := ?_) (a' := ?_) #[tt,tt,tt,tt,tt,tt,tt,tt,tt,tt,tt,tt,tt,tt,ff,tt,tt,tt,ff,ff,ff,ff,ff] rfl rfl (any_of HT_.out (by kernel_rfl)) (fun _ _ _ h => h) (Or.inl ⟨by rfl, ?_⟩) ?_ ?_
          rotate_left
          ·intro w'
           go_simp
           with_reducible rfl
          rotate_left
          ·simp only [Act.put, lS, lZ, lU, i64_w, i32_w]
           rfl
          refine take_ (i := 14) (N := some 25) (v := ?_) (a' := ?_) (msk 18 5) rfl rfl (take_ofW HT_.out HW_.out (by kernel_rfl)) (fun _ _ _ h => h) (Or.inl ⟨by rfl, ?_⟩) hHeld ?_ ?_
          rotate_left
          ·rintro w' ⟨s0, s1, s2, s3, s4, s5⟩
           go_simp
           with_reducible rfl
          rotate_left
          ·simp only [Act.put, lS, lZ, lU, i64_w, i32_w]
           rfl
          refine take_ (i := 18) (N := some 29) (v := ?_) (a' := ?_) (msk 19 4) rfl rfl (take_ofW HT_.out HW_.out (by kernel_rfl)) (fun _ _ _ h => h) (Or.inl ⟨by rfl, ?_⟩) hHeld ?_ ?_
          rotate_left
          ·rintro w' ⟨s0, s1, s2, s3, s4, s5⟩
           go_simp
           with_reducible rfl
          rotate_left
          ·simp only [Act.put, lS, lZ, lU, i64_w, i32_w]
           rfl
          refine one_ (i := 19) (N := some 30) (msk 20 3) rfl rfl (one_of HT_.out (by kernel_rfl)) (by decide) (fun K hK => ?_)
          refine goes_ Try.func66 (by kernel_rfl) rfl #[.agg #[.int .i64 ((rd_T29 l0 (ji8)).f0), .int .i64 ((rd_T29 l0 (ji8)).f1)], .agg #[.int .i64 ((rd_T29 l0 x3_1).f0), .int .i64 ((rd_T29 l0 x3_1).f1)]] (by rfl) rfl rfl (by (try simp only [lM, lC, lN]); first | done | (simp only [hji8]; rfl) | rfl | (simp only [lD, lT]; rfl)) ?_
          with_reducible refine (rickyardref9_ahead.calls ((rd_T29 l0 (ji8)).f0) ((rd_T29 l0 (ji8)).f1) ((rd_T29 l0 x3_1).f0) ((rd_T29 l0 x3_1).f1) t583 _ A11.out).mono ?_
          rintro e w14 ⟨rfl, hb⟩
          refine ⟨_, rfl, ?_⟩
          have n0_ := aM (wT (by repeat (first | (with_reducible first | exact HB.out | apply wA | apply wN_ | apply wD) | exact HB.out)) hb)
          clear HB
          have HB := n0_
          clear n0_
          (try clear hb)
          (try clear hb2)
          (try clear hk)
          (try clear hi)
          refine hK.out _ _ ⟨((HB.out.cell (wL w _ hw579_0)).trans hw579_0), ((HB.out.cell (wL w _ hw579_1)).trans hw579_1), ((HB.out.cell (wL w _ hw581_0)).trans hw581_0), ((HB.out.cell (wL w _ hw581_1)).trans hw581_1), ((HB.out.cell (wL w _ hw582_0)).trans hw582_0), ((HB.out.cell (wL w _ hw582_1)).trans hw582_1)⟩ (fun hHeld => ?_)
          clear hK K
          refine norm_ (a' := ?_) ?_ ?_
          rotate_left
          ·show Act.put _ (some 30) _ = _
           simp only [Act.put, lS, lZ, lU, i64_w, i32_w]
           rfl
          refine pure_ (i := 20) (N := some 31) (v := ?_) (a' := ?_) (msk 21 2) rfl rfl (any_of HT_.out (by kernel_rfl)) (fun _ _ _ h => h) (Or.inl ⟨by rfl, ?_⟩) ?_ ?_
          rotate_left
          ·intro w'
           go_simp
           with_reducible rfl
          rotate_left
          ·simp only [Act.put, lS, lZ, lU, i64_w, i32_w]
           rfl
          refine pure_ (i := 21) (N := some 32) (v := ?_) (a' := ?_) (msk 22 1) rfl rfl (any_of HT_.out (by kernel_rfl)) (fun _ _ _ h => h) (Or.inl ⟨by rfl, ?_⟩) ?_ ?_
          rotate_left
          ·intro w'
           go_simp
           with_reducible rfl
          rotate_left
          ·simp only [Act.put, lS, lZ, lU, i64_w, i32_w]
           rfl
          refine pure_ (i := 22) (N := some 33) (v := ?_) (a' := ?_) (msk 23 0) rfl rfl (any_of HT_.out (by kernel_rfl)) (fun _ _ _ h => h) (Or.inl ⟨by rfl, ?_⟩) ?_ ?_
          rotate_left
          ·intro w'
           go_simp
           with_reducible rfl
          rotate_left
          ·simp only [Act.put, lS, lZ, lU, i64_w, i32_w]
           rfl
          refine done_ (done_of HT_.out (by kernel_rfl)) ?_
          try go_wp2
          go_meet
          case rel => exact ⟨_,(!t583),(by first|rfl|(simp;done)|(simp [*];done)),H',⟨by have:=HK1.out;first|omega|exact Nat.le_refl _⟩,⟨by repeat (first|(with_reducible first|exact HB.out|apply wA|apply wN_|apply wD)|exact HB.out)⟩⟩
         ·rw [if_neg c10] at H
          exact absurd H (by simp)
        ·rw [if_neg c9] at H
         exact absurd H (by simp)
       ·rw [if_neg c7] at H
        have c7b0 : decide (0 < x3_1) = false := decide_eq_false c7
        clear c7
        have H' := aM H
        clear H
        try go_wp2
        have n0_ := aM (wD HB.out)
        clear HB
        have HB := n0_
        clear n0_
        have p579 : 0 ≤ (x3_1 : Int) := oD (by first | (with_reducible assumption) | assumption)
        have q579 : x3_1 < (l0.length : Int) := oD (by first | (with_reducible assumption) | assumption)
        obtain ⟨ad579, e579, hx579_0, hx579_1⟩ := at_T29 HR0.out x3_1 p579 q579
        have hw579_1 := hx579_1
        have hw579_0 := hx579_0
        cases e579
        replace hx579_0 := (HB.out.cell (wL w _ hx579_0)).trans hx579_0
        replace hx579_1 := (HB.out.cell (wL w _ hx579_1)).trans hx579_1
        replace p579 := eq_true p579
        replace q579 := eq_true q579
        refine start_ (n := 23) (S := fun w' => w'.cell? (ad579.add ((x3_1).toNat * 2)) = some (.int .i64 ((rd_T29 l0 x3_1).f0)) ∧ w'.cell? ⟨(ad579.add ((x3_1).toNat * 2)).block, (ad579.add ((x3_1).toNat * 2)).off + 1, none⟩ = some (.int .i64 ((rd_T29 l0 x3_1).f1))) (ds := []) (msk 0 23) (by kernel_rfl) rfl rfl ⟨((HB.out.cell (wL w _ hw579_0)).trans hw579_0), ((HB.out.cell (wL w _ hw579_1)).trans hw579_1)⟩ (fun hHeld => ?_); refine with_tabW rickyardref9_RightBig.tab4 rickyardref9_RightBig.bits4 (fun HT_ HW_ => ?_)
        generalize wr.drew = w15 at HB hx579_0 hx579_1 hHeld ⊢
        refine pure_ (i := 0) (N := some 11) (v := ?_) (a' := ?_) (msk 1 22) rfl rfl (any_of HT_.out (by kernel_rfl)) (fun _ _ _ h => h) (Or.inl ⟨by rfl, ?_⟩) ?_ ?_
        rotate_left
        ·intro w'
         go_simp
         with_reducible rfl
        rotate_left
        ·simp only [Act.put, lS, lZ, lU, i64_w, i32_w]
         rfl
        refine pure_ (i := 1) (N := some 12) (v := ?_) (a' := ?_) (msk 2 21) rfl rfl (any_of HT_.out (by kernel_rfl)) (fun _ _ _ h => h) (Or.inl ⟨by rfl, ?_⟩) ?_ ?_
        rotate_left
        ·intro w'
         go_simp
         with_reducible rfl
        rotate_left
        ·simp only [Act.put, lS, lZ, lU, i64_w, i32_w]
         rfl
        refine pure_ (i := 2) (N := some 13) (v := ?_) (a' := ?_) (msk 3 20) rfl rfl (any_of HT_.out (by kernel_rfl)) (fun _ _ _ h => h) (Or.inl ⟨by rfl, ?_⟩) ?_ ?_
        rotate_left
        ·intro w'
         go_simp
         with_reducible rfl
        rotate_left
        ·simp only [Act.put, lS, lZ, lU, i64_w, i32_w]
         rfl
        refine take_ (i := 3) (N := some 14) (v := ?_) (a' := ?_) (msk 4 19) rfl rfl (take_ofW HT_.out HW_.out (by kernel_rfl)) (fun _ _ _ h => h) (Or.inl ⟨by rfl, ?_⟩) hHeld ?_ ?_
        rotate_left
        ·rintro w' ⟨s0, s1⟩
         go_simp
         with_reducible rfl
        rotate_left
        ·simp only [Act.put, lS, lZ, lU, i64_w, i32_w]
         rfl
        refine one_ (i := 4) (N := some 15) (msk 5 18) rfl rfl (one_of HT_.out (by kernel_rfl)) (by decide) (fun K hK => ?_)
        refine goes_ Try.func65 (by kernel_rfl) rfl #[.agg #[.int .i64 ((rd_T29 l0 x3_1).f0), .int .i64 ((rd_T29 l0 x3_1).f1)]] (by rfl) rfl rfl (by (try simp only [lM, lC, lN]); first | done | rfl | (simp only [lD, lT]; rfl)) ?_
        with_reducible refine (rickyardref9_MayBig.calls ((rd_T29 l0 x3_1).f0) ((rd_T29 l0 x3_1).f1) true _ A5.out).mono ?_
        rintro e w16 ⟨rfl, hb⟩
        refine ⟨_, rfl, ?_⟩
        have n0_ := aM (wT (by repeat (first | (with_reducible first | exact HB.out | apply wA | apply wN_ | apply wD) | exact HB.out)) hb)
        clear HB
        have HB := n0_
        clear n0_
        (try clear hb)
        (try clear hb2)
        (try clear hk)
        (try clear hi)
        refine hK.out _ _ ⟨((HB.out.cell (wL w _ hw579_0)).trans hw579_0), ((HB.out.cell (wL w _ hw579_1)).trans hw579_1)⟩ (fun hHeld => ?_)
        clear hK K
        refine norm_ (a' := ?_) ?_ ?_
        rotate_left
        ·show Act.put _ (some 15) _ = _
         simp only [Act.put, lS, lZ, lU, i64_w, i32_w]
         rfl
        refine pure_ (i := 5) (N := some 16) (v := ?_) (a' := ?_) (msk 6 17) rfl rfl (any_of HT_.out (by kernel_rfl)) (fun _ _ _ h => h) (Or.inl ⟨by rfl, ?_⟩) ?_ ?_
        rotate_left
        ·intro w'
         go_simp
         with_reducible rfl
        rotate_left
        ·simp only [Act.put, lS, lZ, lU, i64_w, i32_w]
         rfl
        refine pure_ (i := 6) (N := some 17) (v := ?_) (a' := ?_) (msk 7 16) rfl rfl (any_of HT_.out (by kernel_rfl)) (fun _ _ _ h => h) (Or.inl ⟨by rfl, ?_⟩) ?_ ?_
        rotate_left
        ·intro w'
         go_simp
         with_reducible rfl
        rotate_left
        ·simp only [Act.put, lS, lZ, lU, i64_w, i32_w]
         rfl
        refine pure_ (i := 7) (N := some 18) (v := ?_) (a' := ?_) (msk 8 15) rfl rfl (any_of HT_.out (by kernel_rfl)) (fun _ _ _ h => h) (Or.inl ⟨by rfl, ?_⟩) ?_ ?_
        rotate_left
        ·intro w'
         go_simp
         with_reducible rfl
        rotate_left
        ·simp only [Act.put, lS, lZ, lU, i64_w, i32_w]
         rfl
        refine pure_ (i := 8) (N := some 19) (v := ?_) (a' := ?_) (msk 9 14) rfl rfl (any_of HT_.out (by kernel_rfl)) (fun _ _ _ h => h) (Or.inl ⟨by rfl, ?_⟩) ?_ ?_
        rotate_left
        ·intro w'
         go_simp
         with_reducible rfl
        rotate_left
        ·simp only [Act.put, lS, lZ, lU, i64_w, i32_w]
         rfl
        refine pure_ (i := 9) (N := some 20) (v := ?_) (a' := ?_) (msk 10 13) rfl rfl (any_of HT_.out (by kernel_rfl)) (fun _ _ _ h => h) (Or.inl ⟨by rfl, ?_⟩) ?_ ?_
        rotate_left
        ·intro w'
         go_simp
         with_reducible rfl
        rotate_left
        ·simp only [Act.put, lS, lZ, lU, i64_w, i32_w]
         rfl
        refine pure_ (i := 10) (N := some 21) (v := undef) (a' := ?_) (msk 11 12) rfl rfl (any_of HT_.out (by kernel_rfl)) (fun _ _ _ h => h) (Or.inr ⟨by rfl, rfl⟩) ?_ ?_
        rotate_left
        ·simp only [Act.put, lS, lZ, lU, i64_w, i32_w]
         rfl
        refine pure_ (i := 11) (N := some 22) (v := undef) (a' := ?_) (msk 12 11) rfl rfl (any_of HT_.out (by kernel_rfl)) (fun _ _ _ h => h) (Or.inr ⟨by rfl, rfl⟩) ?_ ?_
        rotate_left
        ·simp only [Act.put, lS, lZ, lU, i64_w, i32_w]
         rfl
        refine pure_ (i := 12) (N := some 23) (v := undef) (a' := ?_) (msk 13 10) rfl rfl (any_of HT_.out (by kernel_rfl)) (fun _ _ _ h => h) (Or.inr ⟨by rfl, rfl⟩) ?_ ?_
        rotate_left
        ·simp only [Act.put, lS, lZ, lU, i64_w, i32_w]
         rfl
        refine pure_ (i := 13) (N := some 24) (v := undef) (a' := ?_) (msk 14 9) rfl rfl (any_of HT_.out (by kernel_rfl)) (fun _ _ _ h => h) (Or.inr ⟨by rfl, rfl⟩) ?_ ?_
        rotate_left
        ·simp only [Act.put, lS, lZ, lU, i64_w, i32_w]
         rfl
        refine pure_ (i := 14) (N := some 25) (v := undef) (a' := ?_) (msk 15 8) rfl rfl (any_of HT_.out (by kernel_rfl)) (fun _ _ _ h => h) (Or.inr ⟨by rfl, rfl⟩) ?_ ?_
        rotate_left
        ·simp only [Act.put, lS, lZ, lU, i64_w, i32_w]
         rfl
        refine pure_ (i := 15) (N := some 26) (v := undef) (a' := ?_) (msk 16 7) rfl rfl (any_of HT_.out (by kernel_rfl)) (fun _ _ _ h => h) (Or.inr ⟨by rfl, rfl⟩) ?_ ?_
        rotate_left
        ·simp only [Act.put, lS, lZ, lU, i64_w, i32_w]
         rfl
        refine pure_ (i := 16) (N := some 27) (v := undef) (a' := ?_) (msk 17 6) rfl rfl (any_of HT_.out (by kernel_rfl)) (fun _ _ _ h => h) (Or.inr ⟨by rfl, rfl⟩) ?_ ?_
        rotate_left
        ·simp only [Act.put, lS, lZ, lU, i64_w, i32_w]
         rfl
        refine pure_ (i := 17) (N := some 28) (v := undef) (a' := ?_) (msk 18 5) rfl rfl (any_of HT_.out (by kernel_rfl)) (fun _ _ _ h => h) (Or.inr ⟨by rfl, rfl⟩) ?_ ?_
        rotate_left
        ·simp only [Act.put, lS, lZ, lU, i64_w, i32_w]
         rfl
        refine pure_ (i := 18) (N := some 29) (v := undef) (a' := ?_) (msk 19 4) rfl rfl (any_of HT_.out (by kernel_rfl)) (fun _ _ _ h => h) (Or.inr ⟨by rfl, rfl⟩) ?_ ?_
        rotate_left
        ·simp only [Act.put, lS, lZ, lU, i64_w, i32_w]
         rfl
        refine pure_ (i := 19) (N := some 30) (v := undef) (a' := ?_) (msk 20 3) rfl rfl (any_of HT_.out (by kernel_rfl)) (fun _ _ _ h => h) (Or.inr ⟨by rfl, rfl⟩) ?_ ?_
        rotate_left
        ·simp only [Act.put, lS, lZ, lU, i64_w, i32_w]
         rfl
        refine pure_ (i := 20) (N := some 31) (v := undef) (a' := ?_) (msk 21 2) rfl rfl (any_of HT_.out (by kernel_rfl)) (fun _ _ _ h => h) (Or.inr ⟨by rfl, rfl⟩) ?_ ?_
        rotate_left
        ·simp only [Act.put, lS, lZ, lU, i64_w, i32_w]
         rfl
        refine pure_ (i := 21) (N := some 32) (v := ?_) (a' := ?_) (msk 22 1) rfl rfl (any_of HT_.out (by kernel_rfl)) (fun _ _ _ h => h) (Or.inl ⟨by rfl, ?_⟩) ?_ ?_
        rotate_left
        ·intro w'
         go_simp
         with_reducible rfl
        rotate_left
        ·simp only [Act.put, lS, lZ, lU, i64_w, i32_w]
         rfl
        refine pure_ (i := 22) (N := some 33) (v := ?_) (a' := ?_) (msk 23 0) rfl rfl (any_of HT_.out (by kernel_rfl)) (fun _ _ _ h => h) (Or.inl ⟨by rfl, ?_⟩) ?_ ?_
        rotate_left
        ·intro w'
         go_simp
         with_reducible rfl
        rotate_left
        ·simp only [Act.put, lS, lZ, lU, i64_w, i32_w]
         rfl
        refine done_ (done_of HT_.out (by kernel_rfl)) ?_
        try go_wp2
        go_meet
        case rel => exact ⟨_,(false),(by first|rfl|(simp;done)|(simp [*];done)),H',⟨by have:=HK1.out;first|omega|exact Nat.le_refl _⟩,⟨by repeat (first|(with_reducible first|exact HB.out|apply wA|apply wN_|apply wD)|exact HB.out)⟩⟩
      ·replace c6 := Bool.eq_false_iff.mpr c6
       subst c6
       have H1 : (rickyardref9_RightBig.j1 k1 l0 x3_1 true) = some r := by rw [if_neg (show ¬ (false = true) by decide)] at H; exact H
       clear H
       have H := H1
       clear H1
       have H' := aM H
       clear H
       try go_wp2
       have n0_ := aM (wD HB.out)
       clear HB
       have HB := n0_
       clear n0_
       have p579 : 0 ≤ (x3_1 : Int) := oD (by first | (with_reducible assumption) | assumption)
       have q579 : x3_1 < (l0.length : Int) := oD (by first | (with_reducible assumption) | assumption)
       obtain ⟨ad579, e579, hx579_0, hx579_1⟩ := at_T29 HR0.out x3_1 p579 q579
       have hw579_1 := hx579_1
       have hw579_0 := hx579_0
       cases e579
       replace hx579_0 := (HB.out.cell (wL w _ hx579_0)).trans hx579_0
       replace hx579_1 := (HB.out.cell (wL w _ hx579_1)).trans hx579_1
       replace p579 := eq_true p579
       replace q579 := eq_true q579
       refine start_ (n := 23) (S := fun w' => w'.cell? (ad579.add ((x3_1).toNat * 2)) = some (.int .i64 ((rd_T29 l0 x3_1).f0)) ∧ w'.cell? ⟨(ad579.add ((x3_1).toNat * 2)).block, (ad579.add ((x3_1).toNat * 2)).off + 1, none⟩ = some (.int .i64 ((rd_T29 l0 x3_1).f1))) (ds := []) (msk 0 23) (by kernel_rfl) rfl rfl ⟨((HB.out.cell (wL w _ hw579_0)).trans hw579_0), ((HB.out.cell (wL w _ hw579_1)).trans hw579_1)⟩ (fun hHeld => ?_); refine with_tabW rickyardref9_RightBig.tab4 rickyardref9_RightBig.bits4 (fun HT_ HW_ => ?_)
       generalize wr.drew = w17 at HB hx579_0 hx579_1 hHeld ⊢
       refine pure_ (i := 0) (N := some 11) (v := ?_) (a' := ?_) (msk 1 22) rfl rfl (any_of HT_.out (by kernel_rfl)) (fun _ _ _ h => h) (Or.inl ⟨by rfl, ?_⟩) ?_ ?_
       rotate_left
       ·intro w'
        go_simp
        with_reducible rfl
       rotate_left
       ·simp only [Act.put, lS, lZ, lU, i64_w, i32_w]
        rfl
       refine pure_ (i := 1) (N := some 12) (v := ?_) (a' := ?_) (msk 2 21) rfl rfl (any_of HT_.out (by kernel_rfl)) (fun _ _ _ h => h) (Or.inl ⟨by rfl, ?_⟩) ?_ ?_
       rotate_left
       ·intro w'
        go_simp
        with_reducible rfl
       rotate_left
       ·simp only [Act.put, lS, lZ, lU, i64_w, i32_w]
        rfl
       refine pure_ (i := 2) (N := some 13) (v := ?_) (a' := ?_) (msk 3 20) rfl rfl (any_of HT_.out (by kernel_rfl)) (fun _ _ _ h => h) (Or.inl ⟨by rfl, ?_⟩) ?_ ?_
       rotate_left
       ·intro w'
        go_simp
        with_reducible rfl
       rotate_left
       ·simp only [Act.put, lS, lZ, lU, i64_w, i32_w]
        rfl
       refine take_ (i := 3) (N := some 14) (v := ?_) (a' := ?_) (msk 4 19) rfl rfl (take_ofW HT_.out HW_.out (by kernel_rfl)) (fun _ _ _ h => h) (Or.inl ⟨by rfl, ?_⟩) hHeld ?_ ?_
       rotate_left
       ·rintro w' ⟨s0, s1⟩
        go_simp
        with_reducible rfl
       rotate_left
       ·simp only [Act.put, lS, lZ, lU, i64_w, i32_w]
        rfl
       refine one_ (i := 4) (N := some 15) (msk 5 18) rfl rfl (one_of HT_.out (by kernel_rfl)) (by decide) (fun K hK => ?_)
       refine goes_ Try.func65 (by kernel_rfl) rfl #[.agg #[.int .i64 ((rd_T29 l0 x3_1).f0), .int .i64 ((rd_T29 l0 x3_1).f1)]] (by rfl) rfl rfl (by (try simp only [lM, lC, lN]); first | done | rfl | (simp only [lD, lT]; rfl)) ?_
       with_reducible refine (rickyardref9_MayBig.calls ((rd_T29 l0 x3_1).f0) ((rd_T29 l0 x3_1).f1) false _ A5.out).mono ?_
       rintro e w18 ⟨rfl, hb⟩
       refine ⟨_, rfl, ?_⟩
       have n0_ := aM (wT (by repeat (first | (with_reducible first | exact HB.out | apply wA | apply wN_ | apply wD) | exact HB.out)) hb)
       clear HB
       have HB := n0_
       clear n0_
       (try clear hb)
       (try clear hb2)
       (try clear hk)
       (try clear hi)
       refine hK.out _ _ ⟨((HB.out.cell (wL w _ hw579_0)).trans hw579_0), ((HB.out.cell (wL w _ hw579_1)).trans hw579_1)⟩ (fun hHeld => ?_)
       clear hK K
       refine norm_ (a' := ?_) ?_ ?_
       rotate_left
       ·show Act.put _ (some 15) _ = _
        simp only [Act.put, lS, lZ, lU, i64_w, i32_w]
        rfl
       refine pure_ (i := 5) (N := some 16) (v := ?_) (a' := ?_) (msk 6 17) rfl rfl (any_of HT_.out (by kernel_rfl)) (fun _ _ _ h => h) (Or.inl ⟨by rfl, ?_⟩) ?_ ?_
       rotate_left
       ·intro w'
        go_simp
        with_reducible rfl
       rotate_left
       ·simp only [Act.put, lS, lZ, lU, i64_w, i32_w]
        rfl
       refine pure_ (i := 6) (N := some 17) (v := ?_) (a' := ?_) (msk 7 16) rfl rfl (any_of HT_.out (by kernel_rfl)) (fun _ _ _ h => h) (Or.inl ⟨by rfl, ?_⟩) ?_ ?_
       rotate_left
       ·intro w'
        go_simp
        with_reducible rfl
       rotate_left
       ·simp only [Act.put, lS, lZ, lU, i64_w, i32_w]
        rfl
       refine pure_ (i := 7) (N := some 18) (v := undef) (a' := ?_) (msk 8 15) rfl rfl (any_of HT_.out (by kernel_rfl)) (fun _ _ _ h => h) (Or.inr ⟨by rfl, rfl⟩) ?_ ?_
       rotate_left
       ·simp only [Act.put, lS, lZ, lU, i64_w, i32_w]
        rfl
       refine pure_ (i := 8) (N := some 19) (v := undef) (a' := ?_) (msk 9 14) rfl rfl (any_of HT_.out (by kernel_rfl)) (fun _ _ _ h => h) (Or.inr ⟨by rfl, rfl⟩) ?_ ?_
       rotate_left
       ·simp only [Act.put, lS, lZ, lU, i64_w, i32_w]
        rfl
       refine pure_ (i := 9) (N := some 20) (v := undef) (a' := ?_) (msk 10 13) rfl rfl (any_of HT_.out (by kernel_rfl)) (fun _ _ _ h => h) (Or.inr ⟨by rfl, rfl⟩) ?_ ?_
       rotate_left
       ·simp only [Act.put, lS, lZ, lU, i64_w, i32_w]
        rfl
       refine pure_ (i := 10) (N := some 21) (v := undef) (a' := ?_) (msk 11 12) rfl rfl (any_of HT_.out (by kernel_rfl)) (fun _ _ _ h => h) (Or.inr ⟨by rfl, rfl⟩) ?_ ?_
       rotate_left
       ·simp only [Act.put, lS, lZ, lU, i64_w, i32_w]
        rfl
       refine pure_ (i := 11) (N := some 22) (v := undef) (a' := ?_) (msk 12 11) rfl rfl (any_of HT_.out (by kernel_rfl)) (fun _ _ _ h => h) (Or.inr ⟨by rfl, rfl⟩) ?_ ?_
       rotate_left
       ·simp only [Act.put, lS, lZ, lU, i64_w, i32_w]
        rfl
       refine pure_ (i := 12) (N := some 23) (v := undef) (a' := ?_) (msk 13 10) rfl rfl (any_of HT_.out (by kernel_rfl)) (fun _ _ _ h => h) (Or.inr ⟨by rfl, rfl⟩) ?_ ?_
       rotate_left
       ·simp only [Act.put, lS, lZ, lU, i64_w, i32_w]
        rfl
       refine pure_ (i := 13) (N := some 24) (v := undef) (a' := ?_) (msk 14 9) rfl rfl (any_of HT_.out (by kernel_rfl)) (fun _ _ _ h => h) (Or.inr ⟨by rfl, rfl⟩) ?_ ?_
       rotate_left
       ·simp only [Act.put, lS, lZ, lU, i64_w, i32_w]
        rfl
       refine pure_ (i := 14) (N := some 25) (v := undef) (a' := ?_) (msk 15 8) rfl rfl (any_of HT_.out (by kernel_rfl)) (fun _ _ _ h => h) (Or.inr ⟨by rfl, rfl⟩) ?_ ?_
       rotate_left
       ·simp only [Act.put, lS, lZ, lU, i64_w, i32_w]
        rfl
       refine pure_ (i := 15) (N := some 26) (v := undef) (a' := ?_) (msk 16 7) rfl rfl (any_of HT_.out (by kernel_rfl)) (fun _ _ _ h => h) (Or.inr ⟨by rfl, rfl⟩) ?_ ?_
       rotate_left
       ·simp only [Act.put, lS, lZ, lU, i64_w, i32_w]
        rfl
       refine pure_ (i := 16) (N := some 27) (v := undef) (a' := ?_) (msk 17 6) rfl rfl (any_of HT_.out (by kernel_rfl)) (fun _ _ _ h => h) (Or.inr ⟨by rfl, rfl⟩) ?_ ?_
       rotate_left
       ·simp only [Act.put, lS, lZ, lU, i64_w, i32_w]
        rfl
       refine pure_ (i := 17) (N := some 28) (v := undef) (a' := ?_) (msk 18 5) rfl rfl (any_of HT_.out (by kernel_rfl)) (fun _ _ _ h => h) (Or.inr ⟨by rfl, rfl⟩) ?_ ?_
       rotate_left
       ·simp only [Act.put, lS, lZ, lU, i64_w, i32_w]
        rfl
       refine pure_ (i := 18) (N := some 29) (v := undef) (a' := ?_) (msk 19 4) rfl rfl (any_of HT_.out (by kernel_rfl)) (fun _ _ _ h => h) (Or.inr ⟨by rfl, rfl⟩) ?_ ?_
       rotate_left
       ·simp only [Act.put, lS, lZ, lU, i64_w, i32_w]
        rfl
       refine pure_ (i := 19) (N := some 30) (v := undef) (a' := ?_) (msk 20 3) rfl rfl (any_of HT_.out (by kernel_rfl)) (fun _ _ _ h => h) (Or.inr ⟨by rfl, rfl⟩) ?_ ?_
       rotate_left
       ·simp only [Act.put, lS, lZ, lU, i64_w, i32_w]
        rfl
       refine pure_ (i := 20) (N := some 31) (v := undef) (a' := ?_) (msk 21 2) rfl rfl (any_of HT_.out (by kernel_rfl)) (fun _ _ _ h => h) (Or.inr ⟨by rfl, rfl⟩) ?_ ?_
       rotate_left
       ·simp only [Act.put, lS, lZ, lU, i64_w, i32_w]
        rfl
       refine pure_ (i := 21) (N := some 32) (v := undef) (a' := ?_) (msk 22 1) rfl rfl (any_of HT_.out (by kernel_rfl)) (fun _ _ _ h => h) (Or.inr ⟨by rfl, rfl⟩) ?_ ?_
       rotate_left
       ·simp only [Act.put, lS, lZ, lU, i64_w, i32_w]
        rfl
       refine pure_ (i := 22) (N := some 33) (v := ?_) (a' := ?_) (msk 23 0) rfl rfl (any_of HT_.out (by kernel_rfl)) (fun _ _ _ h => h) (Or.inl ⟨by rfl, ?_⟩) ?_ ?_
       rotate_left
       ·intro w'
        go_simp
        with_reducible rfl
       rotate_left
       ·simp only [Act.put, lS, lZ, lU, i64_w, i32_w]
        rfl
       refine done_ (done_of HT_.out (by kernel_rfl)) ?_
       try go_wp2
       go_meet
       case rel => exact ⟨_,(true),(by first|rfl|(simp;done)|(simp [*];done)),H',⟨by have:=HK1.out;first|omega|exact Nat.le_refl _⟩,⟨by repeat (first|(with_reducible first|exact HB.out|apply wA|apply wN_|apply wD)|exact HB.out)⟩⟩
     ·rw [if_neg c4] at H
      exact absurd H (by simp)
    case rest =>
     clear HC3
     try clear c1
     try clear p2
     try clear c4
     try clear p5
     try clear q5
     try clear hx5
     try clear c6
     try clear c7
     try clear c7b0
     try clear c9
     try clear c10
     try clear hx579_0
     try clear hx579_1
     try clear hx581_0
     try clear hx581_1
     try clear hx582_0
     try clear hx582_1
     try clear p579
     try clear p581
     try clear p582
     try clear q579
     try clear q581
     try clear q582
     obtain ⟨kq, x33_2, rfl, HA, HJ2, HB⟩ := hcut
     cases kq with
     | zero => exact absurd HA.out (by simp [rickyardref9_RightBig.j1])
     | succ kj2 =>
      have H := HA.out
      clear HA
      simp only [rickyardref9_RightBig.j1] at H
      by_cases c19 : x33_2 = true
      ·subst c19
       have H1 : (some false) = some r := by rw [if_pos rfl] at H; exact H
       clear H
       have H := H1
       clear H1
       obtain rfl := Option.some.inj H
       go_wp2
       go_ret
       exact ⟨by first | rfl | (simp [errW_none, errW_some] <;> rfl) | (simp [*, errW_none, errW_some] <;> rfl), by repeat (first | (with_reducible first | exact HB.out | apply wA | apply wN_ | apply wD) | exact HB.out)⟩
      ·replace c19 := Bool.eq_false_iff.mpr c19
       subst c19
       have H1 : (rickyardref9_RightBig.l1 kj2 l0 x3_1 0) = some r := by rw [if_neg (show ¬ (false = true) by decide)] at H; exact H
       clear H
       have H := H1
       clear H1
       have H' := aM H
       clear H
       go_wp2
       go_loopg [4] kj2 (fun kq v4 w' => ∃ (x4_3 : Int), v4 = .int .i64 x4_3 ∧ Aside0 (rickyardref9_RightBig.l1 kq l0 x3_1 x4_3 = some r) ∧ Aside0 (kq ≤ kj2) ∧ Aside0 (Below w.heap.size w w'))
       case atStart => exact ⟨(0),(by first|rfl|(simp;done)|(simp [*];done)),H',⟨Nat.le_refl _⟩,⟨by repeat (first|(with_reducible first|exact HB.out|apply wA|apply wN_|apply wD)|exact HB.out)⟩⟩
       case round =>
        clear H'
        try clear c1
        try clear p2
        try clear c4
        try clear p5
        try clear q5
        try clear hx5
        try clear c6
        try clear c7
        try clear c7b0
        try clear c9
        try clear c10
        try clear c19
        try clear hx579_0
        try clear hx579_1
        try clear hx581_0
        try clear hx581_1
        try clear hx582_0
        try clear hx582_1
        try clear p2
        try clear p5
        try clear p579
        try clear p581
        try clear p582
        try clear q5
        try clear q579
        try clear q581
        try clear q582
        obtain ⟨x4_3, rfl, HA, HK3, HB⟩ := hrel
        cases gk with
        | zero => exact absurd HA.out (by simp [rickyardref9_RightBig.l1])
        | succ k3 =>
         have H := HA.out
         clear HA
         simp only [rickyardref9_RightBig.l1] at H
         by_cases c20 : x4_3 < x3_1
         ·rw [if_pos c20] at H
          have c20b0 : decide (x4_3 < x3_1) = true := decide_eq_true c20
          clear c20
          by_cases c21 : 0 ≤ x4_3
          ·rw [if_pos c21] at H
           have c21b0 : decide (0 ≤ x4_3) = true := decide_eq_true c21
           clear c21
           by_cases c22 : x4_3 < (l0.length : Int)
           ·rw [if_pos c22] at H
            have c22b0 : decide (x4_3 < (l0.length : Int)) = true := decide_eq_true c22
            clear c22
            by_cases c23 : 0 ≤ x3_1
            ·rw [if_pos c23] at H
             have c23b0 : decide (0 ≤ x3_1) = true := decide_eq_true c23
             clear c23
             by_cases c24 : x3_1 < (l0.length : Int)
             ·rw [if_pos c24] at H
              have c24b0 : decide (x3_1 < (l0.length : Int)) = true := decide_eq_true c24
              clear c24
              replace H := Option.bind_eq_some_iff.mp H
              obtain ⟨t586, A250, H⟩ := H
              replace H : (if t586 = true then (some false) else (rickyardref9_RightBig.l1 k3 l0 x3_1 (wrap64 (x4_3 + 1)))) = some r := H
              have A25 := aM A250
              clear A250
              by_cases c26 : t586 = true
              ·subst c26
               have H1 : (some false) = some r := by rw [if_pos rfl] at H; exact H
               clear H
               have H := H1
               clear H1
               obtain rfl := Option.some.inj H
               try go_wp2
               have n0_ := aM (wD HB.out)
               clear HB
               have HB := n0_
               clear n0_
               have p584 : 0 ≤ (x4_3 : Int) := oD (by first | (with_reducible assumption) | assumption)
               have q584 : x4_3 < (l0.length : Int) := oD (by first | (with_reducible assumption) | assumption)
               obtain ⟨ad584, e584, hx584_0, hx584_1⟩ := at_T29 HR0.out x4_3 p584 q584
               have hw584_1 := hx584_1
               have hw584_0 := hx584_0
               cases e584
               replace hx584_0 := (HB.out.cell (wL w _ hx584_0)).trans hx584_0
               replace hx584_1 := (HB.out.cell (wL w _ hx584_1)).trans hx584_1
               replace p584 := eq_true p584
               replace q584 := eq_true q584
               have p585 : 0 ≤ (x3_1 : Int) := oD (by first | (with_reducible assumption) | assumption)
               have q585 : x3_1 < (l0.length : Int) := oD (by first | (with_reducible assumption) | assumption)
               obtain ⟨ad585, e585, hx585_0, hx585_1⟩ := at_T29 HR0.out x3_1 p585 q585
               have hw585_1 := hx585_1
               have hw585_0 := hx585_0
               obtain rfl : ad584 = ad585 := (by injection e585)
               replace hx585_0 := (HB.out.cell (wL w _ hx585_0)).trans hx585_0
               replace hx585_1 := (HB.out.cell (wL w _ hx585_1)).trans hx585_1
               replace p585 := eq_true p585
               replace q585 := eq_true q585
               refine start_ (n := 9) (S := fun w' => w'.cell? (ad584.add ((x4_3).toNat * 2)) = some (.int .i64 ((rd_T29 l0 x4_3).f0)) ∧ w'.cell? ⟨(ad584.add ((x4_3).toNat * 2)).block, (ad584.add ((x4_3).toNat * 2)).off + 1, none⟩ = some (.int .i64 ((rd_T29 l0 x4_3).f1)) ∧ w'.cell? (ad584.add ((x3_1).toNat * 2)) = some (.int .i64 ((rd_T29 l0 x3_1).f0)) ∧ w'.cell? ⟨(ad584.add ((x3_1).toNat * 2)).block, (ad584.add ((x3_1).toNat * 2)).off + 1, none⟩ = some (.int .i64 ((rd_T29 l0 x3_1).f1))) (ds := []) #[false, false, false, false, false, false, false, false, false] (by kernel_rfl) rfl rfl ⟨((HB.out.cell (wL w _ hw584_0)).trans hw584_0), ((HB.out.cell (wL w _ hw584_1)).trans hw584_1), ((HB.out.cell (wL w _ hw585_0)).trans hw585_0), ((HB.out.cell (wL w _ hw585_1)).trans hw585_1)⟩ (fun hHeld => ?_); refine with_tabW rickyardref9_RightBig.tab9 rickyardref9_RightBig.bits9 (fun HT_ HW_ => ?_)
               generalize wr.drew = w27 at HB hx584_0 hx584_1 hx585_0 hx585_1 hHeld ⊢
               refine pure_ (i := 0) (N := some 39) (v := ?_) (a' := ?_) #[true, false, false, false, false, false, false, false, false] rfl rfl (any_of HT_.out (by kernel_rfl)) (fun _ _ _ h => h) (Or.inl ⟨by rfl, ?_⟩) ?_ ?_
               rotate_left
               ·intro w'
                go_simp
                with_reducible rfl
               rotate_left
               ·simp only [Act.put, lS, lZ, lU, i64_w, i32_w]
                rfl
               refine pure_ (i := 1) (N := some 40) (v := ?_) (a' := ?_) #[true, true, false, false, false, false, false, false, false] rfl rfl (any_of HT_.out (by kernel_rfl)) (fun _ _ _ h => h) (Or.inl ⟨by rfl, ?_⟩) ?_ ?_
               rotate_left
               ·intro w'
                go_simp
                with_reducible rfl
               rotate_left
               ·simp only [Act.put, lS, lZ, lU, i64_w, i32_w]
                rfl
               refine pure_ (i := 2) (N := some 41) (v := ?_) (a' := ?_) #[true, true, true, false, false, false, false, false, false] rfl rfl (any_of HT_.out (by kernel_rfl)) (fun _ _ _ h => h) (Or.inl ⟨by rfl, ?_⟩) ?_ ?_
               rotate_left
               ·intro w'
                go_simp
                with_reducible rfl
               rotate_left
               ·simp only [Act.put, lS, lZ, lU, i64_w, i32_w]
                rfl
               refine pure_ (i := 4) (N := some 43) (v := ?_) (a' := ?_) #[true, true, true, false, true, false, false, false, false] rfl rfl (any_of HT_.out (by kernel_rfl)) (fun _ _ _ h => h) (Or.inl ⟨by rfl, ?_⟩) ?_ ?_
               rotate_left
               ·intro w'
                go_simp
                with_reducible rfl
               rotate_left
               ·simp only [Act.put, lS, lZ, lU, i64_w, i32_w]
                rfl
               refine pure_ (i := 5) (N := some 44) (v := ?_) (a' := ?_) #[true, true, true, false, true, true, false, false, false] rfl rfl (any_of HT_.out (by kernel_rfl)) (fun _ _ _ h => h) (Or.inl ⟨by rfl, ?_⟩) ?_ ?_
               rotate_left
               ·intro w'
                go_simp
                with_reducible rfl
               rotate_left
               ·simp only [Act.put, lS, lZ, lU, i64_w, i32_w]
                rfl
               refine pure_ (i := 6) (N := some 45) (v := ?_) (a' := ?_) #[true, true, true, false, true, true, true, false, false] rfl rfl (any_of HT_.out (by kernel_rfl)) (fun _ _ _ h => h) (Or.inl ⟨by rfl, ?_⟩) ?_ ?_
               rotate_left
               ·intro w'
                go_simp
                with_reducible rfl
               rotate_left
               ·simp only [Act.put, lS, lZ, lU, i64_w, i32_w]
                rfl
               refine take_ (i := 3) (N := some 42) (v := ?_) (a' := ?_) #[true, true, true, true, true, true, true, false, false] rfl rfl (take_ofW HT_.out HW_.out (by kernel_rfl)) (fun _ _ _ h => h) (Or.inl ⟨by rfl, ?_⟩) hHeld ?_ ?_
               rotate_left
               ·rintro w' ⟨s0, s1, s2, s3⟩
                go_simp
                with_reducible rfl
               rotate_left
               ·simp only [Act.put, lS, lZ, lU, i64_w, i32_w]
                rfl
               refine take_ (i := 7) (N := some 46) (v := ?_) (a' := ?_) #[true, true, true, true, true, true, true, true, false] rfl rfl (take_ofW HT_.out HW_.out (by kernel_rfl)) (fun _ _ _ h => h) (Or.inl ⟨by rfl, ?_⟩) hHeld ?_ ?_
               rotate_left
               ·rintro w' ⟨s0, s1, s2, s3⟩
                go_simp
                with_reducible rfl
               rotate_left
               ·simp only [Act.put, lS, lZ, lU, i64_w, i32_w]
                rfl
               refine one_ (i := 8) (N := some 47) #[true, true, true, true, true, true, true, true, true] rfl rfl (one_of HT_.out (by kernel_rfl)) (by decide) (fun K hK => ?_)
               refine goes_ Try.func67 (by kernel_rfl) rfl #[.agg #[.int .i64 ((rd_T29 l0 x4_3).f0), .int .i64 ((rd_T29 l0 x4_3).f1)], .agg #[.int .i64 ((rd_T29 l0 x3_1).f0), .int .i64 ((rd_T29 l0 x3_1).f1)]] (by rfl) rfl rfl (by (try simp only [lM, lC, lN]); first | done | rfl | (simp only [lD, lT]; rfl)) ?_
               with_reducible refine (rickyardref9_overBig.calls ((rd_T29 l0 x4_3).f0) ((rd_T29 l0 x4_3).f1) ((rd_T29 l0 x3_1).f0) ((rd_T29 l0 x3_1).f1) true _ A25.out).mono ?_
               rintro e w28 ⟨rfl, hb⟩
               refine ⟨_, rfl, ?_⟩
               have n0_ := aM (wT (by repeat (first | (with_reducible first | exact HB.out | apply wA | apply wN_ | apply wD) | exact HB.out)) hb)
               clear HB
               have HB := n0_
               clear n0_
               (try clear hb)
               (try clear hb2)
               (try clear hk)
               (try clear hi)
               refine hK.out _ _ ⟨((HB.out.cell (wL w _ hw584_0)).trans hw584_0), ((HB.out.cell (wL w _ hw584_1)).trans hw584_1), ((HB.out.cell (wL w _ hw585_0)).trans hw585_0), ((HB.out.cell (wL w _ hw585_1)).trans hw585_1)⟩ (fun hHeld => ?_)
               clear hK K
               refine norm_ (a' := ?_) ?_ ?_
               rotate_left
               ·show Act.put _ (some 47) _ = _
                simp only [Act.put, lS, lZ, lU, i64_w, i32_w]
                rfl
               refine done_ (done_of HT_.out (by kernel_rfl)) ?_
               try go_wp2
               go_ret
               exact ⟨by first | rfl | (simp [errW_none, errW_some] <;> rfl) | (simp [*, errW_none, errW_some] <;> rfl), by repeat (first | (with_reducible first | exact HB.out | apply wA | apply wN_ | apply wD) | exact HB.out)⟩
              ·replace c26 := Bool.eq_false_iff.mpr c26
               subst c26
               have H1 : (rickyardref9_RightBig.l1 k3 l0 x3_1 (wrap64 (x4_3 + 1))) = some r := by rw [if_neg (show ¬ (false = true) by decide)] at H; exact H
               clear H
               have H := H1
               clear H1
               have H' := aM H
               clear H
               try go_wp2
               have n0_ := aM (wD HB.out)
               clear HB
               have HB := n0_
               clear n0_
               have p584 : 0 ≤ (x4_3 : Int) := oD (by first | (with_reducible assumption) | assumption)
               have q584 : x4_3 < (l0.length : Int) := oD (by first | (with_reducible assumption) | assumption)
               obtain ⟨ad584, e584, hx584_0, hx584_1⟩ := at_T29 HR0.out x4_3 p584 q584
               have hw584_1 := hx584_1
               have hw584_0 := hx584_0
               cases e584
               replace hx584_0 := (HB.out.cell (wL w _ hx584_0)).trans hx584_0
               replace hx584_1 := (HB.out.cell (wL w _ hx584_1)).trans hx584_1
               replace p584 := eq_true p584
               replace q584 := eq_true q584
               have p585 : 0 ≤ (x3_1 : Int) := oD (by first | (with_reducible assumption) | assumption)
               have q585 : x3_1 < (l0.length : Int) := oD (by first | (with_reducible assumption) | assumption)
               obtain ⟨ad585, e585, hx585_0, hx585_1⟩ := at_T29 HR0.out x3_1 p585 q585
               have hw585_1 := hx585_1
               have hw585_0 := hx585_0
               obtain rfl : ad584 = ad585 := (by injection e585)
               replace hx585_0 := (HB.out.cell (wL w _ hx585_0)).trans hx585_0
               replace hx585_1 := (HB.out.cell (wL w _ hx585_1)).trans hx585_1
               replace p585 := eq_true p585
               replace q585 := eq_true q585
               refine start_ (n := 9) (S := fun w' => w'.cell? (ad584.add ((x4_3).toNat * 2)) = some (.int .i64 ((rd_T29 l0 x4_3).f0)) ∧ w'.cell? ⟨(ad584.add ((x4_3).toNat * 2)).block, (ad584.add ((x4_3).toNat * 2)).off + 1, none⟩ = some (.int .i64 ((rd_T29 l0 x4_3).f1)) ∧ w'.cell? (ad584.add ((x3_1).toNat * 2)) = some (.int .i64 ((rd_T29 l0 x3_1).f0)) ∧ w'.cell? ⟨(ad584.add ((x3_1).toNat * 2)).block, (ad584.add ((x3_1).toNat * 2)).off + 1, none⟩ = some (.int .i64 ((rd_T29 l0 x3_1).f1))) (ds := []) #[false, false, false, false, false, false, false, false, false] (by kernel_rfl) rfl rfl ⟨((HB.out.cell (wL w _ hw584_0)).trans hw584_0), ((HB.out.cell (wL w _ hw584_1)).trans hw584_1), ((HB.out.cell (wL w _ hw585_0)).trans hw585_0), ((HB.out.cell (wL w _ hw585_1)).trans hw585_1)⟩ (fun hHeld => ?_); refine with_tabW rickyardref9_RightBig.tab9 rickyardref9_RightBig.bits9 (fun HT_ HW_ => ?_)
               generalize wr.drew = w29 at HB hx584_0 hx584_1 hx585_0 hx585_1 hHeld ⊢
               refine pure_ (i := 0) (N := some 39) (v := ?_) (a' := ?_) #[true, false, false, false, false, false, false, false, false] rfl rfl (any_of HT_.out (by kernel_rfl)) (fun _ _ _ h => h) (Or.inl ⟨by rfl, ?_⟩) ?_ ?_
               rotate_left
               ·intro w'
                go_simp
                with_reducible rfl
               rotate_left
               ·simp only [Act.put, lS, lZ, lU, i64_w, i32_w]
                rfl
               refine pure_ (i := 1) (N := some 40) (v := ?_) (a' := ?_) #[true, true, false, false, false, false, false, false, false] rfl rfl (any_of HT_.out (by kernel_rfl)) (fun _ _ _ h => h) (Or.inl ⟨by rfl, ?_⟩) ?_ ?_
               rotate_left
               ·intro w'
                go_simp
                with_reducible rfl
               rotate_left
               ·simp only [Act.put, lS, lZ, lU, i64_w, i32_w]
                rfl
               refine pure_ (i := 2) (N := some 41) (v := ?_) (a' := ?_) #[true, true, true, false, false, false, false, false, false] rfl rfl (any_of HT_.out (by kernel_rfl)) (fun _ _ _ h => h) (Or.inl ⟨by rfl, ?_⟩) ?_ ?_
               rotate_left
               ·intro w'
                go_simp
                with_reducible rfl
               rotate_left
               ·simp only [Act.put, lS, lZ, lU, i64_w, i32_w]
                rfl
               refine pure_ (i := 4) (N := some 43) (v := ?_) (a' := ?_) #[true, true, true, false, true, false, false, false, false] rfl rfl (any_of HT_.out (by kernel_rfl)) (fun _ _ _ h => h) (Or.inl ⟨by rfl, ?_⟩) ?_ ?_
               rotate_left
               ·intro w'
                go_simp
                with_reducible rfl
               rotate_left
               ·simp only [Act.put, lS, lZ, lU, i64_w, i32_w]
                rfl
               refine pure_ (i := 5) (N := some 44) (v := ?_) (a' := ?_) #[true, true, true, false, true, true, false, false, false] rfl rfl (any_of HT_.out (by kernel_rfl)) (fun _ _ _ h => h) (Or.inl ⟨by rfl, ?_⟩) ?_ ?_
               rotate_left
               ·intro w'
                go_simp
                with_reducible rfl
               rotate_left
               ·simp only [Act.put, lS, lZ, lU, i64_w, i32_w]
                rfl
               refine pure_ (i := 6) (N := some 45) (v := ?_) (a' := ?_) #[true, true, true, false, true, true, true, false, false] rfl rfl (any_of HT_.out (by kernel_rfl)) (fun _ _ _ h => h) (Or.inl ⟨by rfl, ?_⟩) ?_ ?_
               rotate_left
               ·intro w'
                go_simp
                with_reducible rfl
               rotate_left
               ·simp only [Act.put, lS, lZ, lU, i64_w, i32_w]
                rfl
               refine take_ (i := 3) (N := some 42) (v := ?_) (a' := ?_) #[true, true, true, true, true, true, true, false, false] rfl rfl (take_ofW HT_.out HW_.out (by kernel_rfl)) (fun _ _ _ h => h) (Or.inl ⟨by rfl, ?_⟩) hHeld ?_ ?_
               rotate_left
               ·rintro w' ⟨s0, s1, s2, s3⟩
                go_simp
                with_reducible rfl
               rotate_left
               ·simp only [Act.put, lS, lZ, lU, i64_w, i32_w]
                rfl
               refine take_ (i := 7) (N := some 46) (v := ?_) (a' := ?_) #[true, true, true, true, true, true, true, true, false] rfl rfl (take_ofW HT_.out HW_.out (by kernel_rfl)) (fun _ _ _ h => h) (Or.inl ⟨by rfl, ?_⟩) hHeld ?_ ?_
               rotate_left
               ·rintro w' ⟨s0, s1, s2, s3⟩
                go_simp
                with_reducible rfl
               rotate_left
               ·simp only [Act.put, lS, lZ, lU, i64_w, i32_w]
                rfl
               refine one_ (i := 8) (N := some 47) #[true, true, true, true, true, true, true, true, true] rfl rfl (one_of HT_.out (by kernel_rfl)) (by decide) (fun K hK => ?_)
               refine goes_ Try.func67 (by kernel_rfl) rfl #[.agg #[.int .i64 ((rd_T29 l0 x4_3).f0), .int .i64 ((rd_T29 l0 x4_3).f1)], .agg #[.int .i64 ((rd_T29 l0 x3_1).f0), .int .i64 ((rd_T29 l0 x3_1).f1)]] (by rfl) rfl rfl (by (try simp only [lM, lC, lN]); first | done | rfl | (simp only [lD, lT]; rfl)) ?_
               with_reducible refine (rickyardref9_overBig.calls ((rd_T29 l0 x4_3).f0) ((rd_T29 l0 x4_3).f1) ((rd_T29 l0 x3_1).f0) ((rd_T29 l0 x3_1).f1) false _ A25.out).mono ?_
               rintro e w30 ⟨rfl, hb⟩
               refine ⟨_, rfl, ?_⟩
               have n0_ := aM (wT (by repeat (first | (with_reducible first | exact HB.out | apply wA | apply wN_ | apply wD) | exact HB.out)) hb)
               clear HB
               have HB := n0_
               clear n0_
               (try clear hb)
               (try clear hb2)
               (try clear hk)
               (try clear hi)
               refine hK.out _ _ ⟨((HB.out.cell (wL w _ hw584_0)).trans hw584_0), ((HB.out.cell (wL w _ hw584_1)).trans hw584_1), ((HB.out.cell (wL w _ hw585_0)).trans hw585_0), ((HB.out.cell (wL w _ hw585_1)).trans hw585_1)⟩ (fun hHeld => ?_)
               clear hK K
               refine norm_ (a' := ?_) ?_ ?_
               rotate_left
               ·show Act.put _ (some 47) _ = _
                simp only [Act.put, lS, lZ, lU, i64_w, i32_w]
                rfl
               refine done_ (done_of HT_.out (by kernel_rfl)) ?_
               try go_wp2
               go_roundg k3
               case measure => have:=HK1.out;have:=HJ2.out;have:=HK3.out;omega
               case rel => exact ⟨(wrap64 (x4_3 + 1)),(by first|rfl|(simp;done)|(simp [*];done)),H',⟨by have:=HK1.out;have:=HJ2.out;have:=HK3.out;omega⟩,⟨by repeat (first|(with_reducible first|exact HB.out|apply wA|apply wN_|apply wD)|exact HB.out)⟩⟩
             ·rw [if_neg c24] at H
              exact absurd H (by simp)
            ·rw [if_neg c23] at H
             exact absurd H (by simp)
           ·rw [if_neg c22] at H
            exact absurd H (by simp)
          ·rw [if_neg c21] at H
           exact absurd H (by simp)
         ·rw [if_neg c20] at H
          have c20b0 : decide (x4_3 < x3_1) = false := decide_eq_false c20
          clear c20
          have H' := aM H
          clear H
          go_wp2
          go_roundg k3
          case measure => have:=HK1.out;have:=HJ2.out;have:=HK3.out;omega
          case rel => exact ⟨(wrap64 (x3_1 + 1)),(by first|rfl|(simp;done)|(simp [*];done)),H',⟨by have:=HK1.out;have:=HJ2.out;have:=HK3.out;omega⟩,⟨by repeat (first|(with_reducible first|exact HB.out|apply wA|apply wN_|apply wD)|exact HB.out)⟩⟩
   ·rw [if_neg c2] at H
    have c2b0 : decide (x3_1 < (l0.length : Int)) = false := decide_eq_false c2
    clear c2
    obtain rfl := Option.some.inj H
    go_wp2
    go_ret
    exact ⟨by first | rfl | (simp [errW_none, errW_some] <;> rfl) | (simp [*, errW_none, errW_some] <;> rfl), by repeat (first | (with_reducible first | exact HB.out | apply wA | apply wN_ | apply wD) | exact HB.out)⟩

end Go.Proofs.Ytflhbakjlbmfbaa.Pr
