-- Printed by a program of this session (wip/tools/myprint.py) that runs the kit's print with contracts of this session's own.
import Derived.Test.YtflhbakjlbmfbaaPrx0
import Derived.Test.YtflhbakjlbmfbaaWTab
import Derived.Test.YtflhbakjlbmfbaaShort
import Derived.Test.YtflhbakjlbmfbaaScope
import Derived.Test.YtflhbakjlbmfbaaPrx3
namespace Go.Proofs.Ytflhbakjlbmfbaa.Pr
open Go.RowKit Go.Proofs.YtflhbakjlbmfbaaW.PrintWords Go.Proofs.YtflhbakjlbmfbaaW.PrintLast Go.Proofs.YtflhbakjlbmfbaaW.PrintMore
attribute [local go_sem] max2_int min2_int max_two min_two max_three min_three max_four min_four   -- for this text's walks alone
set_option linter.unusedVariables false
set_option linter.unusedSimpArgs false

/-! ### rickyardref9_TakeBig: function 68 -/
def rickyardref9_TakeBig.l0 : Nat → List (S29) → Int → Int → Option ((List (S29)) × Int × Int)
 | 0, _, _, _ => none
 | k + 1, x0, x1, x7 => if x7 < (x0.length : Int) then (if 0 ≤ x7 then (if ((rd_T29 x0 x7).f1) = x1 then ((some (([] : List (S29)) : List (S29))).bind fun y588 => (if x7 ≤ (x0.length : Int) then ((some (x0.take (x7 : Int).toNat : List (S29))).bind fun y591 => (if y588.length + y591.length < 8796093022208 then ((some (y588 ++ y591 : List (S29))).bind fun y595 => (if 0 ≤ (wrap64 (x7 + 1)) then (if (wrap64 (x7 + 1)) ≤ (x0.length : Int) then ((some (x0.drop ((wrap64 (x7 + 1)) : Int).toNat : List (S29))).bind fun y598 => (if y595.length + y598.length < 8796093022208 then (some ((y595 ++ y598), (rd_T29 x0 x7).f0, 0)) else (none))) else (none)) else (none))) else (none))) else (none))) else (rickyardref9_TakeBig.l0 k x0 x1 (wrap64 (x7 + 1)))) else (none)) else (some (([] : List (S29)), 0, 2))
def rickyardref9_TakeBig.f (k : Nat) (l0 : List (S29)) (a1 : Int) : Option ((List (S29)) × Int × Int) := rickyardref9_TakeBig.l0 k l0 a1 0
theorem rickyardref9_TakeBig.mono_l : ∀ k, (∀ y0 y1 y2, LeO (rickyardref9_TakeBig.l0 k y0 y1 y2) (rickyardref9_TakeBig.l0 (k + 1) y0 y1 y2))
 | 0 => fun _ _ _ r h => by simp [rickyardref9_TakeBig.l0] at h
 | k + 1 => by
  have ih0 := rickyardref9_TakeBig.mono_l k
  ·intro y0 y1 y2
   unfold rickyardref9_TakeBig.l0
   repeat' first
   | (with_reducible exact ih0 _ _ _)
   | (with_reducible exact LeO.refl _)
   | (with_reducible exact LeO.none _)
   | (with_reducible refine LeO.ite ?_ ?_)
   | (with_reducible refine LeO.bind ?_ (fun _ => ?_))
   | exact ih0 _ _ _
   | exact LeO.none _
   | refine LeO.ite ?_ ?_
   | refine LeO.bind ?_ (fun _ => ?_)
theorem rickyardref9_TakeBig.mono : ∀ a0 a1 k, LeO (rickyardref9_TakeBig.f k a0 a1) (rickyardref9_TakeBig.f (k + 1) a0 a1) := by
 intro a0 a1 k
 have ih0 := rickyardref9_TakeBig.mono_l k
 unfold rickyardref9_TakeBig.f
 repeat' first
   | (with_reducible exact ih0 _ _ _)
   | (with_reducible exact LeO.refl _)
   | (with_reducible exact LeO.none _)
   | (with_reducible refine LeO.ite ?_ ?_)
   | (with_reducible refine LeO.bind ?_ (fun _ => ?_))
   | exact ih0 _ _ _
   | exact LeO.none _
   | refine LeO.ite ?_ ?_
   | refine LeO.bind ?_ (fun _ => ?_)
def rickyardref9_TakeBig.T5 : Bool × List (List Nat × List Nat) := (true, [([], []), ([], []), ([], []), ([1, 2], [1, 2]), ([0, 3], [0, 3]), ([], []), ([], []), ([6], [6]), ([5, 7], [5, 7]), ([4, 8, 4], [4, 8]), ([], []), ([], []), ([10, 11], [10, 11]), ([12], [12]), ([13], [13]), ([9, 9, 0, 1, 2, 3, 4, 5, 6, 7, 8, 9], [9]), ([14, 15, 0, 1, 2, 3, 4, 5, 6, 7, 8, 9, 10, 11, 12, 13, 14, 15], [14]), ([16, 0, 1, 2, 3, 4, 5, 6, 7, 8, 9, 10, 11, 12, 13, 14, 15, 16], [])])
def rickyardref9_TakeBig.B5 : List Nat := [0, 0, 0, 6, 15, 0, 0, 64, 224, 511, 0, 0, 3072, 7168, 15360, 1023, 65535, 131071]
theorem rickyardref9_TakeBig.tab5 : rtab .any (opsOf Try.f68 5) = rickyardref9_TakeBig.T5 := by kernel_rfl
theorem rickyardref9_TakeBig.bits5 : waitsOk rickyardref9_TakeBig.T5.2 rickyardref9_TakeBig.B5 = true := by kernel_rfl
set_option maxHeartbeats 8000000 in
set_option maxRecDepth 100000 in
theorem rickyardref9_TakeBig.calls (k : Nat) (A0 : Option Addr) (c0 : Nat) (l0 : List (S29)) (a1 : Int) (r1 : List (S29)) (r2 : Int) (r3 : Int) (w : World) (hr0 : Kd.C k29 w A0 l0.length l0) (hc0 : l0.length ≤ c0) (h : rickyardref9_TakeBig.f k l0 a1 = some (r1, r2, r3)) :
  Calls Try.prog 68 #[.slice A0 l0.length c0, .int .i64 a1] w fun e w' => ∃ v0_ : Value, e = .returned (.tuple #[v0_, .int .i64 r2, .int .i64 r3]) ∧ Kd.R k29 29 w' w.heap.size (fun _ => True) v0_ r1 ∧ Below w.heap.size w w' := by
 have HR0 := aM hr0
 have HC0 := aM hc0
 clear hr0 hc0
 have HB := aM (Below.refl w.heap.size w)
 have H : (rickyardref9_TakeBig.l0 k l0 a1 0) = some (r1, r2, r3) := h
 clear h
 have H' := aM H
 clear H
 go_enter Try.func68, Try.ntmps68
 go_wp2
 go_loopg [7] k (fun kq v7 w' => ∃ (x7_1 : Int), v7 = .int .i64 x7_1 ∧ Aside0 (rickyardref9_TakeBig.l0 kq l0 a1 x7_1 = some (r1, r2, r3)) ∧ Aside0 (kq ≤ k) ∧ Aside0 (Below w.heap.size w w'))
 case atStart => exact ⟨(0),(by first|rfl|(simp;done)|(simp [*];done)),H',⟨Nat.le_refl _⟩,⟨by repeat (first|(with_reducible first|exact HB.out|apply wA|apply wN_|apply wD)|exact HB.out)⟩⟩
 case round =>
  clear H'
  try clear p2
  obtain ⟨x7_1, rfl, HA, HK1, HB⟩ := hrel
  cases gk with
  | zero => exact absurd HA.out (by simp [rickyardref9_TakeBig.l0])
  | succ k1 =>
   have H := HA.out
   clear HA
   simp only [rickyardref9_TakeBig.l0] at H
   by_cases c3 : x7_1 < (l0.length : Int)
   ·rw [if_pos c3] at H
    have c3b0 : decide (x7_1 < (l0.length : Int)) = true := decide_eq_true c3
    clear c3
    by_cases c4 : 0 ≤ x7_1
    ·rw [if_pos c4] at H
     have c4b0 : decide (0 ≤ x7_1) = true := decide_eq_true c4
     clear c4
     by_cases c5 : ((rd_T29 l0 x7_1).f1) = a1
     ·rw [if_pos c5] at H
      have c5b0 : (((rd_T29 l0 x7_1).f1) == a1) = true := beq_iff_eq.mpr c5
      have c5b1 : (((rd_T29 l0 x7_1).f1) != a1) = false := bne_eq_false_iff_eq.mpr c5
      clear c5
      obtain ⟨y588, hy588⟩ : ∃ y_ : List (S29), y_ = (([] : List (S29))) := ⟨_, rfl⟩
      replace H : (if x7_1 ≤ (l0.length : Int) then ((some (l0.take (x7_1 : Int).toNat : List (S29))).bind fun y591 => (if y588.length + y591.length < 8796093022208 then ((some (y588 ++ y591 : List (S29))).bind fun y595 => (if 0 ≤ (wrap64 (x7_1 + 1)) then (if (wrap64 (x7_1 + 1)) ≤ (l0.length : Int) then ((some (l0.drop ((wrap64 (x7_1 + 1)) : Int).toNat : List (S29))).bind fun y598 => (if y595.length + y598.length < 8796093022208 then (some ((y595 ++ y598), (rd_T29 l0 x7_1).f0, 0)) else (none))) else (none)) else (none))) else (none))) else (none)) = some (r1, r2, r3) := by first | (rw [hy588]; with_reducible exact H) | (have H2_ := (Option.bind_some _ _).symm.trans H; rw [hy588]; with_reducible exact H2_) | (have H2_ := (Option.bind_some _ _).symm.trans H; with_reducible exact H2_) | with_reducible exact H | (rw [hy588]; exact H) | exact H
      have Ny588 := aM hy588
      clear hy588
      have c6b0 := eq_true (oD (by first | (with_reducible assumption) | assumption) : 0 ≤ x7_1)
      by_cases c7 : x7_1 ≤ (l0.length : Int)
      ·rw [if_pos c7] at H
       have c7b0 := eq_true c7
       have c7b1 : decide (x7_1 ≤ (l0.length : Int)) = true := decide_eq_true c7
       clear c7
       obtain ⟨y591, hy591⟩ : ∃ y_ : List (S29), y_ = (l0.take (x7_1 : Int).toNat) := ⟨_, rfl⟩
       replace H : (if y588.length + y591.length < 8796093022208 then ((some (y588 ++ y591 : List (S29))).bind fun y595 => (if 0 ≤ (wrap64 (x7_1 + 1)) then (if (wrap64 (x7_1 + 1)) ≤ (l0.length : Int) then ((some (l0.drop ((wrap64 (x7_1 + 1)) : Int).toNat : List (S29))).bind fun y598 => (if y595.length + y598.length < 8796093022208 then (some ((y595 ++ y598), (rd_T29 l0 x7_1).f0, 0)) else (none))) else (none)) else (none))) else (none)) = some (r1, r2, r3) := by first | (rw [hy591]; with_reducible exact H) | (have H2_ := (Option.bind_some _ _).symm.trans H; rw [hy591]; with_reducible exact H2_) | (have H2_ := (Option.bind_some _ _).symm.trans H; with_reducible exact H2_) | with_reducible exact H | (rw [hy591]; exact H) | exact H
       have Ny591 := aM hy591
       clear hy591
       by_cases c8 : y588.length + y591.length < 8796093022208
       ·rw [if_pos c8] at H
        have LMc8 := aM c8
        clear c8
        obtain ⟨y595, hy595⟩ : ∃ y_ : List (S29), y_ = (y588 ++ y591) := ⟨_, rfl⟩
        replace H : (if 0 ≤ (wrap64 (x7_1 + 1)) then (if (wrap64 (x7_1 + 1)) ≤ (l0.length : Int) then ((some (l0.drop ((wrap64 (x7_1 + 1)) : Int).toNat : List (S29))).bind fun y598 => (if y595.length + y598.length < 8796093022208 then (some ((y595 ++ y598), (rd_T29 l0 x7_1).f0, 0)) else (none))) else (none)) else (none)) = some (r1, r2, r3) := by first | (rw [hy595]; with_reducible exact H) | (have H2_ := (Option.bind_some _ _).symm.trans H; rw [hy595]; with_reducible exact H2_) | (have H2_ := (Option.bind_some _ _).symm.trans H; with_reducible exact H2_) | with_reducible exact H | (rw [hy595]; exact H) | exact H
        have Ny595 := aM hy595
        clear hy595
        obtain ⟨ji9, hji9⟩ : ∃ j_ : Int, (wrap64 (x7_1 + 1)) = j_ := ⟨_, rfl⟩
        replace H : (if 0 ≤ (ji9) then (if (ji9) ≤ (l0.length : Int) then ((some (l0.drop ((ji9) : Int).toNat : List (S29))).bind fun y598 => (if y595.length + y598.length < 8796093022208 then (some ((y595 ++ y598), (rd_T29 l0 x7_1).f0, 0)) else (none))) else (none)) else (none)) = some (r1, r2, r3) := by first | (rw [hji9] at H; exact H) | (simp only [hji9] at H ⊢; exact H)
        have hji9w : (IntKind.i64.wrap (x7_1 + 1)) = ji9 := (i64_w _).trans hji9
        by_cases c10 : 0 ≤ (ji9)
        ·rw [if_pos c10] at H
         have c10b0 := eq_true c10
         have c10b1 : decide (0 ≤ (ji9)) = true := decide_eq_true c10
         clear c10
         by_cases c11 : (ji9) ≤ (l0.length : Int)
         ·rw [if_pos c11] at H
          have c11b0 := eq_true c11
          have c11b1 : decide ((ji9) ≤ (l0.length : Int)) = true := decide_eq_true c11
          clear c11
          obtain ⟨y598, hy598⟩ : ∃ y_ : List (S29), y_ = (l0.drop ((ji9) : Int).toNat) := ⟨_, rfl⟩
          replace H : (if y595.length + y598.length < 8796093022208 then (some ((y595 ++ y598), (rd_T29 l0 x7_1).f0, 0)) else (none)) = some (r1, r2, r3) := by first | (rw [hy598]; with_reducible exact H) | (have H2_ := (Option.bind_some _ _).symm.trans H; rw [hy598]; with_reducible exact H2_) | (have H2_ := (Option.bind_some _ _).symm.trans H; with_reducible exact H2_) | with_reducible exact H | (rw [hy598]; exact H) | exact H
          have Ny598 := aM hy598
          clear hy598
          by_cases c12 : y595.length + y598.length < 8796093022208
          ·rw [if_pos c12] at H
           have LMc12 := aM c12
           clear c12
           obtain ⟨y602, hy602⟩ : ∃ y_ : List (S29), y_ = (y595 ++ y598) := ⟨_, rfl⟩
           replace H : (some (y602, (rd_T29 l0 x7_1).f0, 0)) = some (r1, r2, r3) := by first | (rw [hy602]; with_reducible exact H) | (have H2_ := (Option.bind_some _ _).symm.trans H; rw [hy602]; with_reducible exact H2_) | (have H2_ := (Option.bind_some _ _).symm.trans H; with_reducible exact H2_) | with_reducible exact H | (rw [hy602]; exact H) | exact H
           have Ny602 := aM hy602
           clear hy602
           simp only [Option.some.injEq, Prod.mk.injEq] at H
           obtain ⟨rfl, rfl, rfl⟩ := H
           have p587 : 0 ≤ (x7_1 : Int) := oD (by first | (with_reducible assumption) | assumption)
           have q587 : x7_1 < (l0.length : Int) := oD (by first | (with_reducible assumption) | assumption)
           obtain ⟨ad587, e587, hx587_0, hx587_1⟩ := at_T29 HR0.out x7_1 p587 q587
           cases e587
           replace hx587_0 := (HB.out.cell (wL w _ hx587_0)).trans hx587_0
           replace hx587_1 := (HB.out.cell (wL w _ hx587_1)).trans hx587_1
           replace p587 := eq_true p587
           replace q587 := eq_true q587
           try go_wp2
           have n0_ := aM (wD HB.out)
           clear HB
           have HB := n0_
           clear n0_
           have q14 : (x7_1 : Int) ≤ ((l0.length : Int) : Int) := oD (by first | (with_reducible assumption) | assumption)
           obtain ⟨i014, hi014, _, hsz14, _⟩ := info_parts info29
           have hroom14 : l0.length ≤ c0 := HC0.out
           have hC14 : Kd.C k29 _ (some ad587) l0.length l0 := HR0.out
           have hcut14 := cut_to (P := Try.prog) 23 29 .i64 Try.underlying23 hi014 (some ad587) l0.length c0 x7_1 (oD (by first | (with_reducible assumption) | assumption)) q14 hroom14
           have hr14 := Kd.C_take (m := (x7_1 : Int).toNat) hC14 (by omega)
           have hy14 : y591.length = (x7_1 : Int).toNat := (by rw [Ny591.out, lT]; omega)
           rw [← Ny591.out] at hr14
           rw [← hy14] at hcut14
           have HR594 := aM hr14
           have HC594 := aM (show y591.length ≤ c0 from by omega)
           clear hr14 hC14 hroom14 hi014 hsz14
           have KY14 := aM hy14
           clear hy14
           replace q14 := eq_true q14
           have q15 : ((ji9) : Int) ≤ ((l0.length : Int) : Int) := oD (by first | (with_reducible assumption) | assumption)
           obtain ⟨i015, hi015, _, hsz15, _⟩ := info_parts info29
           have hroom15 : l0.length ≤ c0 := HC0.out
           have hC15 : Kd.C k29 _ (some ad587) l0.length l0 := HR0.out
           have q015 : (0 : Int) ≤ ((ji9) : Int) := oD (by first | (with_reducible assumption) | assumption)
           have hcut15 := cut_from (P := Try.prog) 23 29 .i64 Try.underlying23 hi015 2 hsz15 (some ad587) l0.length c0 (ji9) q015 q15
           have hr15 := Kd.C_drop (m := ((ji9) : Int).toNat) (c := c0) hC15 (by omega) hroom15
           obtain ⟨A15, hA15⟩ : ∃ A1, A1 = (if c0 = ((ji9) : Int).toNat then (some ad587) else ((some ad587) : Option Addr).map (·.add (((ji9) : Int).toNat * 2))) := ⟨_, rfl⟩
           obtain ⟨c15, hc15⟩ : ∃ c1, c1 = c0 - ((ji9) : Int).toNat := ⟨_, rfl⟩
           have hy15 : y598.length = l0.length - ((ji9) : Int).toNat := (by rw [Ny598.out, lD] <;> omega)
           rw [show (l0).drop ((ji9) : Int).toNat = y598 from Ny598.out.symm] at hr15
           replace hr15 : Kd.C k29 _ A15 y598.length y598 := (by rw [hA15]; exact hr15)
           rw [← hy15, ← hA15, ← hc15] at hcut15
           have HR601 := aM hr15
           have HC601 := aM (show y598.length ≤ c15 from by rw [hy15, hc15]; exact Nat.sub_le_sub_right hroom15 _)
           clear hr15 hC15 hroom15 hi015 hsz15 hc15
           have KY15 := aM hy15
           have KA15 := aM hA15
           clear hy15 hA15
           replace q15 := eq_true q15
           have p605 : 0 ≤ (x7_1 : Int) := oD (by first | (with_reducible assumption) | assumption)
           have q605 : x7_1 < (l0.length : Int) := oD (by first | (with_reducible assumption) | assumption)
           obtain ⟨ad605, e605, hx605_0, hx605_1⟩ := at_T29 HR0.out x7_1 p605 q605
           have hw605_1 := hx605_1
           have hw605_0 := hx605_0
           obtain rfl : ad587 = ad605 := (by injection e605)
           replace hx605_0 := (HB.out.cell (wL w _ hx605_0)).trans hx605_0
           replace hx605_1 := (HB.out.cell (wL w _ hx605_1)).trans hx605_1
           replace p605 := eq_true p605
           replace q605 := eq_true q605
           refine start_ (n := 18) (S := fun w' => w'.cell? (ad587.add ((x7_1).toNat * 2)) = some (.int .i64 ((rd_T29 l0 x7_1).f0)) ∧ w'.cell? ⟨(ad587.add ((x7_1).toNat * 2)).block, (ad587.add ((x7_1).toNat * 2)).off + 1, none⟩ = some (.int .i64 ((rd_T29 l0 x7_1).f1))) (ds := []) (msk 0 18) (by kernel_rfl) rfl rfl ⟨((HB.out.cell (wL w _ hw605_0)).trans hw605_0), ((HB.out.cell (wL w _ hw605_1)).trans hw605_1)⟩ (fun hHeld => ?_); refine with_tabW rickyardref9_TakeBig.tab5 rickyardref9_TakeBig.bits5 (fun HT_ HW_ => ?_)
           generalize wr.drew = w13 at HB HR594 HR601 hx605_0 hx605_1 hHeld ⊢
           refine pure_ (i := 1) (N := some 22) (v := ?_) (a' := ?_) #[ff,tt,ff,ff,ff,ff,ff,ff,ff,ff,ff,ff,ff,ff,ff,ff,ff,ff] rfl rfl (any_of HT_.out (by kernel_rfl)) (fun _ _ _ h => h) (Or.inl ⟨by rfl, ?_⟩) ?_ ?_
           rotate_left
           ·intro w'
            go_simp
            with_reducible rfl
           rotate_left
           ·simp only [Act.put, lS, lZ, lU, i64_w, i32_w]
            rfl
           refine pure_ (i := 2) (N := some 23) (v := ?_) (a' := ?_) #[ff,tt,tt,ff,ff,ff,ff,ff,ff,ff,ff,ff,ff,ff,ff,ff,ff,ff] rfl rfl (any_of HT_.out (by kernel_rfl)) (fun _ _ _ h => h) (Or.inl ⟨by rfl, ?_⟩) ?_ ?_
           rotate_left
           ·intro w'
            go_simp
            with_reducible rfl
           rotate_left
           ·simp only [Act.put, lS, lZ, lU, i64_w, i32_w]
            rfl
           refine pure_ (i := 3) (N := some 24) (v := ?_) (a' := ?_) #[ff,tt,tt,tt,ff,ff,ff,ff,ff,ff,ff,ff,ff,ff,ff,ff,ff,ff] rfl rfl (any_of HT_.out (by kernel_rfl)) (fun _ _ _ h => h) (Or.inl ⟨by rfl, ?_⟩) ?_ ?_
           rotate_left
           ·intro w'
            go_simp
            with_reducible rfl
           rotate_left
           ·simp only [Act.put, lS, lZ, lU, i64_w, i32_w]
            rfl
           refine pure_ (i := 5) (N := some 26) (v := ?_) (a' := ?_) #[ff,tt,tt,tt,ff,tt,ff,ff,ff,ff,ff,ff,ff,ff,ff,ff,ff,ff] rfl rfl (any_of HT_.out (by kernel_rfl)) (fun _ _ _ h => h) (Or.inl ⟨by rfl, ?_⟩) ?_ ?_
           rotate_left
           ·intro w'
            go_simp
            with_reducible rfl
           rotate_left
           ·simp only [Act.put, lS, lZ, lU, i64_w, i32_w]
            rfl
           refine pure_ (i := 6) (N := some 27) (v := ?_) (a' := ?_) #[ff,tt,tt,tt,ff,tt,tt,ff,ff,ff,ff,ff,ff,ff,ff,ff,ff,ff] rfl rfl (any_of HT_.out (by kernel_rfl)) (fun _ _ _ h => h) (Or.inl ⟨by rfl, ?_⟩) ?_ ?_
           rotate_left
           ·intro w'
            go_simp
            with_reducible rfl
           rotate_left
           ·simp only [Act.put, lS, lZ, lU, i64_w, i32_w]
            rfl
           refine pure_ (i := 7) (N := some 28) (v := ?_) (a' := ?_) #[ff,tt,tt,tt,ff,tt,tt,tt,ff,ff,ff,ff,ff,ff,ff,ff,ff,ff] rfl rfl (any_of HT_.out (by kernel_rfl)) (fun _ _ _ h => h) (Or.inl ⟨by rfl, ?_⟩) ?_ ?_
           rotate_left
           ·intro w'
            go_simp
            with_reducible rfl
           rotate_left
           ·simp only [Act.put, lS, lZ, lU, i64_w, i32_w]
            rfl
           refine pure_ (i := 8) (N := some 29) (v := ?_) (a' := ?_) #[ff,tt,tt,tt,ff,tt,tt,tt,tt,ff,ff,ff,ff,ff,ff,ff,ff,ff] rfl rfl (any_of HT_.out (by kernel_rfl)) (fun _ _ _ h => h) (Or.inl ⟨by rfl, ?_⟩) ?_ ?_
           rotate_left
           ·intro w'
            go_simp
            with_reducible rfl
           rotate_left
           ·simp only [Act.put, lS, lZ, lU, i64_w, i32_w]
            rfl
           refine pure_ (i := 10) (N := some 31) (v := ?_) (a' := ?_) #[ff,tt,tt,tt,ff,tt,tt,tt,tt,ff,tt,ff,ff,ff,ff,ff,ff,ff] rfl rfl (any_of HT_.out (by kernel_rfl)) (fun _ _ _ h => h) (Or.inl ⟨by rfl, ?_⟩) ?_ ?_
           rotate_left
           ·intro w'
            go_simp
            with_reducible rfl
           rotate_left
           ·simp only [Act.put, lS, lZ, lU, i64_w, i32_w]
            rfl
           refine pure_ (i := 11) (N := some 32) (v := ?_) (a' := ?_) #[ff,tt,tt,tt,ff,tt,tt,tt,tt,ff,tt,tt,ff,ff,ff,ff,ff,ff] rfl rfl (any_of HT_.out (by kernel_rfl)) (fun _ _ _ h => h) (Or.inl ⟨by rfl, ?_⟩) ?_ ?_
           rotate_left
           ·intro w'
            go_simp
            with_reducible rfl
           rotate_left
           ·simp only [Act.put, lS, lZ, lU, i64_w, i32_w]
            rfl
           refine pure_ (i := 12) (N := some 33) (v := ?_) (a' := ?_) #[ff,tt,tt,tt,ff,tt,tt,tt,tt,ff,tt,tt,tt,ff,ff,ff,ff,ff] rfl rfl (any_of HT_.out (by kernel_rfl)) (fun _ _ _ h => h) (Or.inl ⟨by rfl, ?_⟩) ?_ ?_
           rotate_left
           ·intro w'
            go_simp
            with_reducible rfl
           rotate_left
           ·simp only [Act.put, lS, lZ, lU, i64_w, i32_w]
            rfl
           refine pure_ (i := 13) (N := some 34) (v := ?_) (a' := ?_) #[ff,tt,tt,tt,ff,tt,tt,tt,tt,ff,tt,tt,tt,tt,ff,ff,ff,ff] rfl rfl (any_of HT_.out (by kernel_rfl)) (fun _ _ _ h => h) (Or.inl ⟨by rfl, ?_⟩) ?_ ?_
           rotate_left
           ·intro w'
            go_simp
            with_reducible rfl
           rotate_left
           ·simp only [Act.put, lS, lZ, lU, i64_w, i32_w]
            rfl
           refine take_ (i := 14) (N := some 35) (v := ?_) (a' := ?_) #[ff,tt,tt,tt,ff,tt,tt,tt,tt,ff,tt,tt,tt,tt,tt,ff,ff,ff] rfl rfl (take_ofW HT_.out HW_.out (by kernel_rfl)) (fun _ _ _ h => h) (Or.inl ⟨by rfl, ?_⟩) hHeld ?_ ?_
           rotate_left
           ·rintro w' ⟨s0, s1⟩
            go_simp
            with_reducible rfl
           rotate_left
           ·simp only [Act.put, lS, lZ, lU, i64_w, i32_w]
            rfl
           refine one_ (i := 0) (N := some 21) #[tt,tt,tt,tt,ff,tt,tt,tt,tt,ff,tt,tt,tt,tt,tt,ff,ff,ff] rfl rfl (one_of HT_.out (by kernel_rfl)) (by decide) (fun K hK => ?_)
           refine Kd.R_lit_step k29 _ 29 ?hg (N:=21) ?hd (xs:=([] : List (S29))) (inner:=[]) (ok:=fun _ => True) (okp:=fun _ => True) ?hr ?hp (fun _ hk => hk) trivial (Below.refl _ _) (Nat.le_refl _) (by simp) ?_;(case hd => rfl);(case hg => rfl);(case hr => first|(go_simp;done)|(go_simp;rfl));(case hp => exact (Reps.none _ _))
           intro v589 w16 ho17 hb hg_ hnew_
           clear hg_ hnew_
           (first | rw [← Ny588.out] at ho17 | (simp only [Int.reduceToNat] at ho17; rw [← Ny588.out] at ho17))
           have n0_ := aM (Kd.R_lower ho17 (wZ (by repeat (first | (with_reducible first | exact HB.out | apply wA | apply wN_ | apply wD) | exact HB.out))))
           have n1_ := aM (wT (by repeat (first | (with_reducible first | exact HB.out | apply wA | apply wN_ | apply wD) | exact HB.out)) hb)
           clear HB
           have HO590 := n0_
           have HB := n1_
           clear n0_ n1_
           clear hb ho17
           refine hK.out _ _ ⟨((HB.out.cell (wL w _ hw605_0)).trans hw605_0), ((HB.out.cell (wL w _ hw605_1)).trans hw605_1)⟩ (fun hHeld => ?_)
           clear hK K
           refine norm_ (a' := ?_) ?_ ?_
           rotate_left
           ·show Act.put _ (some 21) _ = _
            simp only [Act.put, lS, lZ, lU, i64_w, i32_w]
            rfl
           refine one_ (i := 4) (N := some 25) #[tt,tt,tt,tt,tt,tt,tt,tt,tt,ff,tt,tt,tt,tt,tt,ff,ff,ff] rfl rfl (one_of HT_.out (by kernel_rfl)) (by decide) (fun K hK => ?_)
           refine Kd.R_append_rows_step k29 (w0 := w) w.heap.size (by rfl) (.tmp 21) (.tmp 24) 23 29 (.agg #[(.int .i64 0), (.int .i64 0)]) 16 rfl Try.underlying23 info29 rfl (by decide) (by omega) v589 y588 y591 _ _ _ (fun _ => True) (fun _ => False) rfl rfl ?aO ?aR (fun _ _ h => h) (fun _ h => h.elim) ?aF ?aB ?aS ?aL ?_
           (case aR => repeat (first|exact (cB HR594.out HB.out)|(with_reducible refine cA ?_ _)|(with_reducible refine cN ?_ _)|(with_reducible refine cD ?_)))
           (case aB => exact (by repeat (first|(with_reducible first|exact HB.out|apply wA|apply wN_|apply wD)|exact HB.out)))
           (case aF => exact (fun _ _ => trivial))
           (case aO => exact (by (with_reducible repeat (first|apply rA|apply rN|apply rD));exact HO590.out))
           (case aS => exact (wZ (by repeat (first|(with_reducible first|exact HB.out|apply wA|apply wN_|apply wD)|exact HB.out))))
           (case aL => have:=LMc8.out;omega)
           intro v596 w18 ho hb hg hat
           rw [← Ny595.out] at ho
           have n0_ := aM (hb)
           have n1_ := aM (ho)
           clear HB
           clear HO590
           have HB := n0_
           have HO597 := n1_
           clear n0_ n1_
           clear ho hb hg hat
           refine hK.out _ _ ⟨((HB.out.cell (wL w _ hw605_0)).trans hw605_0), ((HB.out.cell (wL w _ hw605_1)).trans hw605_1)⟩ (fun hHeld => ?_)
           clear hK K
           refine norm_ (a' := ?_) ?_ ?_
           rotate_left
           ·show Act.put _ (some 25) _ = _
            simp only [Act.put, lS, lZ, lU, i64_w, i32_w]
            rfl
           refine one_ (i := 9) (N := some 30) (msk 15 3) rfl rfl (one_of HT_.out (by kernel_rfl)) (by decide) (fun K hK => ?_)
           refine Kd.R_append_rows_step k29 (w0 := w) w.heap.size (by rfl) (.tmp 25) (.tmp 29) 23 29 (.agg #[(.int .i64 0), (.int .i64 0)]) 16 rfl Try.underlying23 info29 rfl (by decide) (by omega) v596 y595 y598 _ _ _ (fun _ => True) (fun _ => False) rfl rfl ?aO ?aR (fun _ _ h => h) (fun _ h => h.elim) ?aF ?aB ?aS ?aL ?_
           (case aR => repeat (first|exact (cB HR601.out HB.out)|(with_reducible refine cA ?_ _)|(with_reducible refine cN ?_ _)|(with_reducible refine cD ?_)))
           (case aB => exact (by repeat (first|(with_reducible first|exact HB.out|apply wA|apply wN_|apply wD)|exact HB.out)))
           (case aF => exact (fun _ _ => trivial))
           (case aO => exact (by (with_reducible repeat (first|apply rA|apply rN|apply rD));exact HO597.out))
           (case aS => exact (wZ (by repeat (first|(with_reducible first|exact HB.out|apply wA|apply wN_|apply wD)|exact HB.out))))
           (case aL => have:=LMc12.out;omega)
           intro v603 w19 ho hb hg hat
           rw [← Ny602.out] at ho
           have n0_ := aM (hb)
           have n1_ := aM (ho)
           clear HB
           clear HO597
           have HB := n0_
           have HO604 := n1_
           clear n0_ n1_
           clear ho hb hg hat
           refine hK.out _ _ ⟨((HB.out.cell (wL w _ hw605_0)).trans hw605_0), ((HB.out.cell (wL w _ hw605_1)).trans hw605_1)⟩ (fun hHeld => ?_)
           clear hK K
           refine norm_ (a' := ?_) ?_ ?_
           rotate_left
           ·show Act.put _ (some 30) _ = _
            simp only [Act.put, lS, lZ, lU, i64_w, i32_w]
            rfl
           refine pure_ (i := 15) (N := some 4) (v := ?_) (a' := ?_) (msk 16 2) rfl rfl (any_of HT_.out (by kernel_rfl)) (fun _ _ _ h => h) (Or.inl ⟨by rfl, ?_⟩) ?_ ?_
           rotate_left
           ·intro w'
            go_simp
            with_reducible rfl
           rotate_left
           ·simp only [Act.put, lS, lZ, lU, i64_w, i32_w]
            rfl
           refine pure_ (i := 16) (N := some 5) (v := ?_) (a' := ?_) (msk 17 1) rfl rfl (any_of HT_.out (by kernel_rfl)) (fun _ _ _ h => h) (Or.inl ⟨by rfl, ?_⟩) ?_ ?_
           rotate_left
           ·intro w'
            go_simp
            with_reducible rfl
           rotate_left
           ·simp only [Act.put, lS, lZ, lU, i64_w, i32_w]
            rfl
           refine pure_ (i := 17) (N := some 6) (v := ?_) (a' := ?_) (msk 18 0) rfl rfl (any_of HT_.out (by kernel_rfl)) (fun _ _ _ h => h) (Or.inl ⟨by rfl, ?_⟩) ?_ ?_
           rotate_left
           ·intro w'
            go_simp
            with_reducible rfl
           rotate_left
           ·simp only [Act.put, lS, lZ, lU, i64_w, i32_w]
            rfl
           refine done_ (done_of HT_.out (by kernel_rfl)) ?_
           try go_wp2
           go_ret3
           exact ⟨_, by first | rfl | (simp [errW_none, errW_some] <;> rfl) | (simp only [← hji9]; first | rfl | (simp [errW_none, errW_some] <;> rfl)) | (simp [*, errW_none, errW_some] <;> rfl), by (with_reducible repeat (first | apply rA | apply rN | apply rD)); exact HO604.out, by repeat (first | (with_reducible first | exact HB.out | apply wA | apply wN_ | apply wD) | exact HB.out)⟩
          ·rw [if_neg c12] at H
           exact absurd H (by simp)
         ·rw [if_neg c11] at H
          exact absurd H (by simp)
        ·rw [if_neg c10] at H
         exact absurd H (by simp)
       ·rw [if_neg c8] at H
        exact absurd H (by simp)
      ·rw [if_neg c7] at H
       exact absurd H (by simp)
     ·rw [if_neg c5] at H
      have c5b0 : (((rd_T29 l0 x7_1).f1) == a1) = false := beq_eq_false_iff_ne.mpr c5
      have c5b1 : (((rd_T29 l0 x7_1).f1) != a1) = true := bne_iff_ne.mpr c5
      have H' := aM H
      clear H
      have p587 : 0 ≤ (x7_1 : Int) := oD (by first | (with_reducible assumption) | assumption)
      have q587 : x7_1 < (l0.length : Int) := oD (by first | (with_reducible assumption) | assumption)
      obtain ⟨ad587, e587, hx587_0, hx587_1⟩ := at_T29 HR0.out x7_1 p587 q587
      cases e587
      replace hx587_0 := (HB.out.cell (wL w _ hx587_0)).trans hx587_0
      replace hx587_1 := (HB.out.cell (wL w _ hx587_1)).trans hx587_1
      replace p587 := eq_true p587
      replace q587 := eq_true q587
      go_wp2
      go_roundg k1
      case measure => have:=HK1.out;omega
      case rel => exact ⟨(wrap64 (x7_1 + 1)),(by first|rfl|(simp;done)|(simp [*];done)),H',⟨by have:=HK1.out;omega⟩,⟨by repeat (first|(with_reducible first|exact HB.out|apply wA|apply wN_|apply wD)|exact HB.out)⟩⟩
    ·rw [if_neg c4] at H
     exact absurd H (by simp)
   ·rw [if_neg c3] at H
    have c3b0 : decide (x7_1 < (l0.length : Int)) = false := decide_eq_false c3
    clear c3
    simp only [Option.some.injEq, Prod.mk.injEq] at H
    obtain ⟨rfl, rfl, rfl⟩ := H
    go_wp2
    go_ret3
    exact ⟨_, by first | rfl | (simp [errW_none, errW_some] <;> rfl) | (simp [*, errW_none, errW_some] <;> rfl), by first | exact Kd.R_nil _ _ _ _ _ | exact Kd.N_nil _ _ _ _ _ | exact Kd.V_nil _ _ _ _ _ | exact Kd.Q_nil _ _ _ _ _ | exact Kd.S_nil _ _ _ _ _, by repeat (first | (with_reducible first | exact HB.out | apply wA | apply wN_ | apply wD) | exact HB.out)⟩

/-! ### rickyardref9_DropBig: function 69 -/
def rickyardref9_DropBig.f (l0 : List (S29)) : Option ((List (S29)) × Int × Int × Bool) := if (l0.length : Int) = 0 then (some (([] : List (S29)), 0, 0, false)) else ((some (([] : List (S29)) : List (S29))).bind fun y607 => (if 1 ≤ (l0.length : Int) then ((some (l0.drop 1 : List (S29))).bind fun y610 => (if y607.length + y610.length < 8796093022208 then (if 0 < (l0.length : Int) then (some ((y607 ++ y610), (rd_T29 l0 0).f0, (rd_T29 l0 0).f1, true)) else (none)) else (none))) else (none)))
def rickyardref9_DropBig.T3 : Bool × List (List Nat × List Nat) := (true, [([], []), ([], []), ([1], [1]), ([0, 2], [0, 2]), ([], []), ([4], [4]), ([5], [5]), ([3, 3, 0, 1, 2, 3], [3]), ([6, 7, 0, 1, 2, 3, 4, 5, 6, 7], [6]), ([8, 0, 1, 2, 3, 4, 5, 6, 7, 8], [])])
def rickyardref9_DropBig.B3 : List Nat := [0, 0, 2, 7, 0, 16, 48, 15, 255, 511]
theorem rickyardref9_DropBig.tab3 : rtab .any (opsOf Try.f69 3) = rickyardref9_DropBig.T3 := by kernel_rfl
theorem rickyardref9_DropBig.bits3 : waitsOk rickyardref9_DropBig.T3.2 rickyardref9_DropBig.B3 = true := by kernel_rfl
set_option maxHeartbeats 8000000 in
set_option maxRecDepth 100000 in
theorem rickyardref9_DropBig.calls (A0 : Option Addr) (c0 : Nat) (l0 : List (S29)) (r1 : List (S29)) (r2 : Int) (r3 : Int) (r4 : Bool) (w : World) (hr0 : Kd.C k29 w A0 l0.length l0) (hc0 : l0.length ≤ c0) (h : rickyardref9_DropBig.f l0 = some (r1, r2, r3, r4)) :
  Calls Try.prog 69 #[.slice A0 l0.length c0] w fun e w' => ∃ v0_ : Value, e = .returned (.tuple #[v0_, .agg #[.int .i64 r2, .int .i64 r3], .bool r4]) ∧ Kd.R k29 29 w' w.heap.size (fun _ => True) v0_ r1 ∧ Below w.heap.size w w' := by
 have hu29 := Try.underlying29
 have HR0 := aM hr0
 have HC0 := aM hc0
 clear hr0 hc0
 have HB := aM (Below.refl w.heap.size w)
 have H : (if (l0.length : Int) = 0 then (some (([] : List (S29)), 0, 0, false)) else ((some (([] : List (S29)) : List (S29))).bind fun y607 => (if 1 ≤ (l0.length : Int) then ((some (l0.drop 1 : List (S29))).bind fun y610 => (if y607.length + y610.length < 8796093022208 then (if 0 < (l0.length : Int) then (some ((y607 ++ y610), (rd_T29 l0 0).f0, (rd_T29 l0 0).f1, true)) else (none)) else (none))) else (none)))) = some (r1, r2, r3, r4) := h
 clear h
 by_cases c2 : (l0.length : Int) = 0
 ·rw [if_pos c2] at H
  have c2b0 : ((l0.length : Int) == 0) = true := beq_iff_eq.mpr c2
  have c2b1 : ((l0.length : Int) != 0) = false := bne_eq_false_iff_eq.mpr c2
  clear c2
  simp only [Option.some.injEq, Prod.mk.injEq] at H
  obtain ⟨rfl, rfl, rfl, rfl⟩ := H
  go_enter Try.func69, Try.ntmps69
  go_wp2_with (first|((with_reducible refine gate_dst (N:=3) rfl ?_);refine box_event ?hg (N:=3) ?hd (cs:=#[.int .i64 0,.int .i64 0]) (t:=29) ?hr ?_;(case hd => rfl);(case hg => rfl);(case hr => first|(go_simp;done)|(go_simp;rfl));intro gb606 hg w3 hbox hb;have n0_:=aM (wT (by repeat (first|(with_reducible first|exact HB.out|apply wA|apply wN_|apply wD)|exact HB.out)) hb);have n1_:=aM (hbox);have n2_:=aM ((by rw [hg];exact (wZ (by repeat (first|(with_reducible first|exact HB.out|apply wA|apply wN_|apply wD)|exact HB.out))) : w.heap.size ≤ gb606));have n3_:=aM ((by rw [hg];exact (wZ (by repeat (first|(with_reducible first|exact HB.out|apply wA|apply wN_|apply wD)|exact HB.out))) : w.heap.size ≤ gb606));clear HB;have HB:=n0_;have BK606:=n1_;have GW606:=n2_;have GE606:=n3_;clear n0_ n1_ n2_ n3_;clear hb hbox hg;have hcz4_0 : w3.cell? ⟨gb606,0,none⟩ = some (.int .i64 0):=(bC BK606.out 0).trans rfl;have hcz4_1 : w3.cell? ⟨gb606,1,none⟩ = some (.int .i64 0):=(bC BK606.out 1).trans rfl;have hfz4_0:=bF BK606.out 0;have hfz4_1:=bF BK606.out 1))
  refine bodyPost_ret (results_list (rs := [.tmp 2, .cell 3 29, .tmp 4]) rfl (by simp) (.tmp (.cell gb606 29 #[.int .i64 0, .int .i64 0] (0, 0) _ rfl (by (with_reducible repeat (first | refine bN ?_ _ | refine bD ?_ | refine bA ?_ _)); refine bP (cs := #[.int .i64 0, .int .i64 0]) ?_ 1 _ rfl; (with_reducible repeat (first | refine bN ?_ _ | refine bD ?_ | refine bA ?_ _)); refine bP (cs := #[.int .i64 0, .int .i64 0]) ?_ 0 _ rfl; (with_reducible repeat (first | refine bN ?_ _ | refine bD ?_ | refine bA ?_ _)); exact BK606.out) Try.underlying29 rfl (by kernel_rfl) (.tmp .nil)))) rfl ?_
  exact ⟨_, by first | rfl | (simp [errW_none, errW_some] <;> rfl) | (simp [*, errW_none, errW_some] <;> rfl), by first | exact Kd.R_nil _ _ _ _ _ | exact Kd.N_nil _ _ _ _ _ | exact Kd.V_nil _ _ _ _ _ | exact Kd.Q_nil _ _ _ _ _ | exact Kd.S_nil _ _ _ _ _, by repeat (first | (with_reducible first | exact HB.out | apply wA | apply wN_ | apply wD | refine wS ?_ GE606.out) | exact HB.out)⟩
 ·rw [if_neg c2] at H
  have c2b0 : ((l0.length : Int) == 0) = false := beq_eq_false_iff_ne.mpr c2
  have c2b1 : ((l0.length : Int) != 0) = true := bne_iff_ne.mpr c2
  have c2b2 : ¬ (l0 = []) := fun h_ => c2 (by rw [h_]; rfl)
  obtain ⟨y607, hy607⟩ : ∃ y_ : List (S29), y_ = (([] : List (S29))) := ⟨_, rfl⟩
  replace H : (if 1 ≤ (l0.length : Int) then ((some (l0.drop 1 : List (S29))).bind fun y610 => (if y607.length + y610.length < 8796093022208 then (if 0 < (l0.length : Int) then (some ((y607 ++ y610), (rd_T29 l0 0).f0, (rd_T29 l0 0).f1, true)) else (none)) else (none))) else (none)) = some (r1, r2, r3, r4) := by first | (rw [hy607]; with_reducible exact H) | (have H2_ := (Option.bind_some _ _).symm.trans H; rw [hy607]; with_reducible exact H2_) | (have H2_ := (Option.bind_some _ _).symm.trans H; with_reducible exact H2_) | with_reducible exact H | (rw [hy607]; exact H) | exact H
  have Ny607 := aM hy607
  clear hy607
  by_cases c5 : 1 ≤ (l0.length : Int)
  ·rw [if_pos c5] at H
   have c5b0 := eq_true c5
   have c5b1 : decide (1 ≤ (l0.length : Int)) = true := decide_eq_true c5
   clear c5
   obtain ⟨y610, hy610⟩ : ∃ y_ : List (S29), y_ = (l0.drop 1) := ⟨_, rfl⟩
   replace H : (if y607.length + y610.length < 8796093022208 then (if 0 < (l0.length : Int) then (some ((y607 ++ y610), (rd_T29 l0 0).f0, (rd_T29 l0 0).f1, true)) else (none)) else (none)) = some (r1, r2, r3, r4) := by first | (rw [hy610]; with_reducible exact H) | (have H2_ := (Option.bind_some _ _).symm.trans H; rw [hy610]; with_reducible exact H2_) | (have H2_ := (Option.bind_some _ _).symm.trans H; with_reducible exact H2_) | with_reducible exact H | (rw [hy610]; exact H) | exact H
   have Ny610 := aM hy610
   clear hy610
   by_cases c6 : y607.length + y610.length < 8796093022208
   ·rw [if_pos c6] at H
    have LMc6 := aM c6
    clear c6
    obtain ⟨y614, hy614⟩ : ∃ y_ : List (S29), y_ = (y607 ++ y610) := ⟨_, rfl⟩
    replace H : (if 0 < (l0.length : Int) then (some (y614, (rd_T29 l0 0).f0, (rd_T29 l0 0).f1, true)) else (none)) = some (r1, r2, r3, r4) := by first | (rw [hy614]; with_reducible exact H) | (have H2_ := (Option.bind_some _ _).symm.trans H; rw [hy614]; with_reducible exact H2_) | (have H2_ := (Option.bind_some _ _).symm.trans H; with_reducible exact H2_) | with_reducible exact H | (rw [hy614]; exact H) | exact H
    have Ny614 := aM hy614
    clear hy614
    by_cases c7 : 0 < (l0.length : Int)
    ·rw [if_pos c7] at H
     have c7b0 : decide (0 < (l0.length : Int)) = true := decide_eq_true c7
     have c7b1 : decide (0 < l0.length) = true := decide_eq_true (by omega)
     clear c7
     simp only [Option.some.injEq, Prod.mk.injEq] at H
     obtain ⟨rfl, rfl, rfl, rfl⟩ := H
     go_enter Try.func69, Try.ntmps69
     try go_wp2_with (first|((with_reducible refine gate_dst (N:=3) rfl ?_);refine box_event ?hg (N:=3) ?hd (cs:=#[.int .i64 0,.int .i64 0]) (t:=29) ?hr ?_;(case hd => rfl);(case hg => rfl);(case hr => first|(go_simp;done)|(go_simp;rfl));intro gb606 hg w8 hbox hb;have n0_:=aM (wT (by repeat (first|(with_reducible first|exact HB.out|apply wA|apply wN_|apply wD)|exact HB.out)) hb);have n1_:=aM (hbox);have n2_:=aM ((by rw [hg];exact (wZ (by repeat (first|(with_reducible first|exact HB.out|apply wA|apply wN_|apply wD)|exact HB.out))) : w.heap.size ≤ gb606));have n3_:=aM ((by rw [hg];exact (wZ (by repeat (first|(with_reducible first|exact HB.out|apply wA|apply wN_|apply wD)|exact HB.out))) : w.heap.size ≤ gb606));clear HB;have HB:=n0_;have BK606:=n1_;have GW606:=n2_;have GE606:=n3_;clear n0_ n1_ n2_ n3_;clear hb hbox hg))
     have n0_ := aM (bD BK606.out)
     have n1_ := aM (wD HB.out)
     clear BK606
     clear HB
     have BK606 := n0_
     have HB := n1_
     clear n0_ n1_
     have q10 : (1 : Int) ≤ ((l0.length : Int) : Int) := oD (by first | (with_reducible assumption) | assumption)
     obtain ⟨i010, hi010, _, hsz10, _⟩ := info_parts info29
     have hroom10 : l0.length ≤ c0 := HC0.out
     have hC10 : Kd.C k29 _ A0 l0.length l0 := HR0.out
     have hcut10 := cut_from (P := Try.prog) 23 29 .i64 Try.underlying23 hi010 2 hsz10 A0 l0.length c0 1 (by omega) q10
     have hr10 := Kd.C_drop (m := (1 : Int).toNat) (c := c0) hC10 (by omega) hroom10
     obtain ⟨A10, hA10⟩ : ∃ A1, A1 = (if c0 = (1 : Int).toNat then A0 else (A0 : Option Addr).map (·.add ((1 : Int).toNat * 2))) := ⟨_, rfl⟩
     obtain ⟨c10, hc10⟩ : ∃ c1, c1 = c0 - (1 : Int).toNat := ⟨_, rfl⟩
     have hy10 : y610.length = l0.length - (1 : Int).toNat := (by rw [Ny610.out, lD] <;> omega)
     rw [show (l0).drop (1 : Int).toNat = y610 from Ny610.out.symm] at hr10
     replace hr10 : Kd.C k29 _ A10 y610.length y610 := (by rw [hA10]; exact hr10)
     rw [← hy10, ← hA10, ← hc10] at hcut10
     have HR613 := aM hr10
     have HC613 := aM (show y610.length ≤ c10 from by rw [hy10, hc10]; exact Nat.sub_le_sub_right hroom10 _)
     clear hr10 hC10 hroom10 hi010 hsz10 hc10
     have KY10 := aM hy10
     have KA10 := aM hA10
     clear hy10 hA10
     replace q10 := eq_true q10
     have p617 : 0 ≤ (0 : Int) := (by omega)
     have q617 : 0 < (l0.length : Int) := oD (by first | (with_reducible assumption) | assumption)
     obtain ⟨ad617, e617, hx617_0, hx617_1⟩ := at_T29 HR0.out 0 p617 q617
     have hw617_1 := hx617_1
     (try rw [show ((0 : Int)).toNat = 0 from rfl] at hw617_1)
     (try rw [show 0 * 2 = 0 from rfl] at hw617_1)
     (try rw [Addr.add_zero'] at hw617_1)
     have hw617_0 := hx617_0
     (try rw [show ((0 : Int)).toNat = 0 from rfl] at hw617_0)
     (try rw [show 0 * 2 = 0 from rfl] at hw617_0)
     (try rw [Addr.add_zero'] at hw617_0)
     cases e617
     have qi617 : (0 < l0.length) = True := eq_true (by omega)
     (try rw [show ((0 : Int)).toNat = 0 from rfl] at hx617_0)
     (try rw [show 0 * 2 = 0 from rfl] at hx617_0)
     (try rw [Addr.add_zero'] at hx617_0)
     (try rw [show ((0 : Int)).toNat = 0 from rfl] at hx617_1)
     (try rw [show 0 * 2 = 0 from rfl] at hx617_1)
     (try rw [Addr.add_zero'] at hx617_1)
     replace hx617_0 := (HB.out.cell (wL w _ hx617_0)).trans hx617_0
     replace hx617_1 := (HB.out.cell (wL w _ hx617_1)).trans hx617_1
     replace p617 := eq_true p617
     replace q617 := eq_true q617
     refine start_ (n := 10) (S := fun w' => w'.cell? ad617 = some (.int .i64 ((rd_T29 l0 0).f0)) ∧ w'.cell? ⟨ad617.block, ad617.off + 1, none⟩ = some (.int .i64 ((rd_T29 l0 0).f1))) (ds := []) #[false, false, false, false, false, false, false, false, false, false] (by kernel_rfl) rfl rfl ⟨((HB.out.cell (wL w _ hw617_0)).trans hw617_0), ((HB.out.cell (wL w _ hw617_1)).trans hw617_1)⟩ (fun hHeld => ?_); refine with_tabW rickyardref9_DropBig.tab3 rickyardref9_DropBig.bits3 (fun HT_ HW_ => ?_)
     generalize w8.drew = w9 at BK606 HB HR613 hx617_0 hx617_1 hHeld ⊢
     refine pure_ (i := 1) (N := some 10) (v := ?_) (a' := ?_) #[false, true, false, false, false, false, false, false, false, false] rfl rfl (any_of HT_.out (by kernel_rfl)) (fun _ _ _ h => h) (Or.inl ⟨by rfl, ?_⟩) ?_ ?_
     rotate_left
     ·intro w'
      go_simp
      with_reducible rfl
     rotate_left
     ·simp only [Act.put, lS, lZ, lU, i64_w, i32_w]
      rfl
     refine pure_ (i := 2) (N := some 11) (v := ?_) (a' := ?_) #[false, true, true, false, false, false, false, false, false, false] rfl rfl (any_of HT_.out (by kernel_rfl)) (fun _ _ _ h => h) (Or.inl ⟨by rfl, ?_⟩) ?_ ?_
     rotate_left
     ·intro w'
      go_simp
      with_reducible rfl
     rotate_left
     ·simp only [Act.put, lS, lZ, lU, i64_w, i32_w]
      rfl
     refine pure_ (i := 4) (N := some 13) (v := ?_) (a' := ?_) #[false, true, true, false, true, false, false, false, false, false] rfl rfl (any_of HT_.out (by kernel_rfl)) (fun _ _ _ h => h) (Or.inl ⟨by rfl, ?_⟩) ?_ ?_
     rotate_left
     ·intro w'
      go_simp
      with_reducible rfl
     rotate_left
     ·simp only [Act.put, lS, lZ, lU, i64_w, i32_w]
      rfl
     refine pure_ (i := 5) (N := some 14) (v := ?_) (a' := ?_) #[false, true, true, false, true, true, false, false, false, false] rfl rfl (any_of HT_.out (by kernel_rfl)) (fun _ _ _ h => h) (Or.inl ⟨by rfl, ?_⟩) ?_ ?_
     rotate_left
     ·intro w'
      go_simp
      with_reducible rfl
     rotate_left
     ·simp only [Act.put, lS, lZ, lU, i64_w, i32_w]
      rfl
     refine take_ (i := 6) (N := some 15) (v := ?_) (a' := ?_) #[false, true, true, false, true, true, true, false, false, false] rfl rfl (take_ofW HT_.out HW_.out (by kernel_rfl)) (fun _ _ _ h => h) (Or.inl ⟨by rfl, ?_⟩) hHeld ?_ ?_
     rotate_left
     ·rintro w' ⟨s0, s1⟩
      go_simp
      with_reducible rfl
     rotate_left
     ·simp only [Act.put, lS, lZ, lU, i64_w, i32_w]
      rfl
     refine one_ (i := 0) (N := some 9) #[true, true, true, false, true, true, true, false, false, false] rfl rfl (one_of HT_.out (by kernel_rfl)) (by decide) (fun K hK => ?_)
     refine Kd.R_lit_step k29 _ 29 ?hg (N:=9) ?hd (xs:=([] : List (S29))) (inner:=[]) (ok:=fun _ => True) (okp:=fun _ => True) ?hr ?hp (fun _ hk => hk) trivial (Below.refl _ _) (Nat.le_refl _) (by simp) ?_;(case hd => rfl);(case hg => rfl);(case hr => first|(go_simp;done)|(go_simp;rfl));(case hp => exact (Reps.none _ _))
     intro v608 w11 ho12 hb hg_ hnew_
     clear hg_ hnew_
     (first | rw [← Ny607.out] at ho12 | (simp only [Int.reduceToNat] at ho12; rw [← Ny607.out] at ho12))
     have n0_ := aM (Kd.R_lower (Kd.R_newB ho12 (g := gb606) (o := .cells #[.int .i64 0, .int .i64 0] 29 (0, 0)) (by (with_reducible repeat (first | refine bN ?_ _ | refine bD ?_ | refine bA ?_ _)); exact BK606.out)) (wZ (by repeat (first | (with_reducible first | exact HB.out | apply wA | apply wN_ | apply wD | refine wS ?_ GE606.out) | exact HB.out))))
     have n1_ := aM (bB (g := gb606) (o := .cells #[.int .i64 0, .int .i64 0] 29 (0, 0)) (by (with_reducible repeat (first | refine bN ?_ _ | refine bD ?_ | refine bA ?_ _)); exact BK606.out) hb)
     have n2_ := aM (wT (by repeat (first | (with_reducible first | exact HB.out | apply wA | apply wN_ | apply wD | refine wS ?_ GE606.out) | exact HB.out)) hb)
     clear BK606
     clear HB
     have HO609 := n0_
     have BK606 := n1_
     have HB := n2_
     clear n0_ n1_ n2_
     clear hb ho12
     refine hK.out _ _ ⟨((HB.out.cell (wL w _ hw617_0)).trans hw617_0), ((HB.out.cell (wL w _ hw617_1)).trans hw617_1)⟩ (fun hHeld => ?_)
     clear hK K
     refine norm_ (a' := ?_) ?_ ?_
     rotate_left
     ·show Act.put _ (some 9) _ = _
      simp only [Act.put, lS, lZ, lU, i64_w, i32_w]
      rfl
     refine one_ (i := 3) (N := some 12) #[true, true, true, true, true, true, true, false, false, false] rfl rfl (one_of HT_.out (by kernel_rfl)) (by decide) (fun K hK => ?_)
     refine Kd.R_append_rows_step k29 (w0 := w) w.heap.size (by rfl) (.tmp 9) (.tmp 11) 23 29 (.agg #[(.int .i64 0), (.int .i64 0)]) 16 rfl Try.underlying23 info29 rfl (by decide) (by omega) v608 y607 y610 _ _ _ (fun k_ => k_ ≠ gb606) (fun _ => False) rfl rfl ?aO ?aR (fun _ _ h => h) (fun _ h => h.elim) ?aF ?aB ?aS ?aL ?_
     (case aR => repeat (first|exact (cB HR613.out HB.out)|(with_reducible refine cA ?_ _)|(with_reducible refine cN ?_ _)|(with_reducible refine cD ?_)))
     (case aB => exact (by repeat (first|(with_reducible first|exact HB.out|apply wA|apply wN_|apply wD|refine wS ?_ GE606.out)|exact HB.out)))
     (case aF => exact (fun k_ hk => Kd.freshB (g:=gb606) (o:=.cells #[.int .i64 0,.int .i64 0] 29 (0,0)) (by (with_reducible repeat (first|refine bN ?_ _|refine bD ?_|refine bA ?_ _));exact BK606.out) k_ hk))
     (case aO => exact (by (with_reducible repeat (first|apply rA|apply rN|apply rD));exact rM HO609.out (fun _ hk => hk.2)))
     (case aS => exact (wZ (by repeat (first|(with_reducible first|exact HB.out|apply wA|apply wN_|apply wD|refine wS ?_ GE606.out)|exact HB.out))))
     (case aL => have:=LMc6.out;omega)
     intro v615 w13 ho hb hg hat
     rw [← Ny614.out] at ho
     have n0_ := aM (blk_grown (g := gb606) (o := .cells #[.int .i64 0, .int .i64 0] 29 (0, 0)) (by (with_reducible repeat (first | refine bN ?_ _ | refine bD ?_ | refine bA ?_ _)); exact BK606.out) hg (Kd.R_away HO609.out (fun _ hk => hk.2)))
     have n1_ := aM (hb)
     have n2_ := aM (ho)
     clear BK606
     clear HB
     clear HO609
     have BK606 := n0_
     have HB := n1_
     have HO616 := n2_
     clear n0_ n1_ n2_
     clear ho hb hg hat
     refine hK.out _ _ ⟨((HB.out.cell (wL w _ hw617_0)).trans hw617_0), ((HB.out.cell (wL w _ hw617_1)).trans hw617_1)⟩ (fun hHeld => ?_)
     clear hK K
     refine norm_ (a' := ?_) ?_ ?_
     rotate_left
     ·show Act.put _ (some 12) _ = _
      simp only [Act.put, lS, lZ, lU, i64_w, i32_w]
      rfl
     refine pure_ (i := 7) (N := some 2) (v := ?_) (a' := ?_) #[true, true, true, true, true, true, true, true, false, false] rfl rfl (any_of HT_.out (by kernel_rfl)) (fun _ _ _ h => h) (Or.inl ⟨by rfl, ?_⟩) ?_ ?_
     rotate_left
     ·intro w'
      go_simp
      with_reducible rfl
     rotate_left
     ·simp only [Act.put, lS, lZ, lU, i64_w, i32_w]
      rfl
     refine one_ (i := 8) (N := none) #[true, true, true, true, true, true, true, true, true, false] rfl rfl (one_of HT_.out (by kernel_rfl)) (by decide) (fun K hK => ?_)
     have hs14 : w13.cell? ⟨gb606, 0, none⟩ = some (.int .i64 0) := (bC BK606.out 0).trans rfl
     have hfs14 := bF BK606.out 0
     have hs15 : w13.cell? ⟨gb606, 1, none⟩ = some (.int .i64 0) := (bC BK606.out 1).trans rfl
     have hfs15 := bF BK606.out 1
     refine skip_ (w1 := ?_) (by rfl) rfl ?_ ?_
     rotate_left
     ·go_simp
      rfl
     refine hK.out _ _ ⟨((cell_far (p := ⟨gb606, _, none⟩) (by first | exact Nat.ne_of_lt (Nat.lt_of_lt_of_le (by have := wL _ _ hw617_0; first | rwa [add_block] at this | exact this) GW606.out) | (rw [add_block]; exact Nat.ne_of_lt (Nat.lt_of_lt_of_le (by have := wL _ _ hw617_0; first | rwa [add_block] at this | exact this) GW606.out)) | (show (Addr.add _ _).block ≠ _; rw [add_block]; exact Nat.ne_of_lt (Nat.lt_of_lt_of_le (by have := wL _ _ hw617_0; first | rwa [add_block] at this | exact this) GW606.out)) | (dsimp only; exact Nat.ne_of_lt (Nat.lt_of_lt_of_le (by have := wL _ _ hw617_0; first | rwa [add_block] at this | exact this) GW606.out))) _).trans (((cell_far (p := ⟨gb606, _, none⟩) (by first | exact Nat.ne_of_lt (Nat.lt_of_lt_of_le (by have := wL _ _ hw617_0; first | rwa [add_block] at this | exact this) GW606.out) | (rw [add_block]; exact Nat.ne_of_lt (Nat.lt_of_lt_of_le (by have := wL _ _ hw617_0; first | rwa [add_block] at this | exact this) GW606.out)) | (show (Addr.add _ _).block ≠ _; rw [add_block]; exact Nat.ne_of_lt (Nat.lt_of_lt_of_le (by have := wL _ _ hw617_0; first | rwa [add_block] at this | exact this) GW606.out)) | (dsimp only; exact Nat.ne_of_lt (Nat.lt_of_lt_of_le (by have := wL _ _ hw617_0; first | rwa [add_block] at this | exact this) GW606.out))) _).trans (hHeld.1)))), ((cell_far (p := ⟨gb606, _, none⟩) (by first | exact Nat.ne_of_lt (Nat.lt_of_lt_of_le (by have := wL _ _ hw617_1; first | rwa [add_block] at this | exact this) GW606.out) | (rw [add_block]; exact Nat.ne_of_lt (Nat.lt_of_lt_of_le (by have := wL _ _ hw617_1; first | rwa [add_block] at this | exact this) GW606.out)) | (show (Addr.add _ _).block ≠ _; rw [add_block]; exact Nat.ne_of_lt (Nat.lt_of_lt_of_le (by have := wL _ _ hw617_1; first | rwa [add_block] at this | exact this) GW606.out)) | (dsimp only; exact Nat.ne_of_lt (Nat.lt_of_lt_of_le (by have := wL _ _ hw617_1; first | rwa [add_block] at this | exact this) GW606.out))) _).trans (((cell_far (p := ⟨gb606, _, none⟩) (by first | exact Nat.ne_of_lt (Nat.lt_of_lt_of_le (by have := wL _ _ hw617_1; first | rwa [add_block] at this | exact this) GW606.out) | (rw [add_block]; exact Nat.ne_of_lt (Nat.lt_of_lt_of_le (by have := wL _ _ hw617_1; first | rwa [add_block] at this | exact this) GW606.out)) | (show (Addr.add _ _).block ≠ _; rw [add_block]; exact Nat.ne_of_lt (Nat.lt_of_lt_of_le (by have := wL _ _ hw617_1; first | rwa [add_block] at this | exact this) GW606.out)) | (dsimp only; exact Nat.ne_of_lt (Nat.lt_of_lt_of_le (by have := wL _ _ hw617_1; first | rwa [add_block] at this | exact this) GW606.out))) _).trans (hHeld.2))))⟩ (fun hHeld => ?_)
     clear hK K
     refine pure_ (i := 9) (N := some 4) (v := ?_) (a' := ?_) #[true, true, true, true, true, true, true, true, true, true] rfl rfl (any_of HT_.out (by kernel_rfl)) (fun _ _ _ h => h) (Or.inl ⟨by rfl, ?_⟩) ?_ ?_
     rotate_left
     ·intro w'
      go_simp
      with_reducible rfl
     rotate_left
     ·simp only [Act.put, lS, lZ, lU, i64_w, i32_w]
      rfl
     refine done_ (done_of HT_.out (by kernel_rfl)) ?_
     try go_wp2
     refine bodyPost_ret (results_list (rs := [.tmp 2, .cell 3 29, .tmp 4]) rfl (by simp) (.tmp (.cell gb606 29 #[.int .i64 ((rd_T29 l0 0).f0), .int .i64 ((rd_T29 l0 0).f1)] (0, 0) _ rfl (by (with_reducible repeat (first | refine bN ?_ _ | refine bD ?_ | refine bA ?_ _)); refine bP (cs := #[.int .i64 ((rd_T29 l0 0).f0), .int .i64 0]) ?_ 1 _ rfl; (with_reducible repeat (first | refine bN ?_ _ | refine bD ?_ | refine bA ?_ _)); refine bP (cs := #[.int .i64 0, .int .i64 0]) ?_ 0 _ rfl; (with_reducible repeat (first | refine bN ?_ _ | refine bD ?_ | refine bA ?_ _)); exact BK606.out) Try.underlying29 rfl (by kernel_rfl) (.tmp .nil)))) rfl ?_
     exact ⟨_, by first | rfl | (simp [errW_none, errW_some] <;> rfl) | (simp [*, errW_none, errW_some] <;> rfl), by (with_reducible repeat (first | apply rA | apply rN | apply rD)); exact rM (rF_ (p := ⟨gb606, 1, none⟩) (rF_ (p := ⟨gb606, 0, none⟩) (rM HO616.out (fun k_ hk => (⟨hk, hk⟩ : _ ∧ k_ ≠ gb606))) (fun _ hk => hk.2) (.int .i64 ((rd_T29 l0 0).f0))) (fun _ hk => hk.2) (.int .i64 ((rd_T29 l0 0).f1))) (fun _ hk => trivial), by repeat (first | (with_reducible first | exact HB.out | apply wA | apply wN_ | apply wD | refine wS ?_ GE606.out) | exact HB.out)⟩
    ·rw [if_neg c7] at H
     exact absurd H (by simp)
   ·rw [if_neg c6] at H
    exact absurd H (by simp)
  ·rw [if_neg c5] at H
   exact absurd H (by simp)

/-! ### rickyardref9_WordsBig: function 70 -/
def rickyardref9_WordsBig.l0 : Nat → List (S29) → Int → Int → Option (Int)
 | 0, _, _, _ => none
 | k + 1, x0, x3, x4 => if x4 < (x0.length : Int) then (if 0 ≤ x4 then ((rickyardref1_Words.f ((rd_T29 x0 x4).f1)).bind fun t619 => (rickyardref9_WordsBig.l0 k x0 (wrap64 (x3 + t619)) (wrap64 (x4 + 1)))) else (none)) else (some x3)
def rickyardref9_WordsBig.f (k : Nat) (l0 : List (S29)) : Option (Int) := rickyardref9_WordsBig.l0 k l0 0 0
theorem rickyardref9_WordsBig.mono_l : ∀ k, (∀ y0 y1 y2, LeO (rickyardref9_WordsBig.l0 k y0 y1 y2) (rickyardref9_WordsBig.l0 (k + 1) y0 y1 y2))
 | 0 => fun _ _ _ r h => by simp [rickyardref9_WordsBig.l0] at h
 | k + 1 => by
  have ih0 := rickyardref9_WordsBig.mono_l k
  ·intro y0 y1 y2
   unfold rickyardref9_WordsBig.l0
   repeat' first
   | (with_reducible exact ih0 _ _ _)
   | (with_reducible exact LeO.refl _)
   | (with_reducible exact LeO.none _)
   | (with_reducible refine LeO.ite ?_ ?_)
   | (with_reducible refine LeO.bind ?_ (fun _ => ?_))
   | exact ih0 _ _ _
   | exact LeO.none _
   | refine LeO.ite ?_ ?_
   | refine LeO.bind ?_ (fun _ => ?_)
theorem rickyardref9_WordsBig.mono : ∀ a0 k, LeO (rickyardref9_WordsBig.f k a0) (rickyardref9_WordsBig.f (k + 1) a0) := by
 intro a0 k
 have ih0 := rickyardref9_WordsBig.mono_l k
 unfold rickyardref9_WordsBig.f
 repeat' first
   | (with_reducible exact ih0 _ _ _)
   | (with_reducible exact LeO.refl _)
   | (with_reducible exact LeO.none _)
   | (with_reducible refine LeO.ite ?_ ?_)
   | (with_reducible refine LeO.bind ?_ (fun _ => ?_))
   | exact ih0 _ _ _
   | exact LeO.none _
   | refine LeO.ite ?_ ?_
   | refine LeO.bind ?_ (fun _ => ?_)
set_option maxHeartbeats 8000000 in
set_option maxRecDepth 100000 in
theorem rickyardref9_WordsBig.calls (k : Nat) (A0 : Option Addr) (c0 : Nat) (l0 : List (S29)) (r : Int) (w : World) (hr0 : Kd.C k29 w A0 l0.length l0) (hc0 : l0.length ≤ c0) (h : rickyardref9_WordsBig.f k l0 = some r) :
  Calls Try.prog 70 #[.slice A0 l0.length c0] w fun e w' => e = .returned (.int .i64 r) ∧ Drawn0 w w' := by
 have HR0 := aM hr0
 have HC0 := aM hc0
 clear hr0 hc0
 have H : (rickyardref9_WordsBig.l0 k l0 0 0) = some r := h
 clear h
 have H' := aM H
 clear H
 go_enter Try.func70, Try.ntmps70
 go_wp2
 go_loopg [3, 4] k (fun kq v3 v4 w' => ∃ (x3_1 : Int) (x4_1 : Int), v3 = .int .i64 x3_1 ∧ v4 = .int .i64 x4_1 ∧ Aside0 (rickyardref9_WordsBig.l0 kq l0 x3_1 x4_1 = some r) ∧ Aside0 (kq ≤ k) ∧ Drawn0 w w')
 case atStart => exact ⟨(0),(0),(by first|rfl|(simp;done)|(simp [*];done)),(by first|rfl|(simp;done)|(simp [*];done)),H',⟨Nat.le_refl _⟩,by repeat (first|exact Drawn0.refl _|apply Drawn0.step)⟩
 case round =>
  clear H'
  obtain ⟨x3_1, x4_1, rfl, rfl, HA, HK1, ⟨m1, rfl⟩⟩ := hrel
  cases gk with
  | zero => exact absurd HA.out (by simp [rickyardref9_WordsBig.l0])
  | succ k1 =>
   have H := HA.out
   clear HA
   simp only [rickyardref9_WordsBig.l0] at H
   by_cases c2 : x4_1 < (l0.length : Int)
   ·rw [if_pos c2] at H
    have c2b0 : decide (x4_1 < (l0.length : Int)) = true := decide_eq_true c2
    clear c2
    by_cases c3 : 0 ≤ x4_1
    ·rw [if_pos c3] at H
     have c3b0 : decide (0 ≤ x4_1) = true := decide_eq_true c3
     clear c3
     replace H := Option.bind_eq_some_iff.mp H
     obtain ⟨t619, A40, H⟩ := H
     replace H : (rickyardref9_WordsBig.l0 k1 l0 (wrap64 (x3_1 + t619)) (wrap64 (x4_1 + 1))) = some r := H
     have A4 := aM A40
     clear A40
     have H' := aM H
     clear H
     have p618 : 0 ≤ (x4_1 : Int) := oD (by first | (with_reducible assumption) | assumption)
     have q618 : x4_1 < (l0.length : Int) := oD (by first | (with_reducible assumption) | assumption)
     obtain ⟨ad618, e618, hx618_0, hx618_1⟩ := at_T29 HR0.out x4_1 p618 q618
     cases e618
     replace p618 := eq_true p618
     replace q618 := eq_true q618
     go_wp2_with (first|((with_reducible refine gate_callee (f:=17) rfl ?_);refine goesL_ (some 17) rfl rfl Try.func17 (by kernel_rfl) rfl #[.int .i64 ((rd_T29 l0 x4_1).f1)] rfl (by (try simp only [lM,lC,lN]);first|done|rfl|(simp only [lD,lT];rfl)) ?_;(with_reducible refine (rickyardref1_Words.calls ((rd_T29 l0 x4_1).f1) t619 _ A4.out).mono ?_);rintro e w' ⟨rfl,⟨nd,rfl⟩⟩;refine ⟨_,rfl,?_⟩))
     go_roundg k1
     case measure => have:=HK1.out;omega
     case rel => exact ⟨(wrap64 (x3_1 + t619)),(wrap64 (x4_1 + 1)),(by first|rfl|(simp;done)|(simp [*];done)),(by first|rfl|(simp;done)|(simp [*];done)),H',⟨by have:=HK1.out;omega⟩,by repeat (first|exact Drawn0.refl _|apply Drawn0.step)⟩
    ·rw [if_neg c3] at H
     exact absurd H (by simp)
   ·rw [if_neg c2] at H
    have c2b0 : decide (x4_1 < (l0.length : Int)) = false := decide_eq_false c2
    clear c2
    obtain rfl := Option.some.inj H
    go_wp2
    go_ret
    exact ⟨by first | rfl | (simp; done) | (simp [*]; done), by repeat (first | exact Drawn0.refl _ | apply Drawn0.step)⟩

end Go.Proofs.Ytflhbakjlbmfbaa.Pr
