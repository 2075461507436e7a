-- Printed by a program of this session (wip/tools/myprint.py) that runs the kit's print with contracts of this session's own.
import Derived.Test.YtflhbakjlbmfbaaPrx0
import Derived.Test.YtflhbakjlbmfbaaShort
import Derived.Test.YtflhbakjlbmfbaaWTab
import Derived.Test.YtflhbakjlbmfbaaScope
import Derived.Test.YtflhbakjlbmfbaaPrx20
namespace Go.Proofs.Ytflhbakjlbmfbaa.Pr
open Go.RowKit Go.Proofs.YtflhbakjlbmfbaaW.PrintWords Go.Proofs.YtflhbakjlbmfbaaW.PrintLast Go.Proofs.YtflhbakjlbmfbaaW.PrintMore
attribute [local go_sem] max2_int min2_int max_two min_two max_three min_three max_four min_four   -- for this text's walks alone
set_option linter.unusedVariables false
set_option linter.unusedSimpArgs false

/-! ### rickyardlaw13_Made: function 20 -/
mutual
def rickyardlaw13_Made.l0 : Nat → List Int → Int → Int → List (S48) → Option (Int × (List (S48)))
 | 0, _, _, _, _ => none
 | k + 1, x0, x4, x290000, x290001 => if (wrap64 (x4 + 2)) < (x0.length : Int) then (rickyardlaw13_Made.j1 k x0 x4 (decide ((x290001.length : Int) < 60)) x290000 x290001) else (rickyardlaw13_Made.j1 k x0 x4 false x290000 x290001)
def rickyardlaw13_Made.j1 : Nat → List Int → Int → Bool → Int → List (S48) → Option (Int × (List (S48)))
 | 0, _, _, _, _, _ => none
 | k + 1, x0, x4, x19, x290000, x290001 => if x19 = true then (if 0 ≤ x4 then (if x4 < (x0.length : Int) then (if 0 ≤ (Int.tmod (wrap64 (rd x0 x4)) 13) then (if 0 ≤ (wrap64 (x4 + 1)) then (if (wrap64 (x4 + 1)) < (x0.length : Int) then (if 0 ≤ (wrap64 (x4 + 2)) then (if (wrap64 (x4 + 2)) < (x0.length : Int) then ((rickyardref13_Alloc.f x290000 x290001 (shl .i64 1 (Int.tmod (wrap64 (rd x0 x4)) 13)) (wrap64 ((Int.tmod (wrap64 ((wrap64 ((wrap64 (rd x0 (wrap64 (x4 + 1)))) * 256)) + (wrap64 (rd x0 (wrap64 (x4 + 2)))))) 512) * 32))).bind fun bt293 => (if bt293.2.2 = true then (rickyardlaw13_Made.l0 k x0 (wrap64 (x4 + 3)) bt293.1 bt293.2.1) else (rickyardlaw13_Made.l0 k x0 (wrap64 (x4 + 3)) x290000 x290001))) else (none)) else (none)) else (none)) else (none)) else (none)) else (none)) else (none)) else (rickyardlaw13_Made.l1 k x0 0 x290000 x290001)
def rickyardlaw13_Made.l1 : Nat → List Int → Int → Int → List (S48) → Option (Int × (List (S48)))
 | 0, _, _, _, _ => none
 | k + 1, x0, x7, x290000, x290001 => if x7 < (x290001.length : Int) then (if x7 < (x0.length : Int) then (if 0 ≤ x7 then (rickyardlaw13_Made.l1 k x0 (wrap64 (x7 + 1)) x290000 (x290001.set (x7 : Int).toNat (⟨(rd_T48 x290001 x7).f0, (rd_T48 x290001 x7).f1, wrap64 ((Int.tmod (wrap64 (rd x0 x7)) 4) - 1)⟩ : S48))) else (none)) else (some (x290000, x290001))) else (some (x290000, x290001))
end
def rickyardlaw13_Made.f (k : Nat) (l0 : List Int) : Option (Int × (List (S48))) := rickyardlaw13_Made.l0 k l0 0 16384 ([] : List (S48))
theorem rickyardlaw13_Made.mono_l : ∀ k, (∀ y0 y1 y2 y3, LeO (rickyardlaw13_Made.l0 k y0 y1 y2 y3) (rickyardlaw13_Made.l0 (k + 1) y0 y1 y2 y3)) ∧ (∀ y0 y1 y2 y3 y4, LeO (rickyardlaw13_Made.j1 k y0 y1 y2 y3 y4) (rickyardlaw13_Made.j1 (k + 1) y0 y1 y2 y3 y4)) ∧ (∀ y0 y1 y2 y3, LeO (rickyardlaw13_Made.l1 k y0 y1 y2 y3) (rickyardlaw13_Made.l1 (k + 1) y0 y1 y2 y3))
 | 0 => ⟨fun _ _ _ _ r h => by simp [rickyardlaw13_Made.l0] at h, fun _ _ _ _ _ r h => by simp [rickyardlaw13_Made.j1] at h, fun _ _ _ _ r h => by simp [rickyardlaw13_Made.l1] at h⟩
 | k + 1 => by
  obtain ⟨ih0, ih1, ih2⟩ := rickyardlaw13_Made.mono_l k
  refine ⟨?_, ?_, ?_⟩
  ·intro y0 y1 y2 y3
   unfold rickyardlaw13_Made.l0
   repeat' first
   | (with_reducible exact ih0 _ _ _ _)
   | (with_reducible exact ih1 _ _ _ _ _)
   | (with_reducible exact ih2 _ _ _ _)
   | (with_reducible exact LeO.refl _)
   | (with_reducible exact LeO.none _)
   | (with_reducible refine LeO.ite ?_ ?_)
   | (with_reducible refine LeO.bind ?_ (fun _ => ?_))
   | exact ih0 _ _ _ _
   | exact ih1 _ _ _ _ _
   | exact ih2 _ _ _ _
   | exact LeO.none _
   | refine LeO.ite ?_ ?_
   | refine LeO.bind ?_ (fun _ => ?_)
  ·intro y0 y1 y2 y3 y4
   unfold rickyardlaw13_Made.j1
   repeat' first
   | (with_reducible exact ih0 _ _ _ _)
   | (with_reducible exact ih1 _ _ _ _ _)
   | (with_reducible exact ih2 _ _ _ _)
   | (with_reducible exact LeO.refl _)
   | (with_reducible exact LeO.none _)
   | (with_reducible refine LeO.ite ?_ ?_)
   | (with_reducible refine LeO.bind ?_ (fun _ => ?_))
   | exact ih0 _ _ _ _
   | exact ih1 _ _ _ _ _
   | exact ih2 _ _ _ _
   | exact LeO.none _
   | refine LeO.ite ?_ ?_
   | refine LeO.bind ?_ (fun _ => ?_)
  ·intro y0 y1 y2 y3
   unfold rickyardlaw13_Made.l1
   repeat' first
   | (with_reducible exact ih0 _ _ _ _)
   | (with_reducible exact ih1 _ _ _ _ _)
   | (with_reducible exact ih2 _ _ _ _)
   | (with_reducible exact LeO.refl _)
   | (with_reducible exact LeO.none _)
   | (with_reducible refine LeO.ite ?_ ?_)
   | (with_reducible refine LeO.bind ?_ (fun _ => ?_))
   | exact ih0 _ _ _ _
   | exact ih1 _ _ _ _ _
   | exact ih2 _ _ _ _
   | exact LeO.none _
   | refine LeO.ite ?_ ?_
   | refine LeO.bind ?_ (fun _ => ?_)
theorem rickyardlaw13_Made.mono : ∀ a0 k, LeO (rickyardlaw13_Made.f k a0) (rickyardlaw13_Made.f (k + 1) a0) := by
 intro a0 k
 obtain ⟨ih0, ih1, ih2⟩ := rickyardlaw13_Made.mono_l k
 unfold rickyardlaw13_Made.f
 repeat' first
   | (with_reducible exact ih0 _ _ _ _)
   | (with_reducible exact ih1 _ _ _ _ _)
   | (with_reducible exact ih2 _ _ _ _)
   | (with_reducible exact LeO.refl _)
   | (with_reducible exact LeO.none _)
   | (with_reducible refine LeO.ite ?_ ?_)
   | (with_reducible refine LeO.bind ?_ (fun _ => ?_))
   | exact ih0 _ _ _ _
   | exact ih1 _ _ _ _ _
   | exact ih2 _ _ _ _
   | exact LeO.none _
   | refine LeO.ite ?_ ?_
   | refine LeO.bind ?_ (fun _ => ?_)
def rickyardlaw13_Made.T5 : Bool × List (List Nat × List Nat) := (true, [([], []), ([], []), ([], []), ([1, 2], [1, 2]), ([3], [3]), ([4], [4]), ([5], [5]), ([6], [6]), ([], []), ([], []), ([9], [9]), ([8, 10], [8, 10]), ([11], [11]), ([12], [12]), ([13], [13]), ([], []), ([], []), ([16], [16]), ([15, 17], [15, 17]), ([18], [18]), ([19], [19]), ([14, 20], [14, 20]), ([21], [21]), ([22], [22]), ([0, 7, 23], [0, 7, 23]), ([24], [24]), ([25], [25]), ([25], [25]), ([], []), ([28, 26, 24, 0, 1, 2, 3, 4, 5, 6, 7, 8, 9, 10, 11, 12, 13, 14, 15, 16, 17, 18, 19, 20, 21, 22, 23, 24, 25, 26, 28], [26, 28]), ([27, 29, 0, 1, 2, 3, 4, 5, 6, 7, 8, 9, 10, 11, 12, 13, 14, 15, 16, 17, 18, 19, 20, 21, 22, 23, 24, 25, 26, 27, 28, 29], [27])])
def rickyardlaw13_Made.B5 : List Nat := [0, 0, 0, 6, 14, 30, 62, 126, 0, 0, 512, 1792, 3840, 7936, 16128, 0, 0, 65536, 229376, 491520, 1015808, 2096896, 4194048, 8388352, 16777215, 33554431, 67108863, 67108863, 0, 402653183, 1073741823]
theorem rickyardlaw13_Made.tab5 : rtab .any (opsOf Try.f20 5) = rickyardlaw13_Made.T5 := by kernel_rfl
theorem rickyardlaw13_Made.bits5 : waitsOk rickyardlaw13_Made.T5.2 rickyardlaw13_Made.B5 = true := by kernel_rfl
def rickyardlaw13_Made.T11 : Bool × List (List Nat × List Nat) := (true, [([], []), ([0], [0]), ([], []), ([], []), ([], []), ([3, 4], [3, 4]), ([5], [5]), ([6], [6]), ([7], [7]), ([8], [8]), ([1, 2, 0, 1, 2, 3, 4, 5, 6, 7, 8, 9], [1, 2]), ([10, 0, 1, 2, 3, 4, 5, 6, 7, 8, 9], [10]), ([11, 9, 0, 1, 2, 3, 4, 5, 6, 7, 8, 9], [9, 11])])
def rickyardlaw13_Made.B11 : List Nat := [0, 1, 0, 0, 0, 24, 56, 120, 248, 504, 1023, 2047, 4095]
theorem rickyardlaw13_Made.tab11 : rtab .any (opsOf Try.f20 11) = rickyardlaw13_Made.T11 := by kernel_rfl
theorem rickyardlaw13_Made.bits11 : waitsOk rickyardlaw13_Made.T11.2 rickyardlaw13_Made.B11 = true := by kernel_rfl
set_option maxHeartbeats 8000000 in
set_option maxRecDepth 100000 in
theorem rickyardlaw13_Made.calls (k : Nat) (A0 : Option Addr) (c0 : Nat) (l0 : List Int) (r1 : Int) (r2 : List (S48)) (w : World) (hr0 : Kd.C (Kd.int .u8) w A0 l0.length l0) (hc0 : l0.length ≤ c0) (h : rickyardlaw13_Made.f k l0 = some (r1, r2)) :
  Calls Try.prog 20 #[.slice A0 l0.length c0] w fun e w' => ∃ v1_ : Value, e = .returned (.agg #[.int .i64 r1, v1_]) ∧ Kd.R k48 48 w' w.heap.size (fun _ => True) v1_ r2 ∧ Below w.heap.size w w' := by
 have hu41 := Try.underlying41
 have HR0 := aM hr0
 have HC0 := aM hc0
 clear hr0 hc0
 have HB := aM (Below.refl w.heap.size w)
 have H : (rickyardlaw13_Made.l0 k l0 0 16384 ([] : List (S48))) = some (r1, r2) := h
 clear h
 have H' := aM H
 clear H
 go_enter Try.func20, Try.ntmps20
 go_wp2_with (first|((with_reducible refine gate_dst (N:=2) rfl ?_);(try (refine gate_guard (by rfl) ?_;dsimp only));refine box_event ?hg (N:=2) ?hd (cs:=#[.int .i64 0,.slice none 0 0]) (t:=41) ?hr ?_;(case hd => rfl);(case hg => rfl);(case hr => first|(go_simp;done)|(go_simp;rfl));intro gb288 hg w2 hbox hb;have n0_:=aM (wT (by repeat (first|(with_reducible first|exact HB.out|apply wA|apply wN_|apply wD)|exact HB.out)) hb);have n1_:=aM (hbox);have n2_:=aM ((by rw [hg];exact (wZ (by repeat (first|(with_reducible first|exact HB.out|apply wA|apply wN_|apply wD)|exact HB.out))) : w.heap.size ≤ gb288));have n3_:=aM ((by rw [hg];exact (wZ (by repeat (first|(with_reducible first|exact HB.out|apply wA|apply wN_|apply wD)|exact HB.out))) : w.heap.size ≤ gb288));clear HB;have HB:=n0_;have BK288:=n1_;have GW288:=n2_;have GE288:=n3_;clear n0_ n1_ n2_ n3_;clear hb hbox hg)|((with_reducible refine gate_dst (N:=3) rfl ?_);(try (refine gate_guard (by rfl) ?_;dsimp only));refine box_event ?hg (N:=3) ?hd (cs:=#[.int .i64 0,.slice none 0 0]) (t:=41) ?hr ?_;(case hd => rfl);(case hg => rfl);(case hr => first|(go_simp;done)|(go_simp;rfl));intro gb289 hg w3 hbox hb;have n0_:=aM (bB (g:=gb288) (o:=.cells #[.int .i64 0,.slice none 0 0] 41 (0,0)) (by (with_reducible repeat (first|refine bN ?_ _|refine bD ?_|refine bA ?_ _));exact BK288.out) hb);have n1_:=aM (wT (by repeat (first|(with_reducible first|exact HB.out|apply wA|apply wN_|apply wD|refine wS ?_ GE288.out)|exact HB.out)) hb);have n2_:=aM (hbox);have n3_:=aM ((by rw [hg];exact (wZ (by repeat (first|(with_reducible first|exact HB.out|apply wA|apply wN_|apply wD|refine wS ?_ GE288.out)|exact HB.out))) : w.heap.size ≤ gb289));have n4_:=aM ((by rw [hg];exact (wZ (by repeat (first|(with_reducible first|exact HB.out|apply wA|apply wN_|apply wD|refine wS ?_ GE288.out)|exact HB.out))) : w.heap.size ≤ gb289));have n5_:=aM ((by rw [hg];exact Nat.ne_of_lt (bL (g:=gb288) (o:=.cells #[.int .i64 0,.slice none 0 0] 41 (0,0)) (by (with_reducible repeat (first|refine bN ?_ _|refine bD ?_|refine bA ?_ _));exact BK288.out)) : gb288 ≠ gb289));have n6_:=aM ((by rw [hg];exact Nat.ne_of_gt (bL (g:=gb288) (o:=.cells #[.int .i64 0,.slice none 0 0] 41 (0,0)) (by (with_reducible repeat (first|refine bN ?_ _|refine bD ?_|refine bA ?_ _));exact BK288.out)) : gb289 ≠ gb288));clear BK288;clear HB;have BK288:=n0_;have HB:=n1_;have BK289:=n2_;have GW289:=n3_;have GE289:=n4_;have NB288_289:=n5_;have NB289_288:=n6_;clear n0_ n1_ n2_ n3_ n4_ n5_ n6_;clear hb hbox hg;have hnb4:=NB289_288.out;have hnc4:=NB288_289.out;have hcz5_0 : w3.cell? ⟨gb289,0,none⟩ = some (.int .i64 0):=(bC BK289.out 0).trans rfl;have hcz5_1 : w3.cell? ⟨gb289,1,none⟩ = some (.slice none 0 0):=(bC BK289.out 1).trans rfl;have hfz5_0:=bF BK289.out 0;have hfz5_1:=bF BK289.out 1))
 go_loopg [4] k (fun kq v4 w' => ∃ (x4_1 : Int) (x290000_1 : Int) (x290001_1 : List (S48)) (u290001 : Value), v4 = .int .i64 x4_1 ∧ Aside0 (rickyardlaw13_Made.l0 kq l0 x4_1 x290000_1 x290001_1 = some (r1, r2)) ∧ Aside0 (kq ≤ k) ∧ Aside0 (Kd.R k48 48 w' w.heap.size (fun _ => True) u290001 x290001_1) ∧ Aside0 (w'.heap[gb288]? = some (.cells #[.int .i64 0, (.slice none 0 0)] 41 (0, 0))) ∧ Aside0 (w'.heap[gb289]? = some (.cells #[.int .i64 x290000_1, u290001] 41 (0, 0))) ∧ Aside0 (Below w.heap.size w w'))
 case atStart => exact ⟨(0),(16384),(([] : List (S48))),(.slice none 0 0),(by first|rfl|(simp;done)|(simp [*];done)),H',⟨Nat.le_refl _⟩,⟨by first|exact Kd.R_nil _ _ _ _ _|exact Kd.N_nil _ _ _ _ _|exact Kd.V_nil _ _ _ _ _|exact Kd.Q_nil _ _ _ _ _|exact Kd.S_nil _ _ _ _ _⟩,⟨by (with_reducible repeat (first|refine bN ?_ _|refine bD ?_|refine bA ?_ _));refine bR ?_ NB288_289.out _;(with_reducible repeat (first|refine bN ?_ _|refine bD ?_|refine bA ?_ _));refine bR ?_ NB288_289.out _;(with_reducible repeat (first|refine bN ?_ _|refine bD ?_|refine bA ?_ _));exact BK288.out⟩,⟨by (with_reducible repeat (first|refine bN ?_ _|refine bD ?_|refine bA ?_ _));refine bP (cs:=#[.int .i64 16384,.slice none 0 0]) ?_ 1 _ rfl;(with_reducible repeat (first|refine bN ?_ _|refine bD ?_|refine bA ?_ _));refine bP (cs:=#[.int .i64 0,.slice none 0 0]) ?_ 0 _ rfl;(with_reducible repeat (first|refine bN ?_ _|refine bD ?_|refine bA ?_ _));exact BK289.out⟩,⟨by repeat (first|(with_reducible first|exact HB.out|apply wA|apply wN_|apply wD|refine wS ?_ GE288.out|refine wS ?_ GE289.out)|exact HB.out)⟩⟩
 case round =>
  clear H'
  try clear c2
  try clear p2
  try clear c4
  try clear hcz5_0
  try clear hcz5_1
  try clear hfz5_0
  try clear hfz5_1
  obtain ⟨x4_1, x290000_1, x290001_1, u290001, rfl, HA, HK1, HO_290001, BK288, BK289, HB⟩ := hrel
  cases gk with
  | zero => exact absurd HA.out (by simp [rickyardlaw13_Made.l0])
  | succ k1 =>
   have H := HA.out
   clear HA
   simp only [rickyardlaw13_Made.l0] at H
   have HC6 := aM H
   clear H
   go_upto_region 3 with (fail)
   go_cut [19] (fun v19 wc => ∃ (kq : Nat) (x19_5 : Bool), v19 = .bool x19_5 ∧ Aside0 (rickyardlaw13_Made.j1 kq l0 x4_1 x19_5 x290000_1 x290001_1 = some (r1, r2)) ∧ Aside0 (kq ≤ k1) ∧ Aside0 (Kd.R k48 48 wc w.heap.size (fun _ => True) u290001 x290001_1) ∧ Aside0 (wc.heap[gb288]? = some (.cells #[.int .i64 0, (.slice none 0 0)] 41 (0, 0))) ∧ Aside0 (wc.heap[gb289]? = some (.cells #[.int .i64 x290000_1, u290001] 41 (0, 0))) ∧ Aside0 (Below w.heap.size w wc))
   case first =>
    have H := HC6.out
    clear HC6
    by_cases c7 : (wrap64 (x4_1 + 2)) < (l0.length : Int)
    ·rw [if_pos c7] at H
     have c7b0 : decide ((wrap64 (x4_1 + 2)) < (l0.length : Int)) = true := decide_eq_true c7
     clear c7
     (first | rw [c7b0] | (simp only [i64_w, i32_w]; rw [c7b0]) | skip)
     have H' := aM H
     clear H
     have hnb8 := NB289_288.out
     have hnc8 := NB288_289.out
     have hcz9_0 : wr.cell? ⟨gb289, 0, none⟩ = some (.int .i64 x290000_1) := (bC BK289.out 0).trans rfl
     have hcz9_1 : wr.cell? ⟨gb289, 1, none⟩ = some (u290001) := (bC BK289.out 1).trans rfl
     have hfz9_0 := bF BK289.out 0
     have hfz9_1 := bF BK289.out 1
     obtain ⟨Ao10, co10, eo10⟩ := Kd.R_slice HO_290001.out
     subst eo10
     go_wp2
     go_meet
     case rel => exact ⟨_,(decide ((x290001_1.length : Int) < 60)),(by first|rfl|(simp;done)|(simp [*];done)),H',⟨by have:=HK1.out;first|omega|exact Nat.le_refl _⟩,⟨by (with_reducible repeat (first|apply rA|apply rN|apply rD));exact HO_290001.out⟩,⟨by (with_reducible repeat (first|refine bN ?_ _|refine bD ?_|refine bA ?_ _));exact BK288.out⟩,⟨by (with_reducible repeat (first|refine bN ?_ _|refine bD ?_|refine bA ?_ _));exact BK289.out⟩,⟨by repeat (first|(with_reducible first|exact HB.out|apply wA|apply wN_|apply wD|refine wS ?_ GE288.out|refine wS ?_ GE289.out)|exact HB.out)⟩⟩
    ·rw [if_neg c7] at H
     have c7b0 : decide ((wrap64 (x4_1 + 2)) < (l0.length : Int)) = false := decide_eq_false c7
     clear c7
     (first | rw [c7b0] | (simp only [i64_w, i32_w]; rw [c7b0]) | skip)
     have H' := aM H
     clear H
     go_wp2
     go_meet
     case rel => exact ⟨_,(false),(by first|rfl|(simp;done)|(simp [*];done)),H',⟨by have:=HK1.out;first|omega|exact Nat.le_refl _⟩,⟨by (with_reducible repeat (first|apply rA|apply rN|apply rD));exact HO_290001.out⟩,⟨by (with_reducible repeat (first|refine bN ?_ _|refine bD ?_|refine bA ?_ _));exact BK288.out⟩,⟨by (with_reducible repeat (first|refine bN ?_ _|refine bD ?_|refine bA ?_ _));exact BK289.out⟩,⟨by repeat (first|(with_reducible first|exact HB.out|apply wA|apply wN_|apply wD|refine wS ?_ GE288.out|refine wS ?_ GE289.out)|exact HB.out)⟩⟩
   case rest =>
    clear HC6
    try clear c2
    try clear p2
    try clear c4
    try clear p6
    try clear c7
    try clear c7b0
    try clear c8
    try clear hcz5_0
    try clear hcz5_1
    try clear hcz9_0
    try clear hcz9_1
    try clear hfz5_0
    try clear hfz5_1
    try clear hfz9_0
    try clear hfz9_1
    try clear p2
    obtain ⟨kq, x19_5, rfl, HA, HJ5, HO_290001, BK288, BK289, HB⟩ := hcut
    cases kq with
    | zero => exact absurd HA.out (by simp [rickyardlaw13_Made.j1])
    | succ kj5 =>
     have H := HA.out
     clear HA
     simp only [rickyardlaw13_Made.j1] at H
     by_cases c11 : x19_5 = true
     ·subst c11
      have H1 : (if 0 ≤ x4_1 then (if x4_1 < (l0.length : Int) then (if 0 ≤ (Int.tmod (wrap64 (rd l0 x4_1)) 13) then (if 0 ≤ (wrap64 (x4_1 + 1)) then (if (wrap64 (x4_1 + 1)) < (l0.length : Int) then (if 0 ≤ (wrap64 (x4_1 + 2)) then (if (wrap64 (x4_1 + 2)) < (l0.length : Int) then ((rickyardref13_Alloc.f x290000_1 x290001_1 (shl .i64 1 (Int.tmod (wrap64 (rd l0 x4_1)) 13)) (wrap64 ((Int.tmod (wrap64 ((wrap64 ((wrap64 (rd l0 (wrap64 (x4_1 + 1)))) * 256)) + (wrap64 (rd l0 (wrap64 (x4_1 + 2)))))) 512) * 32))).bind fun bt293 => (if bt293.2.2 = true then (rickyardlaw13_Made.l0 kj5 l0 (wrap64 (x4_1 + 3)) bt293.1 bt293.2.1) else (rickyardlaw13_Made.l0 kj5 l0 (wrap64 (x4_1 + 3)) x290000_1 x290001_1))) else (none)) else (none)) else (none)) else (none)) else (none)) else (none)) else (none)) = some (r1, r2) := by rw [if_pos rfl] at H; exact H
      clear H
      have H := H1
      clear H1
      by_cases c12 : 0 ≤ x4_1
      ·rw [if_pos c12] at H
       have c12b0 : decide (0 ≤ x4_1) = true := decide_eq_true c12
       clear c12
       by_cases c13 : x4_1 < (l0.length : Int)
       ·rw [if_pos c13] at H
        have c13b0 : decide (x4_1 < (l0.length : Int)) = true := decide_eq_true c13
        clear c13
        obtain ⟨ji14, hji14⟩ : ∃ j_ : Int, (Int.tmod (wrap64 (rd l0 x4_1)) 13) = j_ := ⟨_, rfl⟩
        replace H : (if 0 ≤ (ji14) then (if 0 ≤ (wrap64 (x4_1 + 1)) then (if (wrap64 (x4_1 + 1)) < (l0.length : Int) then (if 0 ≤ (wrap64 (x4_1 + 2)) then (if (wrap64 (x4_1 + 2)) < (l0.length : Int) then ((rickyardref13_Alloc.f x290000_1 x290001_1 (shl .i64 1 (ji14)) (wrap64 ((Int.tmod (wrap64 ((wrap64 ((wrap64 (rd l0 (wrap64 (x4_1 + 1)))) * 256)) + (wrap64 (rd l0 (wrap64 (x4_1 + 2)))))) 512) * 32))).bind fun bt293 => (if bt293.2.2 = true then (rickyardlaw13_Made.l0 kj5 l0 (wrap64 (x4_1 + 3)) bt293.1 bt293.2.1) else (rickyardlaw13_Made.l0 kj5 l0 (wrap64 (x4_1 + 3)) x290000_1 x290001_1))) else (none)) else (none)) else (none)) else (none)) else (none)) = some (r1, r2) := by first | (rw [hji14] at H; exact H) | (simp only [hji14] at H ⊢; exact H)
        by_cases c15 : 0 ≤ (ji14)
        ·rw [if_pos c15] at H
         have c15b0 := eq_true c15
         have c15b1 : decide (0 ≤ (ji14)) = true := decide_eq_true c15
         clear c15
         obtain ⟨ji16, hji16⟩ : ∃ j_ : Int, (shl .i64 1 (ji14)) = j_ := ⟨_, rfl⟩
         replace H : (if 0 ≤ (wrap64 (x4_1 + 1)) then (if (wrap64 (x4_1 + 1)) < (l0.length : Int) then (if 0 ≤ (wrap64 (x4_1 + 2)) then (if (wrap64 (x4_1 + 2)) < (l0.length : Int) then ((rickyardref13_Alloc.f x290000_1 x290001_1 (ji16) (wrap64 ((Int.tmod (wrap64 ((wrap64 ((wrap64 (rd l0 (wrap64 (x4_1 + 1)))) * 256)) + (wrap64 (rd l0 (wrap64 (x4_1 + 2)))))) 512) * 32))).bind fun bt293 => (if bt293.2.2 = true then (rickyardlaw13_Made.l0 kj5 l0 (wrap64 (x4_1 + 3)) bt293.1 bt293.2.1) else (rickyardlaw13_Made.l0 kj5 l0 (wrap64 (x4_1 + 3)) x290000_1 x290001_1))) else (none)) else (none)) else (none)) else (none)) = some (r1, r2) := by first | (rw [hji16] at H; exact H) | (simp only [hji16] at H ⊢; exact H)
         have hji16_ : (IntKind.i64.wrap (1 * 2 ^ min (ji14).toNat 64)) = ji16 := hji16
         have hji16z : (ji14) ≤ 64 → (IntKind.i64.wrap (1 * 2 ^ (ji14).toNat)) = ji16 := shl_small hji16
         have hji16u : (IntKind.i64.wrap (2 ^ min (ji14).toNat 64)) = ji16 := by have h_ := hji16_; rw [Int.one_mul] at h_; exact h_
         have hji16v : (ji14) ≤ 64 → (IntKind.i64.wrap (2 ^ (ji14).toNat)) = ji16 := fun hle_ => by have h_ := hji16z hle_; rw [Int.one_mul] at h_; exact h_
         have hji16y : (wrap64 (1 * 2 ^ min (ji14).toNat 64)) = ji16 := (i64_w _).symm.trans hji16_
         have hji16x : (ji14) ≤ 64 → (wrap64 (1 * 2 ^ (ji14).toNat)) = ji16 := fun h_ => (i64_w _).symm.trans (hji16z h_)
         obtain ⟨ji17, hji17⟩ : ∃ j_ : Int, (wrap64 (x4_1 + 1)) = j_ := ⟨_, rfl⟩
         replace H : (if 0 ≤ (ji17) then (if (ji17) < (l0.length : Int) then (if 0 ≤ (wrap64 (x4_1 + 2)) then (if (wrap64 (x4_1 + 2)) < (l0.length : Int) then ((rickyardref13_Alloc.f x290000_1 x290001_1 (ji16) (wrap64 ((Int.tmod (wrap64 ((wrap64 ((wrap64 (rd l0 (ji17))) * 256)) + (wrap64 (rd l0 (wrap64 (x4_1 + 2)))))) 512) * 32))).bind fun bt293 => (if bt293.2.2 = true then (rickyardlaw13_Made.l0 kj5 l0 (wrap64 (x4_1 + 3)) bt293.1 bt293.2.1) else (rickyardlaw13_Made.l0 kj5 l0 (wrap64 (x4_1 + 3)) x290000_1 x290001_1))) else (none)) else (none)) else (none)) else (none)) = some (r1, r2) := by first | (rw [hji17] at H; exact H) | (simp only [hji17] at H ⊢; exact H)
         have hji17w : (IntKind.i64.wrap (x4_1 + 1)) = ji17 := (i64_w _).trans hji17
         by_cases c18 : 0 ≤ (ji17)
         ·rw [if_pos c18] at H
          have c18b0 : decide (0 ≤ (ji17)) = true := decide_eq_true c18
          clear c18
          by_cases c19 : (ji17) < (l0.length : Int)
          ·rw [if_pos c19] at H
           have c19b0 : decide ((ji17) < (l0.length : Int)) = true := decide_eq_true c19
           clear c19
           obtain ⟨ji20, hji20⟩ : ∃ j_ : Int, (wrap64 (x4_1 + 2)) = j_ := ⟨_, rfl⟩
           replace H : (if 0 ≤ (ji20) then (if (ji20) < (l0.length : Int) then ((rickyardref13_Alloc.f x290000_1 x290001_1 (ji16) (wrap64 ((Int.tmod (wrap64 ((wrap64 ((wrap64 (rd l0 (ji17))) * 256)) + (wrap64 (rd l0 (ji20))))) 512) * 32))).bind fun bt293 => (if bt293.2.2 = true then (rickyardlaw13_Made.l0 kj5 l0 (wrap64 (x4_1 + 3)) bt293.1 bt293.2.1) else (rickyardlaw13_Made.l0 kj5 l0 (wrap64 (x4_1 + 3)) x290000_1 x290001_1))) else (none)) else (none)) = some (r1, r2) := by first | (rw [hji20] at H; exact H) | (simp only [hji20] at H ⊢; exact H)
           have hji20w : (IntKind.i64.wrap (x4_1 + 2)) = ji20 := (i64_w _).trans hji20
           by_cases c21 : 0 ≤ (ji20)
           ·rw [if_pos c21] at H
            have c21b0 : decide (0 ≤ (ji20)) = true := decide_eq_true c21
            clear c21
            by_cases c22 : (ji20) < (l0.length : Int)
            ·rw [if_pos c22] at H
             have c22b0 : decide ((ji20) < (l0.length : Int)) = true := decide_eq_true c22
             clear c22
             replace H := Option.bind_eq_some_iff.mp H
             obtain ⟨⟨t293, t294, t297⟩, A230, H⟩ := H
             replace H : (if t297 = true then (rickyardlaw13_Made.l0 kj5 l0 (wrap64 (x4_1 + 3)) t293 t294) else (rickyardlaw13_Made.l0 kj5 l0 (wrap64 (x4_1 + 3)) x290000_1 x290001_1)) = some (r1, r2) := H
             have A23 := aM A230
             clear A230
             by_cases c24 : t297 = true
             ·subst c24
              have H1 : (rickyardlaw13_Made.l0 kj5 l0 (wrap64 (x4_1 + 3)) t293 t294) = some (r1, r2) := by rw [if_pos rfl] at H; exact H
              clear H
              have H := H1
              clear H1
              have H' := aM H
              clear H
              obtain ⟨Ao25, co25, eo25⟩ := Kd.R_slice HO_290001.out
              subst eo25
              try go_wp2
              have n0_ := aM (rD HO_290001.out)
              have n1_ := aM (bD BK288.out)
              have n2_ := aM (bD BK289.out)
              have n3_ := aM (wD HB.out)
              clear HO_290001
              clear BK288
              clear BK289
              clear HB
              have HO_290001 := n0_
              have BK288 := n1_
              have BK289 := n2_
              have HB := n3_
              clear n0_ n1_ n2_ n3_
              have p290 : 0 ≤ (x4_1 : Int) := oD (by first | (with_reducible assumption) | assumption)
              have q290 : x4_1 < (l0.length : Int) := oD (by first | (with_reducible assumption) | assumption)
              obtain ⟨ad290, e290, hx290_0⟩ := Kd.at_int HR0.out x4_1 p290 q290
              have hw290_0 := hx290_0
              cases e290
              replace hx290_0 := (HB.out.cell (wL w _ hx290_0)).trans hx290_0
              replace p290 := eq_true p290
              replace q290 := eq_true q290
              have p291 : 0 ≤ ((ji17) : Int) := oD (by first | (with_reducible assumption) | assumption)
              have q291 : (ji17) < (l0.length : Int) := oD (by first | (with_reducible assumption) | assumption)
              obtain ⟨ad291, e291, hx291_0⟩ := Kd.at_int HR0.out (ji17) p291 q291
              have hw291_0 := hx291_0
              obtain rfl : ad290 = ad291 := (by injection e291)
              replace hx291_0 := (HB.out.cell (wL w _ hx291_0)).trans hx291_0
              replace p291 := eq_true p291
              replace q291 := eq_true q291
              have p292 : 0 ≤ ((ji20) : Int) := oD (by first | (with_reducible assumption) | assumption)
              have q292 : (ji20) < (l0.length : Int) := oD (by first | (with_reducible assumption) | assumption)
              obtain ⟨ad292, e292, hx292_0⟩ := Kd.at_int HR0.out (ji20) p292 q292
              have hw292_0 := hx292_0
              obtain rfl : ad290 = ad292 := (by injection e292)
              replace hx292_0 := (HB.out.cell (wL w _ hx292_0)).trans hx292_0
              replace p292 := eq_true p292
              replace q292 := eq_true q292
              refine start_ (n := 31) (S := fun w' => w'.cell? ⟨gb289, 0, none⟩ = some (.int .i64 x290000_1) ∧ w'.cell? ⟨gb289, 1, none⟩ = some (.slice Ao25 x290001_1.length co25) ∧ w'.cell? (ad290.add (x4_1).toNat) = some (.int .u8 (rd l0 x4_1)) ∧ w'.cell? (ad290.add ((ji17)).toNat) = some (.int .u8 (rd l0 (ji17))) ∧ w'.cell? (ad290.add ((ji20)).toNat) = some (.int .u8 (rd l0 (ji20)))) (ds := []) (msk 0 31) (by kernel_rfl) rfl rfl ⟨(bC BK289.out 0).trans rfl, (bC BK289.out 1).trans rfl, ((HB.out.cell (wL w _ hw290_0)).trans hw290_0), ((HB.out.cell (wL w _ hw291_0)).trans hw291_0), ((HB.out.cell (wL w _ hw292_0)).trans hw292_0)⟩ (fun hHeld => ?_); refine with_tabW rickyardlaw13_Made.tab5 rickyardlaw13_Made.bits5 (fun HT_ HW_ => ?_)
              generalize wc.drew = w26 at HO_290001 BK288 BK289 HB hx290_0 hx291_0 hx292_0 hHeld ⊢
              refine pure_ (i := 1) (N := some 24) (v := ?_) (a' := ?_) #[ff,tt,ff,ff,ff,ff,ff,ff,ff,ff,ff,ff,ff,ff,ff,ff,ff,ff,ff,ff,ff,ff,ff,ff,ff,ff,ff,ff,ff,ff,ff] rfl rfl (any_of HT_.out (by kernel_rfl)) (fun _ _ _ h => h) (Or.inl ⟨by rfl, ?_⟩) ?_ ?_
              rotate_left
              ·intro w'
               go_simp
               with_reducible rfl
              rotate_left
              ·simp only [Act.put, lS, lZ, lU, i64_w, i32_w]
               rfl
              refine pure_ (i := 2) (N := some 25) (v := ?_) (a' := ?_) #[ff,tt,tt,ff,ff,ff,ff,ff,ff,ff,ff,ff,ff,ff,ff,ff,ff,ff,ff,ff,ff,ff,ff,ff,ff,ff,ff,ff,ff,ff,ff] rfl rfl (any_of HT_.out (by kernel_rfl)) (fun _ _ _ h => h) (Or.inl ⟨by rfl, ?_⟩) ?_ ?_
              rotate_left
              ·intro w'
               go_simp
               with_reducible rfl
              rotate_left
              ·simp only [Act.put, lS, lZ, lU, i64_w, i32_w]
               rfl
              refine pure_ (i := 3) (N := some 26) (v := ?_) (a' := ?_) #[ff,tt,tt,tt,ff,ff,ff,ff,ff,ff,ff,ff,ff,ff,ff,ff,ff,ff,ff,ff,ff,ff,ff,ff,ff,ff,ff,ff,ff,ff,ff] rfl rfl (any_of HT_.out (by kernel_rfl)) (fun _ _ _ h => h) (Or.inl ⟨by rfl, ?_⟩) ?_ ?_
              rotate_left
              ·intro w'
               go_simp
               with_reducible rfl
              rotate_left
              ·simp only [Act.put, lS, lZ, lU, i64_w, i32_w]
               rfl
              refine pure_ (i := 8) (N := some 31) (v := ?_) (a' := ?_) #[ff,tt,tt,tt,ff,ff,ff,ff,tt,ff,ff,ff,ff,ff,ff,ff,ff,ff,ff,ff,ff,ff,ff,ff,ff,ff,ff,ff,ff,ff,ff] rfl rfl (any_of HT_.out (by kernel_rfl)) (fun _ _ _ h => h) (Or.inl ⟨by rfl, ?_⟩) ?_ ?_
              rotate_left
              ·intro w'
               go_simp
               with_reducible rfl
              rotate_left
              ·simp only [Act.put, lS, lZ, lU, i64_w, i32_w]
               rfl
              refine pure_ (i := 9) (N := some 32) (v := ?_) (a' := ?_) #[ff,tt,tt,tt,ff,ff,ff,ff,tt,tt,ff,ff,ff,ff,ff,ff,ff,ff,ff,ff,ff,ff,ff,ff,ff,ff,ff,ff,ff,ff,ff] rfl rfl (any_of HT_.out (by kernel_rfl)) (fun _ _ _ h => h) (Or.inl ⟨by rfl, ?_⟩) ?_ ?_
              rotate_left
              ·intro w'
               go_simp
               with_reducible rfl
              rotate_left
              ·simp only [Act.put, lS, lZ, lU, i64_w, i32_w]
               rfl
              refine pure_ (i := 10) (N := some 33) (v := ?_) (a' := ?_) #[ff,tt,tt,tt,ff,ff,ff,ff,tt,tt,tt,ff,ff,ff,ff,ff,ff,ff,ff,ff,ff,ff,ff,ff,ff,ff,ff,ff,ff,ff,ff] rfl rfl (any_of HT_.out (by kernel_rfl)) (fun _ _ _ h => h) (Or.inl ⟨by rfl, ?_⟩) ?_ ?_
              rotate_left
              ·intro w'
               go_simp
               with_reducible rfl
              rotate_left
              ·simp only [Act.put, lS, lZ, lU, i64_w, i32_w]
               rfl
              refine pure_ (i := 11) (N := some 34) (v := ?_) (a' := ?_) #[ff,tt,tt,tt,ff,ff,ff,ff,tt,tt,tt,tt,ff,ff,ff,ff,ff,ff,ff,ff,ff,ff,ff,ff,ff,ff,ff,ff,ff,ff,ff] rfl rfl (any_of HT_.out (by kernel_rfl)) (fun _ _ _ h => h) (Or.inl ⟨by rfl, ?_⟩) ?_ ?_
              rotate_left
              ·intro w'
               go_simp
               with_reducible rfl
              rotate_left
              ·simp only [Act.put, lS, lZ, lU, i64_w, i32_w]
               rfl
              refine pure_ (i := 15) (N := some 38) (v := ?_) (a' := ?_) #[ff,tt,tt,tt,ff,ff,ff,ff,tt,tt,tt,tt,ff,ff,ff,tt,ff,ff,ff,ff,ff,ff,ff,ff,ff,ff,ff,ff,ff,ff,ff] rfl rfl (any_of HT_.out (by kernel_rfl)) (fun _ _ _ h => h) (Or.inl ⟨by rfl, ?_⟩) ?_ ?_
              rotate_left
              ·intro w'
               go_simp
               with_reducible rfl
              rotate_left
              ·simp only [Act.put, lS, lZ, lU, i64_w, i32_w]
               rfl
              refine pure_ (i := 16) (N := some 39) (v := ?_) (a' := ?_) #[ff,tt,tt,tt,ff,ff,ff,ff,tt,tt,tt,tt,ff,ff,ff,tt,tt,ff,ff,ff,ff,ff,ff,ff,ff,ff,ff,ff,ff,ff,ff] rfl rfl (any_of HT_.out (by kernel_rfl)) (fun _ _ _ h => h) (Or.inl ⟨by rfl, ?_⟩) ?_ ?_
              rotate_left
              ·intro w'
               go_simp
               with_reducible rfl
              rotate_left
              ·simp only [Act.put, lS, lZ, lU, i64_w, i32_w]
               rfl
              refine pure_ (i := 17) (N := some 40) (v := ?_) (a' := ?_) #[ff,tt,tt,tt,ff,ff,ff,ff,tt,tt,tt,tt,ff,ff,ff,tt,tt,tt,ff,ff,ff,ff,ff,ff,ff,ff,ff,ff,ff,ff,ff] rfl rfl (any_of HT_.out (by kernel_rfl)) (fun _ _ _ h => h) (Or.inl ⟨by rfl, ?_⟩) ?_ ?_
              rotate_left
              ·intro w'
               go_simp
               with_reducible rfl
              rotate_left
              ·simp only [Act.put, lS, lZ, lU, i64_w, i32_w]
               rfl
              refine pure_ (i := 18) (N := some 41) (v := ?_) (a' := ?_) #[ff,tt,tt,tt,ff,ff,ff,ff,tt,tt,tt,tt,ff,ff,ff,tt,tt,tt,tt,ff,ff,ff,ff,ff,ff,ff,ff,ff,ff,ff,ff] rfl rfl (any_of HT_.out (by kernel_rfl)) (fun _ _ _ h => h) (Or.inl ⟨by rfl, ?_⟩) ?_ ?_
              rotate_left
              ·intro w'
               go_simp
               with_reducible rfl
              rotate_left
              ·simp only [Act.put, lS, lZ, lU, i64_w, i32_w]
               rfl
              refine take_ (i := 0) (N := some 23) (v := ?_) (a' := ?_) #[tt,tt,tt,tt,ff,ff,ff,ff,tt,tt,tt,tt,ff,ff,ff,tt,tt,tt,tt,ff,ff,ff,ff,ff,ff,ff,ff,ff,ff,ff,ff] rfl rfl (take_ofW HT_.out HW_.out (by kernel_rfl)) (fun _ _ _ h => h) (Or.inl ⟨by rfl, ?_⟩) hHeld ?_ ?_
              rotate_left
              ·rintro w' ⟨s0, s1, s2, s3, s4⟩
               go_simp
               with_reducible rfl
              rotate_left
              ·simp only [Act.put, lS, lZ, lU, i64_w, i32_w]
               rfl
              refine take_ (i := 4) (N := some 27) (v := ?_) (a' := ?_) #[tt,tt,tt,tt,tt,ff,ff,ff,tt,tt,tt,tt,ff,ff,ff,tt,tt,tt,tt,ff,ff,ff,ff,ff,ff,ff,ff,ff,ff,ff,ff] rfl rfl (take_ofW HT_.out HW_.out (by kernel_rfl)) (fun _ _ _ h => h) (Or.inl ⟨by rfl, ?_⟩) hHeld ?_ ?_
              rotate_left
              ·rintro w' ⟨s0, s1, s2, s3, s4⟩
               go_simp
               with_reducible rfl
              rotate_left
              ·simp only [Act.put, lS, lZ, lU, i64_w, i32_w]
               rfl
              refine pure_ (i := 5) (N := some 28) (v := ?_) (a' := ?_) #[tt,tt,tt,tt,tt,tt,ff,ff,tt,tt,tt,tt,ff,ff,ff,tt,tt,tt,tt,ff,ff,ff,ff,ff,ff,ff,ff,ff,ff,ff,ff] rfl rfl (any_of HT_.out (by kernel_rfl)) (fun _ _ _ h => h) (Or.inl ⟨by rfl, ?_⟩) ?_ ?_
              rotate_left
              ·intro w'
               go_simp
               with_reducible rfl
              rotate_left
              ·simp only [Act.put, lS, lZ, lU, i64_w, i32_w]
               rfl
              refine pure_ (i := 6) (N := some 29) (v := ?_) (a' := ?_) #[tt,tt,tt,tt,tt,tt,tt,ff,tt,tt,tt,tt,ff,ff,ff,tt,tt,tt,tt,ff,ff,ff,ff,ff,ff,ff,ff,ff,ff,ff,ff] rfl rfl (any_of HT_.out (by kernel_rfl)) (fun _ _ _ h => h) (Or.inl ⟨by rfl, ?_⟩) ?_ ?_
              rotate_left
              ·intro w'
               go_simp
               with_reducible rfl
              rotate_left
              ·simp only [Act.put, lS, lZ, lU, i64_w, i32_w]
               rfl
              refine pure_ (i := 7) (N := some 30) (v := ?_) (a' := ?_) #[tt,tt,tt,tt,tt,tt,tt,tt,tt,tt,tt,tt,ff,ff,ff,tt,tt,tt,tt,ff,ff,ff,ff,ff,ff,ff,ff,ff,ff,ff,ff] rfl rfl (any_of HT_.out (by kernel_rfl)) (fun _ _ _ h => h) (Or.inl ⟨by rfl, ?_⟩) ?_ ?_
              rotate_left
              ·intro w'
               go_simp
               with_reducible rfl
              rotate_left
              ·simp only [Act.put, lS, lZ, lU, i64_w, i32_w]
               rfl
              refine take_ (i := 12) (N := some 35) (v := ?_) (a' := ?_) #[tt,tt,tt,tt,tt,tt,tt,tt,tt,tt,tt,tt,tt,ff,ff,tt,tt,tt,tt,ff,ff,ff,ff,ff,ff,ff,ff,ff,ff,ff,ff] rfl rfl (take_ofW HT_.out HW_.out (by kernel_rfl)) (fun _ _ _ h => h) (Or.inl ⟨by rfl, ?_⟩) hHeld ?_ ?_
              rotate_left
              ·rintro w' ⟨s0, s1, s2, s3, s4⟩
               go_simp
               with_reducible rfl
              rotate_left
              ·simp only [Act.put, lS, lZ, lU, i64_w, i32_w]
               rfl
              refine pure_ (i := 13) (N := some 36) (v := ?_) (a' := ?_) #[tt,tt,tt,tt,tt,tt,tt,tt,tt,tt,tt,tt,tt,tt,ff,tt,tt,tt,tt,ff,ff,ff,ff,ff,ff,ff,ff,ff,ff,ff,ff] rfl rfl (any_of HT_.out (by kernel_rfl)) (fun _ _ _ h => h) (Or.inl ⟨by rfl, ?_⟩) ?_ ?_
              rotate_left
              ·intro w'
               go_simp
               with_reducible rfl
              rotate_left
              ·simp only [Act.put, lS, lZ, lU, i64_w, i32_w]
               rfl
              refine pure_ (i := 14) (N := some 37) (v := ?_) (a' := ?_) (msk 19 12) rfl rfl (any_of HT_.out (by kernel_rfl)) (fun _ _ _ h => h) (Or.inl ⟨by rfl, ?_⟩) ?_ ?_
              rotate_left
              ·intro w'
               go_simp
               with_reducible rfl
              rotate_left
              ·simp only [Act.put, lS, lZ, lU, i64_w, i32_w]
               rfl
              refine take_ (i := 19) (N := some 42) (v := ?_) (a' := ?_) (msk 20 11) rfl rfl (take_ofW HT_.out HW_.out (by kernel_rfl)) (fun _ _ _ h => h) (Or.inl ⟨by rfl, ?_⟩) hHeld ?_ ?_
              rotate_left
              ·rintro w' ⟨s0, s1, s2, s3, s4⟩
               go_simp
               with_reducible rfl
              rotate_left
              ·simp only [Act.put, lS, lZ, lU, i64_w, i32_w]
               rfl
              refine pure_ (i := 20) (N := some 43) (v := ?_) (a' := ?_) (msk 21 10) rfl rfl (any_of HT_.out (by kernel_rfl)) (fun _ _ _ h => h) (Or.inl ⟨by rfl, ?_⟩) ?_ ?_
              rotate_left
              ·intro w'
               go_simp
               with_reducible rfl
              rotate_left
              ·simp only [Act.put, lS, lZ, lU, i64_w, i32_w]
               rfl
              refine pure_ (i := 21) (N := some 44) (v := ?_) (a' := ?_) (msk 22 9) rfl rfl (any_of HT_.out (by kernel_rfl)) (fun _ _ _ h => h) (Or.inl ⟨by rfl, ?_⟩) ?_ ?_
              rotate_left
              ·intro w'
               go_simp
               with_reducible rfl
              rotate_left
              ·simp only [Act.put, lS, lZ, lU, i64_w, i32_w]
               rfl
              refine pure_ (i := 22) (N := some 45) (v := ?_) (a' := ?_) (msk 23 8) rfl rfl (any_of HT_.out (by kernel_rfl)) (fun _ _ _ h => h) (Or.inl ⟨by rfl, ?_⟩) ?_ ?_
              rotate_left
              ·intro w'
               go_simp
               with_reducible rfl
              rotate_left
              ·simp only [Act.put, lS, lZ, lU, i64_w, i32_w]
               rfl
              refine pure_ (i := 23) (N := some 46) (v := ?_) (a' := ?_) (msk 24 7) rfl rfl (any_of HT_.out (by kernel_rfl)) (fun _ _ _ h => h) (Or.inl ⟨by rfl, ?_⟩) ?_ ?_
              rotate_left
              ·intro w'
               go_simp
               with_reducible rfl
              rotate_left
              ·simp only [Act.put, lS, lZ, lU, i64_w, i32_w]
               rfl
              refine join_ (σ := Value × Nat) 2 (msk 29 2) (fun s_ => [(47, .tuple #[.agg #[.int .i64 t293, s_.1], .bool true]), (5, .pointer (some ⟨s_.2, 0, none⟩)), (22, .tuple #[.agg #[.int .i64 t293, s_.1], .bool true]), (48, .agg #[.int .i64 t293, s_.1]), (49, .bool true)]) (fun s_ w' => (w'.cell? ⟨gb289, 0, none⟩ = some (.int .i64 x290000_1) ∧ w'.cell? ⟨gb289, 1, none⟩ = some (.slice Ao25 x290001_1.length co25) ∧ w'.cell? (ad290.add (x4_1).toNat) = some (.int .u8 (rd l0 x4_1)) ∧ w'.cell? (ad290.add ((ji17)).toNat) = some (.int .u8 (rd l0 (ji17))) ∧ w'.cell? (ad290.add ((ji20)).toNat) = some (.int .u8 (rd l0 (ji20)))) ∧ (Kd.R k48 48 w' w.heap.size (fun k_ => some k_ ≠ (.slice Ao25 x290001_1.length co25 : Value).ownBlock) s_.1 t294) ∧ (Kd.R k48 48 w' w.heap.size (fun k_ => some k_ ≠ (s_.1 : Value).ownBlock) (.slice Ao25 x290001_1.length co25) x290001_1) ∧ (w'.heap[gb288]? = some (.cells #[.int .i64 0, .slice none 0 0] 41 (0, 0))) ∧ (w'.heap[gb289]? = some (.cells #[.int .i64 x290000_1, .slice Ao25 x290001_1.length co25] 41 (0, 0))) ∧ (w'.heap[s_.2]? = some (.cells #[.int .i64 0, .slice none 0 0] 41 (0, 0))) ∧ (w.heap.size ≤ s_.2) ∧ (w.heap.size ≤ s_.2) ∧ (gb288 ≠ s_.2) ∧ (s_.2 ≠ gb288) ∧ (gb289 ≠ s_.2) ∧ (s_.2 ≠ gb289) ∧ (Below w.heap.size w w')) ?_ ?_
              rotate_left
              ·intro hCont
               refine two_ (i := 24) (j := 28) (Ni := some 47) (Nj := some 5) (msk 25 6) #[tt,tt,tt,tt,tt,tt,tt,tt,tt,tt,tt,tt,tt,tt,tt,tt,tt,tt,tt,tt,tt,tt,tt,tt,ff,ff,ff,ff,tt,ff,ff] rfl rfl rfl rfl (two_of HT_.out (by kernel_rfl)) (by decide) (by decide) (fun K hK => ?_) (fun K hK => ?_)
               ·skip
                refine goes_ Try.func50 (by kernel_rfl) rfl #[.agg #[.int .i64 x290000_1, .slice Ao25 x290001_1.length co25], .int .i64 ji16, .int .i64 (wrap64 ((Int.tmod (wrap64 ((wrap64 ((wrap64 (rd l0 (ji17))) * 256)) + (wrap64 (rd l0 (ji20))))) 512) * 32))] (by rfl) rfl rfl (by (try simp only [lM, lC, lN]); first | done | (simp only [hji16, hji17, hji20]; rfl) | rfl | (simp only [lD, lT]; rfl)) ?_
                with_reducible refine (rickyardref13_Alloc.calls x290000_1 _ _ x290001_1 ji16 (wrap64 ((Int.tmod (wrap64 ((wrap64 ((wrap64 (rd l0 (ji17))) * 256)) + (wrap64 (rd l0 (ji20))))) 512) * 32)) t293 t294 true _ ?side1 ?side2 A23.out).mono ?_
                (case side1 => repeat (first|exact (Kd.R_reads' HO_290001.out).2.2|(with_reducible refine cA ?_ _)|(with_reducible refine cN ?_ _)|(with_reducible refine cD ?_)))
                (case side2 => exact (Kd.R_reads' HO_290001.out).2.1)
                rintro e w27 ⟨v295, rfl, ho0, hb⟩
                refine ⟨_, rfl, ?_⟩
                have n0_ := aM (Kd.R_elder' (by (with_reducible repeat (first | apply rA | apply rN | apply rD)); exact HO_290001.out) (Kd.R_base ho0) hb)
                have n1_ := aM (Kd.R_lower (Kd.R_new' ho0 (Kd.R_lt (by (with_reducible repeat (first | apply rA | apply rN | apply rD)); exact HO_290001.out))) (wZ (by repeat (first | (with_reducible first | exact HB.out | apply wA | apply wN_ | apply wD | refine wS ?_ GE288.out | refine wS ?_ GE289.out) | exact HB.out))))
                have n2_ := aM (bB (g := gb288) (o := .cells #[.int .i64 0, .slice none 0 0] 41 (0, 0)) (by (with_reducible repeat (first | refine bN ?_ _ | refine bD ?_ | refine bA ?_ _)); exact BK288.out) hb)
                have n3_ := aM (bB (g := gb289) (o := .cells #[.int .i64 x290000_1, .slice Ao25 x290001_1.length co25] 41 (0, 0)) (by (with_reducible repeat (first | refine bN ?_ _ | refine bD ?_ | refine bA ?_ _)); exact BK289.out) hb)
                have n4_ := aM (wT (by repeat (first | (with_reducible first | exact HB.out | apply wA | apply wN_ | apply wD | refine wS ?_ GE288.out | refine wS ?_ GE289.out) | exact HB.out)) hb)
                clear HO_290001
                clear BK288
                clear BK289
                clear HB
                have HO_290001 := n0_
                have HO296 := n1_
                have BK288 := n2_
                have BK289 := n3_
                have HB := n4_
                clear n0_ n1_ n2_ n3_ n4_
                (try clear hb)
                (try clear hb2)
                (try clear hk)
                (try clear hi)
                (try clear ho0)
                refine hK.out _ _ ⟨(bC BK289.out 0).trans rfl, (bC BK289.out 1).trans rfl, ((HB.out.cell (wL w _ hw290_0)).trans hw290_0), ((HB.out.cell (wL w _ hw291_0)).trans hw291_0), ((HB.out.cell (wL w _ hw292_0)).trans hw292_0)⟩ (fun hHeld => ?_)
                clear hK K
                refine norm_ (a' := ?_) ?_ ?_
                rotate_left
                ·show Act.put _ (some 47) _ = _
                 simp only [Act.put, lS, lZ, lU, i64_w, i32_w]
                 rfl
                refine pure_ (i := 25) (N := some 22) (v := ?_) (a' := ?_) (msk 26 5) rfl rfl (any_of HT_.out (by kernel_rfl)) (fun _ _ _ h => h) (Or.inl ⟨by rfl, ?_⟩) ?_ ?_
                rotate_left
                ·intro w'
                 go_simp
                 with_reducible rfl
                rotate_left
                ·simp only [Act.put, lS, lZ, lU, i64_w, i32_w]
                 rfl
                refine pure_ (i := 26) (N := some 48) (v := ?_) (a' := ?_) (msk 27 4) rfl rfl (any_of HT_.out (by kernel_rfl)) (fun _ _ _ h => h) (Or.inl ⟨by rfl, ?_⟩) ?_ ?_
                rotate_left
                ·intro w'
                 go_simp
                 with_reducible rfl
                rotate_left
                ·simp only [Act.put, lS, lZ, lU, i64_w, i32_w]
                 rfl
                refine pure_ (i := 27) (N := some 49) (v := ?_) (a' := ?_) (msk 28 3) rfl rfl (any_of HT_.out (by kernel_rfl)) (fun _ _ _ h => h) (Or.inl ⟨by rfl, ?_⟩) ?_ ?_
                rotate_left
                ·intro w'
                 go_simp
                 with_reducible rfl
                rotate_left
                ·simp only [Act.put, lS, lZ, lU, i64_w, i32_w]
                 rfl
                refine one_ (i := 28) (N := some 5) (msk 29 2) rfl rfl (one_of HT_.out (by kernel_rfl)) (by decide) (fun K hK => ?_)
                refine box_step ?hg (N:=5) ?hd (cs:=#[.int .i64 0,.slice none 0 0]) (t:=41) ?hr ?_;(case hd => rfl);(case hg => rfl);(case hr => first|(go_simp;done)|(go_simp;rfl))
                intro gb298 hg w28 hbox hb
                have n0_ := aM (rB (by (with_reducible repeat (first | apply rA | apply rN | apply rD)); exact HO_290001.out) hb)
                have n1_ := aM (rB (by (with_reducible repeat (first | apply rA | apply rN | apply rD)); exact HO296.out) hb)
                have n2_ := aM (bB (g := gb288) (o := .cells #[.int .i64 0, .slice none 0 0] 41 (0, 0)) (by (with_reducible repeat (first | refine bN ?_ _ | refine bD ?_ | refine bA ?_ _)); exact BK288.out) hb)
                have n3_ := aM (bB (g := gb289) (o := .cells #[.int .i64 x290000_1, .slice Ao25 x290001_1.length co25] 41 (0, 0)) (by (with_reducible repeat (first | refine bN ?_ _ | refine bD ?_ | refine bA ?_ _)); exact BK289.out) hb)
                have n4_ := aM (wT (by repeat (first | (with_reducible first | exact HB.out | apply wA | apply wN_ | apply wD | refine wS ?_ GE288.out | refine wS ?_ GE289.out) | exact HB.out)) hb)
                have n5_ := aM (hbox)
                have n6_ := aM ((by rw [hg]; exact (wZ (by repeat (first | (with_reducible first | exact HB.out | apply wA | apply wN_ | apply wD | refine wS ?_ GE288.out | refine wS ?_ GE289.out) | exact HB.out))) : w.heap.size ≤ gb298))
                have n7_ := aM ((by rw [hg]; exact (wZ (by repeat (first | (with_reducible first | exact HB.out | apply wA | apply wN_ | apply wD | refine wS ?_ GE288.out | refine wS ?_ GE289.out) | exact HB.out))) : w.heap.size ≤ gb298))
                have n8_ := aM ((by rw [hg]; exact Nat.ne_of_lt (bL (g := gb288) (o := .cells #[.int .i64 0, .slice none 0 0] 41 (0, 0)) (by (with_reducible repeat (first | refine bN ?_ _ | refine bD ?_ | refine bA ?_ _)); exact BK288.out)) : gb288 ≠ gb298))
                have n9_ := aM ((by rw [hg]; exact Nat.ne_of_gt (bL (g := gb288) (o := .cells #[.int .i64 0, .slice none 0 0] 41 (0, 0)) (by (with_reducible repeat (first | refine bN ?_ _ | refine bD ?_ | refine bA ?_ _)); exact BK288.out)) : gb298 ≠ gb288))
                have n10_ := aM ((by rw [hg]; exact Nat.ne_of_lt (bL (g := gb289) (o := .cells #[.int .i64 x290000_1, .slice Ao25 x290001_1.length co25] 41 (0, 0)) (by (with_reducible repeat (first | refine bN ?_ _ | refine bD ?_ | refine bA ?_ _)); exact BK289.out)) : gb289 ≠ gb298))
                have n11_ := aM ((by rw [hg]; exact Nat.ne_of_gt (bL (g := gb289) (o := .cells #[.int .i64 x290000_1, .slice Ao25 x290001_1.length co25] 41 (0, 0)) (by (with_reducible repeat (first | refine bN ?_ _ | refine bD ?_ | refine bA ?_ _)); exact BK289.out)) : gb298 ≠ gb289))
                clear HO_290001
                clear HO296
                clear BK288
                clear BK289
                clear HB
                have HO_290001 := n0_
                have HO296 := n1_
                have BK288 := n2_
                have BK289 := n3_
                have HB := n4_
                have BK298 := n5_
                have GW298 := n6_
                have GE298 := n7_
                have NB288_298 := n8_
                have NB298_288 := n9_
                have NB289_298 := n10_
                have NB298_289 := n11_
                clear n0_ n1_ n2_ n3_ n4_ n5_ n6_ n7_ n8_ n9_ n10_ n11_
                clear hb hbox hg
                refine hK.out _ _ ⟨(bC BK289.out 0).trans rfl, (bC BK289.out 1).trans rfl, ((HB.out.cell (wL w _ hw290_0)).trans hw290_0), ((HB.out.cell (wL w _ hw291_0)).trans hw291_0), ((HB.out.cell (wL w _ hw292_0)).trans hw292_0)⟩ (fun hHeld => ?_)
                clear hK K
                refine norm_ (a' := ?_) ?_ ?_
                rotate_left
                ·show Act.put _ (some 5) _ = _
                 simp only [Act.put, lS, lZ, lU, i64_w, i32_w]
                 rfl
                exact norm_ (by simp only [putAll, Act.put, lS, lZ, lU]) (hCont (v295, gb298) _ ⟨hHeld, (by (with_reducible repeat (first | apply rA | apply rN | apply rD)); exact rM HO296.out (fun _ hk => hk.2)), (by (with_reducible repeat (first | apply rA | apply rN | apply rD)); exact rM HO_290001.out (fun _ hk => hk.2)), (by (with_reducible repeat (first | refine bN ?_ _ | refine bD ?_ | refine bA ?_ _)); exact BK288.out), (by (with_reducible repeat (first | refine bN ?_ _ | refine bD ?_ | refine bA ?_ _)); exact BK289.out), (by (with_reducible repeat (first | refine bN ?_ _ | refine bD ?_ | refine bA ?_ _)); exact BK298.out), GW298.out, GE298.out, NB288_298.out, NB298_288.out, NB289_298.out, NB298_289.out, (by repeat (first | (with_reducible first | exact HB.out | apply wA | apply wN_ | apply wD | refine wS ?_ GE288.out | refine wS ?_ GE289.out | refine wS ?_ GE298.out) | exact HB.out))⟩)
               ·skip
                refine box_step ?hg (N:=5) ?hd (cs:=#[.int .i64 0,.slice none 0 0]) (t:=41) ?hr ?_;(case hd => rfl);(case hg => rfl);(case hr => first|(go_simp;done)|(go_simp;rfl))
                intro gb298 hg w27 hbox hb
                have n0_ := aM (rB (by (with_reducible repeat (first | apply rA | apply rN | apply rD)); exact HO_290001.out) hb)
                have n1_ := aM (bB (g := gb288) (o := .cells #[.int .i64 0, .slice none 0 0] 41 (0, 0)) (by (with_reducible repeat (first | refine bN ?_ _ | refine bD ?_ | refine bA ?_ _)); exact BK288.out) hb)
                have n2_ := aM (bB (g := gb289) (o := .cells #[.int .i64 x290000_1, .slice Ao25 x290001_1.length co25] 41 (0, 0)) (by (with_reducible repeat (first | refine bN ?_ _ | refine bD ?_ | refine bA ?_ _)); exact BK289.out) hb)
                have n3_ := aM (wT (by repeat (first | (with_reducible first | exact HB.out | apply wA | apply wN_ | apply wD | refine wS ?_ GE288.out | refine wS ?_ GE289.out) | exact HB.out)) hb)
                have n4_ := aM (hbox)
                have n5_ := aM ((by rw [hg]; exact (wZ (by repeat (first | (with_reducible first | exact HB.out | apply wA | apply wN_ | apply wD | refine wS ?_ GE288.out | refine wS ?_ GE289.out) | exact HB.out))) : w.heap.size ≤ gb298))
                have n6_ := aM ((by rw [hg]; exact (wZ (by repeat (first | (with_reducible first | exact HB.out | apply wA | apply wN_ | apply wD | refine wS ?_ GE288.out | refine wS ?_ GE289.out) | exact HB.out))) : w.heap.size ≤ gb298))
                have n7_ := aM ((by rw [hg]; exact Nat.ne_of_lt (bL (g := gb288) (o := .cells #[.int .i64 0, .slice none 0 0] 41 (0, 0)) (by (with_reducible repeat (first | refine bN ?_ _ | refine bD ?_ | refine bA ?_ _)); exact BK288.out)) : gb288 ≠ gb298))
                have n8_ := aM ((by rw [hg]; exact Nat.ne_of_gt (bL (g := gb288) (o := .cells #[.int .i64 0, .slice none 0 0] 41 (0, 0)) (by (with_reducible repeat (first | refine bN ?_ _ | refine bD ?_ | refine bA ?_ _)); exact BK288.out)) : gb298 ≠ gb288))
                have n9_ := aM ((by rw [hg]; exact Nat.ne_of_lt (bL (g := gb289) (o := .cells #[.int .i64 x290000_1, .slice Ao25 x290001_1.length co25] 41 (0, 0)) (by (with_reducible repeat (first | refine bN ?_ _ | refine bD ?_ | refine bA ?_ _)); exact BK289.out)) : gb289 ≠ gb298))
                have n10_ := aM ((by rw [hg]; exact Nat.ne_of_gt (bL (g := gb289) (o := .cells #[.int .i64 x290000_1, .slice Ao25 x290001_1.length co25] 41 (0, 0)) (by (with_reducible repeat (first | refine bN ?_ _ | refine bD ?_ | refine bA ?_ _)); exact BK289.out)) : gb298 ≠ gb289))
                clear HO_290001
                clear BK288
                clear BK289
                clear HB
                have HO_290001 := n0_
                have BK288 := n1_
                have BK289 := n2_
                have HB := n3_
                have BK298 := n4_
                have GW298 := n5_
                have GE298 := n6_
                have NB288_298 := n7_
                have NB298_288 := n8_
                have NB289_298 := n9_
                have NB298_289 := n10_
                clear n0_ n1_ n2_ n3_ n4_ n5_ n6_ n7_ n8_ n9_ n10_
                clear hb hbox hg
                refine hK.out _ _ ⟨(bC BK289.out 0).trans rfl, (bC BK289.out 1).trans rfl, ((HB.out.cell (wL w _ hw290_0)).trans hw290_0), ((HB.out.cell (wL w _ hw291_0)).trans hw291_0), ((HB.out.cell (wL w _ hw292_0)).trans hw292_0)⟩ (fun hHeld => ?_)
                clear hK K
                refine norm_ (a' := ?_) ?_ ?_
                rotate_left
                ·show Act.put _ (some 5) _ = _
                 simp only [Act.put, lS, lZ, lU, i64_w, i32_w]
                 rfl
                refine one_ (i := 24) (N := some 47) #[tt,tt,tt,tt,tt,tt,tt,tt,tt,tt,tt,tt,tt,tt,tt,tt,tt,tt,tt,tt,tt,tt,tt,tt,tt,ff,ff,ff,tt,ff,ff] rfl rfl (one_of HT_.out (by kernel_rfl)) (by decide) (fun K hK => ?_)
                refine goes_ Try.func50 (by kernel_rfl) rfl #[.agg #[.int .i64 x290000_1, .slice Ao25 x290001_1.length co25], .int .i64 ji16, .int .i64 (wrap64 ((Int.tmod (wrap64 ((wrap64 ((wrap64 (rd l0 (ji17))) * 256)) + (wrap64 (rd l0 (ji20))))) 512) * 32))] (by rfl) rfl rfl (by (try simp only [lM, lC, lN]); first | done | (simp only [hji16, hji17, hji20]; rfl) | rfl | (simp only [lD, lT]; rfl)) ?_
                with_reducible refine (rickyardref13_Alloc.calls x290000_1 _ _ x290001_1 ji16 (wrap64 ((Int.tmod (wrap64 ((wrap64 ((wrap64 (rd l0 (ji17))) * 256)) + (wrap64 (rd l0 (ji20))))) 512) * 32)) t293 t294 true _ ?side1 ?side2 A23.out).mono ?_
                (case side1 => repeat (first|exact (Kd.R_reads' HO_290001.out).2.2|(with_reducible refine cA ?_ _)|(with_reducible refine cN ?_ _)|(with_reducible refine cD ?_)))
                (case side2 => exact (Kd.R_reads' HO_290001.out).2.1)
                rintro e w28 ⟨v295, rfl, ho0, hb⟩
                refine ⟨_, rfl, ?_⟩
                have n0_ := aM (Kd.R_elder' (by (with_reducible repeat (first | apply rA | apply rN | apply rD)); exact HO_290001.out) (Kd.R_base ho0) hb)
                have n1_ := aM (Kd.R_lower (Kd.R_new' ho0 (Kd.R_lt (by (with_reducible repeat (first | apply rA | apply rN | apply rD)); exact HO_290001.out))) (wZ (by repeat (first | (with_reducible first | exact HB.out | apply wA | apply wN_ | apply wD | refine wS ?_ GE288.out | refine wS ?_ GE289.out | refine wS ?_ GE298.out) | exact HB.out))))
                have n2_ := aM (bB (g := gb288) (o := .cells #[.int .i64 0, .slice none 0 0] 41 (0, 0)) (by (with_reducible repeat (first | refine bN ?_ _ | refine bD ?_ | refine bA ?_ _)); exact BK288.out) hb)
                have n3_ := aM (bB (g := gb289) (o := .cells #[.int .i64 x290000_1, .slice Ao25 x290001_1.length co25] 41 (0, 0)) (by (with_reducible repeat (first | refine bN ?_ _ | refine bD ?_ | refine bA ?_ _)); exact BK289.out) hb)
                have n4_ := aM (bB (g := gb298) (o := .cells #[.int .i64 0, .slice none 0 0] 41 (0, 0)) (by (with_reducible repeat (first | refine bN ?_ _ | refine bD ?_ | refine bA ?_ _)); exact BK298.out) hb)
                have n5_ := aM (wT (by repeat (first | (with_reducible first | exact HB.out | apply wA | apply wN_ | apply wD | refine wS ?_ GE288.out | refine wS ?_ GE289.out | refine wS ?_ GE298.out) | exact HB.out)) hb)
                clear HO_290001
                clear BK288
                clear BK289
                clear BK298
                clear HB
                have HO_290001 := n0_
                have HO296 := n1_
                have BK288 := n2_
                have BK289 := n3_
                have BK298 := n4_
                have HB := n5_
                clear n0_ n1_ n2_ n3_ n4_ n5_
                (try clear hb)
                (try clear hb2)
                (try clear hk)
                (try clear hi)
                (try clear ho0)
                refine hK.out _ _ ⟨(bC BK289.out 0).trans rfl, (bC BK289.out 1).trans rfl, ((HB.out.cell (wL w _ hw290_0)).trans hw290_0), ((HB.out.cell (wL w _ hw291_0)).trans hw291_0), ((HB.out.cell (wL w _ hw292_0)).trans hw292_0)⟩ (fun hHeld => ?_)
                clear hK K
                refine norm_ (a' := ?_) ?_ ?_
                rotate_left
                ·show Act.put _ (some 47) _ = _
                 simp only [Act.put, lS, lZ, lU, i64_w, i32_w]
                 rfl
                refine pure_ (i := 25) (N := some 22) (v := ?_) (a' := ?_) #[tt,tt,tt,tt,tt,tt,tt,tt,tt,tt,tt,tt,tt,tt,tt,tt,tt,tt,tt,tt,tt,tt,tt,tt,tt,tt,ff,ff,tt,ff,ff] rfl rfl (any_of HT_.out (by kernel_rfl)) (fun _ _ _ h => h) (Or.inl ⟨by rfl, ?_⟩) ?_ ?_
                rotate_left
                ·intro w'
                 go_simp
                 with_reducible rfl
                rotate_left
                ·simp only [Act.put, lS, lZ, lU, i64_w, i32_w]
                 rfl
                refine pure_ (i := 26) (N := some 48) (v := ?_) (a' := ?_) #[tt,tt,tt,tt,tt,tt,tt,tt,tt,tt,tt,tt,tt,tt,tt,tt,tt,tt,tt,tt,tt,tt,tt,tt,tt,tt,tt,ff,tt,ff,ff] rfl rfl (any_of HT_.out (by kernel_rfl)) (fun _ _ _ h => h) (Or.inl ⟨by rfl, ?_⟩) ?_ ?_
                rotate_left
                ·intro w'
                 go_simp
                 with_reducible rfl
                rotate_left
                ·simp only [Act.put, lS, lZ, lU, i64_w, i32_w]
                 rfl
                refine pure_ (i := 27) (N := some 49) (v := ?_) (a' := ?_) (msk 29 2) rfl rfl (any_of HT_.out (by kernel_rfl)) (fun _ _ _ h => h) (Or.inl ⟨by rfl, ?_⟩) ?_ ?_
                rotate_left
                ·intro w'
                 go_simp
                 with_reducible rfl
                rotate_left
                ·simp only [Act.put, lS, lZ, lU, i64_w, i32_w]
                 rfl
                exact norm_ (by simp only [putAll, Act.put, lS, lZ, lU]) (hCont (v295, gb298) _ ⟨hHeld, (by (with_reducible repeat (first | apply rA | apply rN | apply rD)); exact rM HO296.out (fun _ hk => hk.2)), (by (with_reducible repeat (first | apply rA | apply rN | apply rD)); exact rM HO_290001.out (fun _ hk => hk.2)), (by (with_reducible repeat (first | refine bN ?_ _ | refine bD ?_ | refine bA ?_ _)); exact BK288.out), (by (with_reducible repeat (first | refine bN ?_ _ | refine bD ?_ | refine bA ?_ _)); exact BK289.out), (by (with_reducible repeat (first | refine bN ?_ _ | refine bD ?_ | refine bA ?_ _)); exact BK298.out), GW298.out, GE298.out, NB288_298.out, NB298_288.out, NB289_298.out, NB298_289.out, (by repeat (first | (with_reducible first | exact HB.out | apply wA | apply wN_ | apply wD | refine wS ?_ GE288.out | refine wS ?_ GE289.out | refine wS ?_ GE298.out) | exact HB.out))⟩)
              rintro ⟨v295, gb298⟩ w29 ⟨hS_, h0_, h1_, h2_, h3_, h4_, h5_, h6_, h7_, h8_, h9_, h10_, h11_⟩
              have n0_ : Aside0 (Kd.R k48 48 w29 w.heap.size (fun k_ => some k_ ≠ (.slice Ao25 x290001_1.length co25 : Value).ownBlock) v295 t294) := ⟨h0_⟩
              have n1_ : Aside0 (Kd.R k48 48 w29 w.heap.size (fun k_ => some k_ ≠ (v295 : Value).ownBlock) (.slice Ao25 x290001_1.length co25) x290001_1) := ⟨h1_⟩
              have n2_ : Aside0 (w29.heap[gb288]? = some (.cells #[.int .i64 0, .slice none 0 0] 41 (0, 0))) := ⟨h2_⟩
              have n3_ : Aside0 (w29.heap[gb289]? = some (.cells #[.int .i64 x290000_1, .slice Ao25 x290001_1.length co25] 41 (0, 0))) := ⟨h3_⟩
              have n4_ : Aside0 (w29.heap[gb298]? = some (.cells #[.int .i64 0, .slice none 0 0] 41 (0, 0))) := ⟨h4_⟩
              have n5_ : Aside0 (w.heap.size ≤ gb298) := ⟨h5_⟩
              have n6_ : Aside0 (w.heap.size ≤ gb298) := ⟨h6_⟩
              have n7_ : Aside0 (gb288 ≠ gb298) := ⟨h7_⟩
              have n8_ : Aside0 (gb298 ≠ gb288) := ⟨h8_⟩
              have n9_ : Aside0 (gb289 ≠ gb298) := ⟨h9_⟩
              have n10_ : Aside0 (gb298 ≠ gb289) := ⟨h10_⟩
              have n11_ : Aside0 (Below w.heap.size w w29) := ⟨h11_⟩
              clear HO_290001
              clear BK288
              clear BK289
              clear HB
              clear h0_ h1_ h2_ h3_ h4_ h5_ h6_ h7_ h8_ h9_ h10_ h11_
              have HO296 := n0_
              have HO_290001 := n1_
              have BK288 := n2_
              have BK289 := n3_
              have BK298 := n4_
              have GW298 := n5_
              have GE298 := n6_
              have NB288_298 := n7_
              have NB298_288 := n8_
              have NB289_298 := n9_
              have NB298_289 := n10_
              have HB := n11_
              clear n0_ n1_ n2_ n3_ n4_ n5_ n6_ n7_ n8_ n9_ n10_ n11_
              have hHeld : w29.cell? ⟨gb289, 0, none⟩ = some (.int .i64 x290000_1) ∧ w29.cell? ⟨gb289, 1, none⟩ = some (.slice Ao25 x290001_1.length co25) ∧ w29.cell? (ad290.add (x4_1).toNat) = some (.int .u8 (rd l0 x4_1)) ∧ w29.cell? (ad290.add ((ji17)).toNat) = some (.int .u8 (rd l0 (ji17))) ∧ w29.cell? (ad290.add ((ji20)).toNat) = some (.int .u8 (rd l0 (ji20))) := hS_
              obtain ⟨Ao31, co31, eo31⟩ := Kd.R_slice HO296.out
              (first | subst eo31 | (injection eo31 with f1_ f2_ f3_; have f4_ := f1_.symm; have f5_ := f3_.symm; clear f1_ f2_ f3_; subst f4_; subst f5_))
              refine norm_ (a' := ?_) ?_ ?_
              rotate_left
              ·simp only [putAll, Act.put, lS, lZ, lU]
               rfl
              refine one_ (i := 29) (N := none) (msk 30 1) rfl rfl (one_of HT_.out (by kernel_rfl)) (by decide) (fun K hK => ?_)
              have hs30 : w29.cell? ⟨gb298, 0, none⟩ = some (.int .i64 0) := (bC BK298.out 0).trans rfl
              have hfs30 := bF BK298.out 0
              have hns30_0 := NB288_298.out
              have hns30_1 := NB289_298.out
              have hms30_0 := NB298_288.out
              have hms30_1 := NB298_289.out
              have hs32 : w29.cell? ⟨gb298, 1, none⟩ = some (.slice none 0 0) := (bC BK298.out 1).trans rfl
              have hfs32 := bF BK298.out 1
              have hns32_0 := NB288_298.out
              have hns32_1 := NB289_298.out
              have hms32_0 := NB298_288.out
              have hms32_1 := NB298_289.out
              refine skip_ (w1 := ?_) (by rfl) rfl ?_ ?_
              rotate_left
              ·go_simp
               rfl
              refine hK.out _ _ ⟨((cell_far (p := ⟨gb298, _, none⟩) NB289_298.out _).trans (((cell_far (p := ⟨gb298, _, none⟩) NB289_298.out _).trans (hHeld.1)))), ((cell_far (p := ⟨gb298, _, none⟩) NB289_298.out _).trans (((cell_far (p := ⟨gb298, _, none⟩) NB289_298.out _).trans (hHeld.2.1)))), ((cell_far (p := ⟨gb298, _, none⟩) (by first | exact Nat.ne_of_lt (Nat.lt_of_lt_of_le (by have := wL _ _ hw290_0; first | rwa [add_block] at this | exact this) GW298.out) | (rw [add_block]; exact Nat.ne_of_lt (Nat.lt_of_lt_of_le (by have := wL _ _ hw290_0; first | rwa [add_block] at this | exact this) GW298.out)) | (show (Addr.add _ _).block ≠ _; rw [add_block]; exact Nat.ne_of_lt (Nat.lt_of_lt_of_le (by have := wL _ _ hw290_0; first | rwa [add_block] at this | exact this) GW298.out)) | (dsimp only; exact Nat.ne_of_lt (Nat.lt_of_lt_of_le (by have := wL _ _ hw290_0; first | rwa [add_block] at this | exact this) GW298.out))) _).trans (((cell_far (p := ⟨gb298, _, none⟩) (by first | exact Nat.ne_of_lt (Nat.lt_of_lt_of_le (by have := wL _ _ hw290_0; first | rwa [add_block] at this | exact this) GW298.out) | (rw [add_block]; exact Nat.ne_of_lt (Nat.lt_of_lt_of_le (by have := wL _ _ hw290_0; first | rwa [add_block] at this | exact this) GW298.out)) | (show (Addr.add _ _).block ≠ _; rw [add_block]; exact Nat.ne_of_lt (Nat.lt_of_lt_of_le (by have := wL _ _ hw290_0; first | rwa [add_block] at this | exact this) GW298.out)) | (dsimp only; exact Nat.ne_of_lt (Nat.lt_of_lt_of_le (by have := wL _ _ hw290_0; first | rwa [add_block] at this | exact this) GW298.out))) _).trans (hHeld.2.2.1)))), ((cell_far (p := ⟨gb298, _, none⟩) (by first | exact Nat.ne_of_lt (Nat.lt_of_lt_of_le (by have := wL _ _ hw291_0; first | rwa [add_block] at this | exact this) GW298.out) | (rw [add_block]; exact Nat.ne_of_lt (Nat.lt_of_lt_of_le (by have := wL _ _ hw291_0; first | rwa [add_block] at this | exact this) GW298.out)) | (show (Addr.add _ _).block ≠ _; rw [add_block]; exact Nat.ne_of_lt (Nat.lt_of_lt_of_le (by have := wL _ _ hw291_0; first | rwa [add_block] at this | exact this) GW298.out)) | (dsimp only; exact Nat.ne_of_lt (Nat.lt_of_lt_of_le (by have := wL _ _ hw291_0; first | rwa [add_block] at this | exact this) GW298.out))) _).trans (((cell_far (p := ⟨gb298, _, none⟩) (by first | exact Nat.ne_of_lt (Nat.lt_of_lt_of_le (by have := wL _ _ hw291_0; first | rwa [add_block] at this | exact this) GW298.out) | (rw [add_block]; exact Nat.ne_of_lt (Nat.lt_of_lt_of_le (by have := wL _ _ hw291_0; first | rwa [add_block] at this | exact this) GW298.out)) | (show (Addr.add _ _).block ≠ _; rw [add_block]; exact Nat.ne_of_lt (Nat.lt_of_lt_of_le (by have := wL _ _ hw291_0; first | rwa [add_block] at this | exact this) GW298.out)) | (dsimp only; exact Nat.ne_of_lt (Nat.lt_of_lt_of_le (by have := wL _ _ hw291_0; first | rwa [add_block] at this | exact this) GW298.out))) _).trans (hHeld.2.2.2.1)))), ((cell_far (p := ⟨gb298, _, none⟩) (by first | exact Nat.ne_of_lt (Nat.lt_of_lt_of_le (by have := wL _ _ hw292_0; first | rwa [add_block] at this | exact this) GW298.out) | (rw [add_block]; exact Nat.ne_of_lt (Nat.lt_of_lt_of_le (by have := wL _ _ hw292_0; first | rwa [add_block] at this | exact this) GW298.out)) | (show (Addr.add _ _).block ≠ _; rw [add_block]; exact Nat.ne_of_lt (Nat.lt_of_lt_of_le (by have := wL _ _ hw292_0; first | rwa [add_block] at this | exact this) GW298.out)) | (dsimp only; exact Nat.ne_of_lt (Nat.lt_of_lt_of_le (by have := wL _ _ hw292_0; first | rwa [add_block] at this | exact this) GW298.out))) _).trans (((cell_far (p := ⟨gb298, _, none⟩) (by first | exact Nat.ne_of_lt (Nat.lt_of_lt_of_le (by have := wL _ _ hw292_0; first | rwa [add_block] at this | exact this) GW298.out) | (rw [add_block]; exact Nat.ne_of_lt (Nat.lt_of_lt_of_le (by have := wL _ _ hw292_0; first | rwa [add_block] at this | exact this) GW298.out)) | (show (Addr.add _ _).block ≠ _; rw [add_block]; exact Nat.ne_of_lt (Nat.lt_of_lt_of_le (by have := wL _ _ hw292_0; first | rwa [add_block] at this | exact this) GW298.out)) | (dsimp only; exact Nat.ne_of_lt (Nat.lt_of_lt_of_le (by have := wL _ _ hw292_0; first | rwa [add_block] at this | exact this) GW298.out))) _).trans (hHeld.2.2.2.2))))⟩ (fun hHeld => ?_)
              clear hK K
              refine pure_ (i := 30) (N := some 6) (v := ?_) (a' := ?_) (msk 31 0) rfl rfl (any_of HT_.out (by kernel_rfl)) (fun _ _ _ h => h) (Or.inl ⟨by rfl, ?_⟩) ?_ ?_
              rotate_left
              ·intro w'
               go_simp
               with_reducible rfl
              rotate_left
              ·simp only [Act.put, lS, lZ, lU, i64_w, i32_w]
               rfl
              refine done_ (done_of HT_.out (by kernel_rfl)) ?_
              have hnb33 := NB298_288.out
              have hnc33 := NB288_298.out
              have hnb34 := NB298_289.out
              have hnc34 := NB289_298.out
              have hcz35_0 : w29.cell? ⟨gb298, 0, none⟩ = some (.int .i64 0) := (bC BK298.out 0).trans rfl
              have hcz35_1 : w29.cell? ⟨gb298, 1, none⟩ = some (.slice none 0 0) := (bC BK298.out 1).trans rfl
              have hfz35_0 := bF BK298.out 0
              have hfz35_1 := bF BK298.out 1
              have hnb36 := NB289_288.out
              have hnc36 := NB288_289.out
              have hcz37_0 : w29.cell? ⟨gb289, 0, none⟩ = some (.int .i64 x290000_1) := (bC BK289.out 0).trans rfl
              have hcz37_1 : w29.cell? ⟨gb289, 1, none⟩ = some (.slice Ao25 x290001_1.length co25) := (bC BK289.out 1).trans rfl
              have hfz37_0 := bF BK289.out 0
              have hfz37_1 := bF BK289.out 1
              try go_wp2
              go_roundg kj5
              case measure => have:=HK1.out;have:=HJ5.out;omega
              case rel => exact ⟨(wrap64 (x4_1 + 3)),(t293),(t294),(.slice Ao31 t294.length co31),(by first|rfl|(simp;done)|(simp [*];done)),H',⟨by have:=HK1.out;have:=HJ5.out;omega⟩,⟨by (with_reducible repeat (first|apply rA|apply rN|apply rD));exact rM (rF_ (p:=⟨gb289,1,none⟩) (rF_ (p:=⟨gb289,0,none⟩) (rF_ (p:=⟨gb298,1,none⟩) (rF_ (p:=⟨gb298,0,none⟩) (Kd.R_types (Kd.R_types HO296.out BK298.out (by decide)) BK289.out (by decide)) (fun _ hk => hk.1.2) (.int .i64 t293)) (fun _ hk => hk.1.2) (.slice Ao31 t294.length co31)) (fun _ hk => hk.2) (.int .i64 t293)) (fun _ hk => hk.2) (.slice Ao31 t294.length co31)) (fun _ hk => trivial)⟩,⟨by (with_reducible repeat (first|refine bN ?_ _|refine bD ?_|refine bA ?_ _));refine bR ?_ NB288_289.out _;(with_reducible repeat (first|refine bN ?_ _|refine bD ?_|refine bA ?_ _));refine bR ?_ NB288_289.out _;(with_reducible repeat (first|refine bN ?_ _|refine bD ?_|refine bA ?_ _));refine bR ?_ NB288_298.out _;(with_reducible repeat (first|refine bN ?_ _|refine bD ?_|refine bA ?_ _));refine bR ?_ NB288_298.out _;(with_reducible repeat (first|refine bN ?_ _|refine bD ?_|refine bA ?_ _));exact BK288.out⟩,⟨by (with_reducible repeat (first|refine bN ?_ _|refine bD ?_|refine bA ?_ _));refine bP (cs:=#[.int .i64 t293,.slice Ao25 x290001_1.length co25]) ?_ 1 _ rfl;(with_reducible repeat (first|refine bN ?_ _|refine bD ?_|refine bA ?_ _));refine bP (cs:=#[.int .i64 x290000_1,.slice Ao25 x290001_1.length co25]) ?_ 0 _ rfl;(with_reducible repeat (first|refine bN ?_ _|refine bD ?_|refine bA ?_ _));refine bR ?_ NB289_298.out _;(with_reducible repeat (first|refine bN ?_ _|refine bD ?_|refine bA ?_ _));refine bR ?_ NB289_298.out _;(with_reducible repeat (first|refine bN ?_ _|refine bD ?_|refine bA ?_ _));exact BK289.out⟩,⟨by repeat (first|(with_reducible first|exact HB.out|apply wA|apply wN_|apply wD|refine wS ?_ GE288.out|refine wS ?_ GE289.out|refine wS ?_ GE298.out)|exact HB.out)⟩⟩
             ·replace c24 := Bool.eq_false_iff.mpr c24
              subst c24
              have H1 : (rickyardlaw13_Made.l0 kj5 l0 (wrap64 (x4_1 + 3)) x290000_1 x290001_1) = some (r1, r2) := by rw [if_neg (show ¬ (false = true) by decide)] at H; exact H
              clear H
              have H := H1
              clear H1
              have H' := aM H
              clear H
              obtain ⟨Ao38, co38, eo38⟩ := Kd.R_slice HO_290001.out
              subst eo38
              try go_wp2
              have n0_ := aM (rD HO_290001.out)
              have n1_ := aM (bD BK288.out)
              have n2_ := aM (bD BK289.out)
              have n3_ := aM (wD HB.out)
              clear HO_290001
              clear BK288
              clear BK289
              clear HB
              have HO_290001 := n0_
              have BK288 := n1_
              have BK289 := n2_
              have HB := n3_
              clear n0_ n1_ n2_ n3_
              have p290 : 0 ≤ (x4_1 : Int) := oD (by first | (with_reducible assumption) | assumption)
              have q290 : x4_1 < (l0.length : Int) := oD (by first | (with_reducible assumption) | assumption)
              obtain ⟨ad290, e290, hx290_0⟩ := Kd.at_int HR0.out x4_1 p290 q290
              have hw290_0 := hx290_0
              cases e290
              replace hx290_0 := (HB.out.cell (wL w _ hx290_0)).trans hx290_0
              replace p290 := eq_true p290
              replace q290 := eq_true q290
              have p291 : 0 ≤ ((ji17) : Int) := oD (by first | (with_reducible assumption) | assumption)
              have q291 : (ji17) < (l0.length : Int) := oD (by first | (with_reducible assumption) | assumption)
              obtain ⟨ad291, e291, hx291_0⟩ := Kd.at_int HR0.out (ji17) p291 q291
              have hw291_0 := hx291_0
              obtain rfl : ad290 = ad291 := (by injection e291)
              replace hx291_0 := (HB.out.cell (wL w _ hx291_0)).trans hx291_0
              replace p291 := eq_true p291
              replace q291 := eq_true q291
              have p292 : 0 ≤ ((ji20) : Int) := oD (by first | (with_reducible assumption) | assumption)
              have q292 : (ji20) < (l0.length : Int) := oD (by first | (with_reducible assumption) | assumption)
              obtain ⟨ad292, e292, hx292_0⟩ := Kd.at_int HR0.out (ji20) p292 q292
              have hw292_0 := hx292_0
              obtain rfl : ad290 = ad292 := (by injection e292)
              replace hx292_0 := (HB.out.cell (wL w _ hx292_0)).trans hx292_0
              replace p292 := eq_true p292
              replace q292 := eq_true q292
              refine start_ (n := 31) (S := fun w' => w'.cell? ⟨gb289, 0, none⟩ = some (.int .i64 x290000_1) ∧ w'.cell? ⟨gb289, 1, none⟩ = some (.slice Ao38 x290001_1.length co38) ∧ w'.cell? (ad290.add (x4_1).toNat) = some (.int .u8 (rd l0 x4_1)) ∧ w'.cell? (ad290.add ((ji17)).toNat) = some (.int .u8 (rd l0 (ji17))) ∧ w'.cell? (ad290.add ((ji20)).toNat) = some (.int .u8 (rd l0 (ji20)))) (ds := []) (msk 0 31) (by kernel_rfl) rfl rfl ⟨(bC BK289.out 0).trans rfl, (bC BK289.out 1).trans rfl, ((HB.out.cell (wL w _ hw290_0)).trans hw290_0), ((HB.out.cell (wL w _ hw291_0)).trans hw291_0), ((HB.out.cell (wL w _ hw292_0)).trans hw292_0)⟩ (fun hHeld => ?_); refine with_tabW rickyardlaw13_Made.tab5 rickyardlaw13_Made.bits5 (fun HT_ HW_ => ?_)
              generalize wc.drew = w39 at HO_290001 BK288 BK289 HB hx290_0 hx291_0 hx292_0 hHeld ⊢
              refine pure_ (i := 1) (N := some 24) (v := ?_) (a' := ?_) #[ff,tt,ff,ff,ff,ff,ff,ff,ff,ff,ff,ff,ff,ff,ff,ff,ff,ff,ff,ff,ff,ff,ff,ff,ff,ff,ff,ff,ff,ff,ff] rfl rfl (any_of HT_.out (by kernel_rfl)) (fun _ _ _ h => h) (Or.inl ⟨by rfl, ?_⟩) ?_ ?_
              rotate_left
              ·intro w'
               go_simp
               with_reducible rfl
              rotate_left
              ·simp only [Act.put, lS, lZ, lU, i64_w, i32_w]
               rfl
              refine pure_ (i := 2) (N := some 25) (v := ?_) (a' := ?_) #[ff,tt,tt,ff,ff,ff,ff,ff,ff,ff,ff,ff,ff,ff,ff,ff,ff,ff,ff,ff,ff,ff,ff,ff,ff,ff,ff,ff,ff,ff,ff] rfl rfl (any_of HT_.out (by kernel_rfl)) (fun _ _ _ h => h) (Or.inl ⟨by rfl, ?_⟩) ?_ ?_
              rotate_left
              ·intro w'
               go_simp
               with_reducible rfl
              rotate_left
              ·simp only [Act.put, lS, lZ, lU, i64_w, i32_w]
               rfl
              refine pure_ (i := 3) (N := some 26) (v := ?_) (a' := ?_) #[ff,tt,tt,tt,ff,ff,ff,ff,ff,ff,ff,ff,ff,ff,ff,ff,ff,ff,ff,ff,ff,ff,ff,ff,ff,ff,ff,ff,ff,ff,ff] rfl rfl (any_of HT_.out (by kernel_rfl)) (fun _ _ _ h => h) (Or.inl ⟨by rfl, ?_⟩) ?_ ?_
              rotate_left
              ·intro w'
               go_simp
               with_reducible rfl
              rotate_left
              ·simp only [Act.put, lS, lZ, lU, i64_w, i32_w]
               rfl
              refine pure_ (i := 8) (N := some 31) (v := ?_) (a' := ?_) #[ff,tt,tt,tt,ff,ff,ff,ff,tt,ff,ff,ff,ff,ff,ff,ff,ff,ff,ff,ff,ff,ff,ff,ff,ff,ff,ff,ff,ff,ff,ff] rfl rfl (any_of HT_.out (by kernel_rfl)) (fun _ _ _ h => h) (Or.inl ⟨by rfl, ?_⟩) ?_ ?_
              rotate_left
              ·intro w'
               go_simp
               with_reducible rfl
              rotate_left
              ·simp only [Act.put, lS, lZ, lU, i64_w, i32_w]
               rfl
              refine pure_ (i := 9) (N := some 32) (v := ?_) (a' := ?_) #[ff,tt,tt,tt,ff,ff,ff,ff,tt,tt,ff,ff,ff,ff,ff,ff,ff,ff,ff,ff,ff,ff,ff,ff,ff,ff,ff,ff,ff,ff,ff] rfl rfl (any_of HT_.out (by kernel_rfl)) (fun _ _ _ h => h) (Or.inl ⟨by rfl, ?_⟩) ?_ ?_
              rotate_left
              ·intro w'
               go_simp
               with_reducible rfl
              rotate_left
              ·simp only [Act.put, lS, lZ, lU, i64_w, i32_w]
               rfl
              refine pure_ (i := 10) (N := some 33) (v := ?_) (a' := ?_) #[ff,tt,tt,tt,ff,ff,ff,ff,tt,tt,tt,ff,ff,ff,ff,ff,ff,ff,ff,ff,ff,ff,ff,ff,ff,ff,ff,ff,ff,ff,ff] rfl rfl (any_of HT_.out (by kernel_rfl)) (fun _ _ _ h => h) (Or.inl ⟨by rfl, ?_⟩) ?_ ?_
              rotate_left
              ·intro w'
               go_simp
               with_reducible rfl
              rotate_left
              ·simp only [Act.put, lS, lZ, lU, i64_w, i32_w]
               rfl
              refine pure_ (i := 11) (N := some 34) (v := ?_) (a' := ?_) #[ff,tt,tt,tt,ff,ff,ff,ff,tt,tt,tt,tt,ff,ff,ff,ff,ff,ff,ff,ff,ff,ff,ff,ff,ff,ff,ff,ff,ff,ff,ff] rfl rfl (any_of HT_.out (by kernel_rfl)) (fun _ _ _ h => h) (Or.inl ⟨by rfl, ?_⟩) ?_ ?_
              rotate_left
              ·intro w'
               go_simp
               with_reducible rfl
              rotate_left
              ·simp only [Act.put, lS, lZ, lU, i64_w, i32_w]
               rfl
              refine pure_ (i := 15) (N := some 38) (v := ?_) (a' := ?_) #[ff,tt,tt,tt,ff,ff,ff,ff,tt,tt,tt,tt,ff,ff,ff,tt,ff,ff,ff,ff,ff,ff,ff,ff,ff,ff,ff,ff,ff,ff,ff] rfl rfl (any_of HT_.out (by kernel_rfl)) (fun _ _ _ h => h) (Or.inl ⟨by rfl, ?_⟩) ?_ ?_
              rotate_left
              ·intro w'
               go_simp
               with_reducible rfl
              rotate_left
              ·simp only [Act.put, lS, lZ, lU, i64_w, i32_w]
               rfl
              refine pure_ (i := 16) (N := some 39) (v := ?_) (a' := ?_) #[ff,tt,tt,tt,ff,ff,ff,ff,tt,tt,tt,tt,ff,ff,ff,tt,tt,ff,ff,ff,ff,ff,ff,ff,ff,ff,ff,ff,ff,ff,ff] rfl rfl (any_of HT_.out (by kernel_rfl)) (fun _ _ _ h => h) (Or.inl ⟨by rfl, ?_⟩) ?_ ?_
              rotate_left
              ·intro w'
               go_simp
               with_reducible rfl
              rotate_left
              ·simp only [Act.put, lS, lZ, lU, i64_w, i32_w]
               rfl
              refine pure_ (i := 17) (N := some 40) (v := ?_) (a' := ?_) #[ff,tt,tt,tt,ff,ff,ff,ff,tt,tt,tt,tt,ff,ff,ff,tt,tt,tt,ff,ff,ff,ff,ff,ff,ff,ff,ff,ff,ff,ff,ff] rfl rfl (any_of HT_.out (by kernel_rfl)) (fun _ _ _ h => h) (Or.inl ⟨by rfl, ?_⟩) ?_ ?_
              rotate_left
              ·intro w'
               go_simp
               with_reducible rfl
              rotate_left
              ·simp only [Act.put, lS, lZ, lU, i64_w, i32_w]
               rfl
              refine pure_ (i := 18) (N := some 41) (v := ?_) (a' := ?_) #[ff,tt,tt,tt,ff,ff,ff,ff,tt,tt,tt,tt,ff,ff,ff,tt,tt,tt,tt,ff,ff,ff,ff,ff,ff,ff,ff,ff,ff,ff,ff] rfl rfl (any_of HT_.out (by kernel_rfl)) (fun _ _ _ h => h) (Or.inl ⟨by rfl, ?_⟩) ?_ ?_
              rotate_left
              ·intro w'
               go_simp
               with_reducible rfl
              rotate_left
              ·simp only [Act.put, lS, lZ, lU, i64_w, i32_w]
               rfl
              refine take_ (i := 0) (N := some 23) (v := ?_) (a' := ?_) #[tt,tt,tt,tt,ff,ff,ff,ff,tt,tt,tt,tt,ff,ff,ff,tt,tt,tt,tt,ff,ff,ff,ff,ff,ff,ff,ff,ff,ff,ff,ff] rfl rfl (take_ofW HT_.out HW_.out (by kernel_rfl)) (fun _ _ _ h => h) (Or.inl ⟨by rfl, ?_⟩) hHeld ?_ ?_
              rotate_left
              ·rintro w' ⟨s0, s1, s2, s3, s4⟩
               go_simp
               with_reducible rfl
              rotate_left
              ·simp only [Act.put, lS, lZ, lU, i64_w, i32_w]
               rfl
              refine take_ (i := 4) (N := some 27) (v := ?_) (a' := ?_) #[tt,tt,tt,tt,tt,ff,ff,ff,tt,tt,tt,tt,ff,ff,ff,tt,tt,tt,tt,ff,ff,ff,ff,ff,ff,ff,ff,ff,ff,ff,ff] rfl rfl (take_ofW HT_.out HW_.out (by kernel_rfl)) (fun _ _ _ h => h) (Or.inl ⟨by rfl, ?_⟩) hHeld ?_ ?_
              rotate_left
              ·rintro w' ⟨s0, s1, s2, s3, s4⟩
               go_simp
               with_reducible rfl
              rotate_left
              ·simp only [Act.put, lS, lZ, lU, i64_w, i32_w]
               rfl
              refine pure_ (i := 5) (N := some 28) (v := ?_) (a' := ?_) #[tt,tt,tt,tt,tt,tt,ff,ff,tt,tt,tt,tt,ff,ff,ff,tt,tt,tt,tt,ff,ff,ff,ff,ff,ff,ff,ff,ff,ff,ff,ff] rfl rfl (any_of HT_.out (by kernel_rfl)) (fun _ _ _ h => h) (Or.inl ⟨by rfl, ?_⟩) ?_ ?_
              rotate_left
              ·intro w'
               go_simp
               with_reducible rfl
              rotate_left
              ·simp only [Act.put, lS, lZ, lU, i64_w, i32_w]
               rfl
              refine pure_ (i := 6) (N := some 29) (v := ?_) (a' := ?_) #[tt,tt,tt,tt,tt,tt,tt,ff,tt,tt,tt,tt,ff,ff,ff,tt,tt,tt,tt,ff,ff,ff,ff,ff,ff,ff,ff,ff,ff,ff,ff] rfl rfl (any_of HT_.out (by kernel_rfl)) (fun _ _ _ h => h) (Or.inl ⟨by rfl, ?_⟩) ?_ ?_
              rotate_left
              ·intro w'
               go_simp
               with_reducible rfl
              rotate_left
              ·simp only [Act.put, lS, lZ, lU, i64_w, i32_w]
               rfl
              refine pure_ (i := 7) (N := some 30) (v := ?_) (a' := ?_) #[tt,tt,tt,tt,tt,tt,tt,tt,tt,tt,tt,tt,ff,ff,ff,tt,tt,tt,tt,ff,ff,ff,ff,ff,ff,ff,ff,ff,ff,ff,ff] rfl rfl (any_of HT_.out (by kernel_rfl)) (fun _ _ _ h => h) (Or.inl ⟨by rfl, ?_⟩) ?_ ?_
              rotate_left
              ·intro w'
               go_simp
               with_reducible rfl
              rotate_left
              ·simp only [Act.put, lS, lZ, lU, i64_w, i32_w]
               rfl
              refine take_ (i := 12) (N := some 35) (v := ?_) (a' := ?_) #[tt,tt,tt,tt,tt,tt,tt,tt,tt,tt,tt,tt,tt,ff,ff,tt,tt,tt,tt,ff,ff,ff,ff,ff,ff,ff,ff,ff,ff,ff,ff] rfl rfl (take_ofW HT_.out HW_.out (by kernel_rfl)) (fun _ _ _ h => h) (Or.inl ⟨by rfl, ?_⟩) hHeld ?_ ?_
              rotate_left
              ·rintro w' ⟨s0, s1, s2, s3, s4⟩
               go_simp
               with_reducible rfl
              rotate_left
              ·simp only [Act.put, lS, lZ, lU, i64_w, i32_w]
               rfl
              refine pure_ (i := 13) (N := some 36) (v := ?_) (a' := ?_) #[tt,tt,tt,tt,tt,tt,tt,tt,tt,tt,tt,tt,tt,tt,ff,tt,tt,tt,tt,ff,ff,ff,ff,ff,ff,ff,ff,ff,ff,ff,ff] rfl rfl (any_of HT_.out (by kernel_rfl)) (fun _ _ _ h => h) (Or.inl ⟨by rfl, ?_⟩) ?_ ?_
              rotate_left
              ·intro w'
               go_simp
               with_reducible rfl
              rotate_left
              ·simp only [Act.put, lS, lZ, lU, i64_w, i32_w]
               rfl
              refine pure_ (i := 14) (N := some 37) (v := ?_) (a' := ?_) (msk 19 12) rfl rfl (any_of HT_.out (by kernel_rfl)) (fun _ _ _ h => h) (Or.inl ⟨by rfl, ?_⟩) ?_ ?_
              rotate_left
              ·intro w'
               go_simp
               with_reducible rfl
              rotate_left
              ·simp only [Act.put, lS, lZ, lU, i64_w, i32_w]
               rfl
              refine take_ (i := 19) (N := some 42) (v := ?_) (a' := ?_) (msk 20 11) rfl rfl (take_ofW HT_.out HW_.out (by kernel_rfl)) (fun _ _ _ h => h) (Or.inl ⟨by rfl, ?_⟩) hHeld ?_ ?_
              rotate_left
              ·rintro w' ⟨s0, s1, s2, s3, s4⟩
               go_simp
               with_reducible rfl
              rotate_left
              ·simp only [Act.put, lS, lZ, lU, i64_w, i32_w]
               rfl
              refine pure_ (i := 20) (N := some 43) (v := ?_) (a' := ?_) (msk 21 10) rfl rfl (any_of HT_.out (by kernel_rfl)) (fun _ _ _ h => h) (Or.inl ⟨by rfl, ?_⟩) ?_ ?_
              rotate_left
              ·intro w'
               go_simp
               with_reducible rfl
              rotate_left
              ·simp only [Act.put, lS, lZ, lU, i64_w, i32_w]
               rfl
              refine pure_ (i := 21) (N := some 44) (v := ?_) (a' := ?_) (msk 22 9) rfl rfl (any_of HT_.out (by kernel_rfl)) (fun _ _ _ h => h) (Or.inl ⟨by rfl, ?_⟩) ?_ ?_
              rotate_left
              ·intro w'
               go_simp
               with_reducible rfl
              rotate_left
              ·simp only [Act.put, lS, lZ, lU, i64_w, i32_w]
               rfl
              refine pure_ (i := 22) (N := some 45) (v := ?_) (a' := ?_) (msk 23 8) rfl rfl (any_of HT_.out (by kernel_rfl)) (fun _ _ _ h => h) (Or.inl ⟨by rfl, ?_⟩) ?_ ?_
              rotate_left
              ·intro w'
               go_simp
               with_reducible rfl
              rotate_left
              ·simp only [Act.put, lS, lZ, lU, i64_w, i32_w]
               rfl
              refine pure_ (i := 23) (N := some 46) (v := ?_) (a' := ?_) (msk 24 7) rfl rfl (any_of HT_.out (by kernel_rfl)) (fun _ _ _ h => h) (Or.inl ⟨by rfl, ?_⟩) ?_ ?_
              rotate_left
              ·intro w'
               go_simp
               with_reducible rfl
              rotate_left
              ·simp only [Act.put, lS, lZ, lU, i64_w, i32_w]
               rfl
              refine join_ (σ := Value × Nat) 2 (msk 29 2) (fun s_ => [(47, .tuple #[.agg #[.int .i64 t293, s_.1], .bool false]), (5, .pointer (some ⟨s_.2, 0, none⟩)), (22, .tuple #[.agg #[.int .i64 t293, s_.1], .bool false]), (48, .agg #[.int .i64 t293, s_.1]), (49, .bool false)]) (fun s_ w' => (w'.cell? ⟨gb289, 0, none⟩ = some (.int .i64 x290000_1) ∧ w'.cell? ⟨gb289, 1, none⟩ = some (.slice Ao38 x290001_1.length co38) ∧ w'.cell? (ad290.add (x4_1).toNat) = some (.int .u8 (rd l0 x4_1)) ∧ w'.cell? (ad290.add ((ji17)).toNat) = some (.int .u8 (rd l0 (ji17))) ∧ w'.cell? (ad290.add ((ji20)).toNat) = some (.int .u8 (rd l0 (ji20)))) ∧ (Kd.R k48 48 w' w.heap.size (fun k_ => some k_ ≠ (.slice Ao38 x290001_1.length co38 : Value).ownBlock) s_.1 t294) ∧ (Kd.R k48 48 w' w.heap.size (fun k_ => some k_ ≠ (s_.1 : Value).ownBlock) (.slice Ao38 x290001_1.length co38) x290001_1) ∧ (w'.heap[gb288]? = some (.cells #[.int .i64 0, .slice none 0 0] 41 (0, 0))) ∧ (w'.heap[gb289]? = some (.cells #[.int .i64 x290000_1, .slice Ao38 x290001_1.length co38] 41 (0, 0))) ∧ (w'.heap[s_.2]? = some (.cells #[.int .i64 0, .slice none 0 0] 41 (0, 0))) ∧ (w.heap.size ≤ s_.2) ∧ (w.heap.size ≤ s_.2) ∧ (gb288 ≠ s_.2) ∧ (s_.2 ≠ gb288) ∧ (gb289 ≠ s_.2) ∧ (s_.2 ≠ gb289) ∧ (Below w.heap.size w w')) ?_ ?_
              rotate_left
              ·intro hCont
               refine two_ (i := 24) (j := 28) (Ni := some 47) (Nj := some 5) (msk 25 6) #[tt,tt,tt,tt,tt,tt,tt,tt,tt,tt,tt,tt,tt,tt,tt,tt,tt,tt,tt,tt,tt,tt,tt,tt,ff,ff,ff,ff,tt,ff,ff] rfl rfl rfl rfl (two_of HT_.out (by kernel_rfl)) (by decide) (by decide) (fun K hK => ?_) (fun K hK => ?_)
               ·skip
                refine goes_ Try.func50 (by kernel_rfl) rfl #[.agg #[.int .i64 x290000_1, .slice Ao38 x290001_1.length co38], .int .i64 ji16, .int .i64 (wrap64 ((Int.tmod (wrap64 ((wrap64 ((wrap64 (rd l0 (ji17))) * 256)) + (wrap64 (rd l0 (ji20))))) 512) * 32))] (by rfl) rfl rfl (by (try simp only [lM, lC, lN]); first | done | (simp only [hji16, hji17, hji20]; rfl) | rfl | (simp only [lD, lT]; rfl)) ?_
                with_reducible refine (rickyardref13_Alloc.calls x290000_1 _ _ x290001_1 ji16 (wrap64 ((Int.tmod (wrap64 ((wrap64 ((wrap64 (rd l0 (ji17))) * 256)) + (wrap64 (rd l0 (ji20))))) 512) * 32)) t293 t294 false _ ?side1 ?side2 A23.out).mono ?_
                (case side1 => repeat (first|exact (Kd.R_reads' HO_290001.out).2.2|(with_reducible refine cA ?_ _)|(with_reducible refine cN ?_ _)|(with_reducible refine cD ?_)))
                (case side2 => exact (Kd.R_reads' HO_290001.out).2.1)
                rintro e w40 ⟨v295, rfl, ho0, hb⟩
                refine ⟨_, rfl, ?_⟩
                have n0_ := aM (Kd.R_elder' (by (with_reducible repeat (first | apply rA | apply rN | apply rD)); exact HO_290001.out) (Kd.R_base ho0) hb)
                have n1_ := aM (Kd.R_lower (Kd.R_new' ho0 (Kd.R_lt (by (with_reducible repeat (first | apply rA | apply rN | apply rD)); exact HO_290001.out))) (wZ (by repeat (first | (with_reducible first | exact HB.out | apply wA | apply wN_ | apply wD | refine wS ?_ GE288.out | refine wS ?_ GE289.out) | exact HB.out))))
                have n2_ := aM (bB (g := gb288) (o := .cells #[.int .i64 0, .slice none 0 0] 41 (0, 0)) (by (with_reducible repeat (first | refine bN ?_ _ | refine bD ?_ | refine bA ?_ _)); exact BK288.out) hb)
                have n3_ := aM (bB (g := gb289) (o := .cells #[.int .i64 x290000_1, .slice Ao38 x290001_1.length co38] 41 (0, 0)) (by (with_reducible repeat (first | refine bN ?_ _ | refine bD ?_ | refine bA ?_ _)); exact BK289.out) hb)
                have n4_ := aM (wT (by repeat (first | (with_reducible first | exact HB.out | apply wA | apply wN_ | apply wD | refine wS ?_ GE288.out | refine wS ?_ GE289.out) | exact HB.out)) hb)
                clear HO_290001
                clear BK288
                clear BK289
                clear HB
                have HO_290001 := n0_
                have HO296 := n1_
                have BK288 := n2_
                have BK289 := n3_
                have HB := n4_
                clear n0_ n1_ n2_ n3_ n4_
                (try clear hb)
                (try clear hb2)
                (try clear hk)
                (try clear hi)
                (try clear ho0)
                refine hK.out _ _ ⟨(bC BK289.out 0).trans rfl, (bC BK289.out 1).trans rfl, ((HB.out.cell (wL w _ hw290_0)).trans hw290_0), ((HB.out.cell (wL w _ hw291_0)).trans hw291_0), ((HB.out.cell (wL w _ hw292_0)).trans hw292_0)⟩ (fun hHeld => ?_)
                clear hK K
                refine norm_ (a' := ?_) ?_ ?_
                rotate_left
                ·show Act.put _ (some 47) _ = _
                 simp only [Act.put, lS, lZ, lU, i64_w, i32_w]
                 rfl
                refine pure_ (i := 25) (N := some 22) (v := ?_) (a' := ?_) (msk 26 5) rfl rfl (any_of HT_.out (by kernel_rfl)) (fun _ _ _ h => h) (Or.inl ⟨by rfl, ?_⟩) ?_ ?_
                rotate_left
                ·intro w'
                 go_simp
                 with_reducible rfl
                rotate_left
                ·simp only [Act.put, lS, lZ, lU, i64_w, i32_w]
                 rfl
                refine pure_ (i := 26) (N := some 48) (v := ?_) (a' := ?_) (msk 27 4) rfl rfl (any_of HT_.out (by kernel_rfl)) (fun _ _ _ h => h) (Or.inl ⟨by rfl, ?_⟩) ?_ ?_
                rotate_left
                ·intro w'
                 go_simp
                 with_reducible rfl
                rotate_left
                ·simp only [Act.put, lS, lZ, lU, i64_w, i32_w]
                 rfl
                refine pure_ (i := 27) (N := some 49) (v := ?_) (a' := ?_) (msk 28 3) rfl rfl (any_of HT_.out (by kernel_rfl)) (fun _ _ _ h => h) (Or.inl ⟨by rfl, ?_⟩) ?_ ?_
                rotate_left
                ·intro w'
                 go_simp
                 with_reducible rfl
                rotate_left
                ·simp only [Act.put, lS, lZ, lU, i64_w, i32_w]
                 rfl
                refine one_ (i := 28) (N := some 5) (msk 29 2) rfl rfl (one_of HT_.out (by kernel_rfl)) (by decide) (fun K hK => ?_)
                refine box_step ?hg (N:=5) ?hd (cs:=#[.int .i64 0,.slice none 0 0]) (t:=41) ?hr ?_;(case hd => rfl);(case hg => rfl);(case hr => first|(go_simp;done)|(go_simp;rfl))
                intro gb298 hg w41 hbox hb
                have n0_ := aM (rB (by (with_reducible repeat (first | apply rA | apply rN | apply rD)); exact HO_290001.out) hb)
                have n1_ := aM (rB (by (with_reducible repeat (first | apply rA | apply rN | apply rD)); exact HO296.out) hb)
                have n2_ := aM (bB (g := gb288) (o := .cells #[.int .i64 0, .slice none 0 0] 41 (0, 0)) (by (with_reducible repeat (first | refine bN ?_ _ | refine bD ?_ | refine bA ?_ _)); exact BK288.out) hb)
                have n3_ := aM (bB (g := gb289) (o := .cells #[.int .i64 x290000_1, .slice Ao38 x290001_1.length co38] 41 (0, 0)) (by (with_reducible repeat (first | refine bN ?_ _ | refine bD ?_ | refine bA ?_ _)); exact BK289.out) hb)
                have n4_ := aM (wT (by repeat (first | (with_reducible first | exact HB.out | apply wA | apply wN_ | apply wD | refine wS ?_ GE288.out | refine wS ?_ GE289.out) | exact HB.out)) hb)
                have n5_ := aM (hbox)
                have n6_ := aM ((by rw [hg]; exact (wZ (by repeat (first | (with_reducible first | exact HB.out | apply wA | apply wN_ | apply wD | refine wS ?_ GE288.out | refine wS ?_ GE289.out) | exact HB.out))) : w.heap.size ≤ gb298))
                have n7_ := aM ((by rw [hg]; exact (wZ (by repeat (first | (with_reducible first | exact HB.out | apply wA | apply wN_ | apply wD | refine wS ?_ GE288.out | refine wS ?_ GE289.out) | exact HB.out))) : w.heap.size ≤ gb298))
                have n8_ := aM ((by rw [hg]; exact Nat.ne_of_lt (bL (g := gb288) (o := .cells #[.int .i64 0, .slice none 0 0] 41 (0, 0)) (by (with_reducible repeat (first | refine bN ?_ _ | refine bD ?_ | refine bA ?_ _)); exact BK288.out)) : gb288 ≠ gb298))
                have n9_ := aM ((by rw [hg]; exact Nat.ne_of_gt (bL (g := gb288) (o := .cells #[.int .i64 0, .slice none 0 0] 41 (0, 0)) (by (with_reducible repeat (first | refine bN ?_ _ | refine bD ?_ | refine bA ?_ _)); exact BK288.out)) : gb298 ≠ gb288))
                have n10_ := aM ((by rw [hg]; exact Nat.ne_of_lt (bL (g := gb289) (o := .cells #[.int .i64 x290000_1, .slice Ao38 x290001_1.length co38] 41 (0, 0)) (by (with_reducible repeat (first | refine bN ?_ _ | refine bD ?_ | refine bA ?_ _)); exact BK289.out)) : gb289 ≠ gb298))
                have n11_ := aM ((by rw [hg]; exact Nat.ne_of_gt (bL (g := gb289) (o := .cells #[.int .i64 x290000_1, .slice Ao38 x290001_1.length co38] 41 (0, 0)) (by (with_reducible repeat (first | refine bN ?_ _ | refine bD ?_ | refine bA ?_ _)); exact BK289.out)) : gb298 ≠ gb289))
                clear HO_290001
                clear HO296
                clear BK288
                clear BK289
                clear HB
                have HO_290001 := n0_
                have HO296 := n1_
                have BK288 := n2_
                have BK289 := n3_
                have HB := n4_
                have BK298 := n5_
                have GW298 := n6_
                have GE298 := n7_
                have NB288_298 := n8_
                have NB298_288 := n9_
                have NB289_298 := n10_
                have NB298_289 := n11_
                clear n0_ n1_ n2_ n3_ n4_ n5_ n6_ n7_ n8_ n9_ n10_ n11_
                clear hb hbox hg
                refine hK.out _ _ ⟨(bC BK289.out 0).trans rfl, (bC BK289.out 1).trans rfl, ((HB.out.cell (wL w _ hw290_0)).trans hw290_0), ((HB.out.cell (wL w _ hw291_0)).trans hw291_0), ((HB.out.cell (wL w _ hw292_0)).trans hw292_0)⟩ (fun hHeld => ?_)
                clear hK K
                refine norm_ (a' := ?_) ?_ ?_
                rotate_left
                ·show Act.put _ (some 5) _ = _
                 simp only [Act.put, lS, lZ, lU, i64_w, i32_w]
                 rfl
                exact norm_ (by simp only [putAll, Act.put, lS, lZ, lU]) (hCont (v295, gb298) _ ⟨hHeld, (by (with_reducible repeat (first | apply rA | apply rN | apply rD)); exact rM HO296.out (fun _ hk => hk.2)), (by (with_reducible repeat (first | apply rA | apply rN | apply rD)); exact rM HO_290001.out (fun _ hk => hk.2)), (by (with_reducible repeat (first | refine bN ?_ _ | refine bD ?_ | refine bA ?_ _)); exact BK288.out), (by (with_reducible repeat (first | refine bN ?_ _ | refine bD ?_ | refine bA ?_ _)); exact BK289.out), (by (with_reducible repeat (first | refine bN ?_ _ | refine bD ?_ | refine bA ?_ _)); exact BK298.out), GW298.out, GE298.out, NB288_298.out, NB298_288.out, NB289_298.out, NB298_289.out, (by repeat (first | (with_reducible first | exact HB.out | apply wA | apply wN_ | apply wD | refine wS ?_ GE288.out | refine wS ?_ GE289.out | refine wS ?_ GE298.out) | exact HB.out))⟩)
               ·skip
                refine box_step ?hg (N:=5) ?hd (cs:=#[.int .i64 0,.slice none 0 0]) (t:=41) ?hr ?_;(case hd => rfl);(case hg => rfl);(case hr => first|(go_simp;done)|(go_simp;rfl))
                intro gb298 hg w40 hbox hb
                have n0_ := aM (rB (by (with_reducible repeat (first | apply rA | apply rN | apply rD)); exact HO_290001.out) hb)
                have n1_ := aM (bB (g := gb288) (o := .cells #[.int .i64 0, .slice none 0 0] 41 (0, 0)) (by (with_reducible repeat (first | refine bN ?_ _ | refine bD ?_ | refine bA ?_ _)); exact BK288.out) hb)
                have n2_ := aM (bB (g := gb289) (o := .cells #[.int .i64 x290000_1, .slice Ao38 x290001_1.length co38] 41 (0, 0)) (by (with_reducible repeat (first | refine bN ?_ _ | refine bD ?_ | refine bA ?_ _)); exact BK289.out) hb)
                have n3_ := aM (wT (by repeat (first | (with_reducible first | exact HB.out | apply wA | apply wN_ | apply wD | refine wS ?_ GE288.out | refine wS ?_ GE289.out) | exact HB.out)) hb)
                have n4_ := aM (hbox)
                have n5_ := aM ((by rw [hg]; exact (wZ (by repeat (first | (with_reducible first | exact HB.out | apply wA | apply wN_ | apply wD | refine wS ?_ GE288.out | refine wS ?_ GE289.out) | exact HB.out))) : w.heap.size ≤ gb298))
                have n6_ := aM ((by rw [hg]; exact (wZ (by repeat (first | (with_reducible first | exact HB.out | apply wA | apply wN_ | apply wD | refine wS ?_ GE288.out | refine wS ?_ GE289.out) | exact HB.out))) : w.heap.size ≤ gb298))
                have n7_ := aM ((by rw [hg]; exact Nat.ne_of_lt (bL (g := gb288) (o := .cells #[.int .i64 0, .slice none 0 0] 41 (0, 0)) (by (with_reducible repeat (first | refine bN ?_ _ | refine bD ?_ | refine bA ?_ _)); exact BK288.out)) : gb288 ≠ gb298))
                have n8_ := aM ((by rw [hg]; exact Nat.ne_of_gt (bL (g := gb288) (o := .cells #[.int .i64 0, .slice none 0 0] 41 (0, 0)) (by (with_reducible repeat (first | refine bN ?_ _ | refine bD ?_ | refine bA ?_ _)); exact BK288.out)) : gb298 ≠ gb288))
                have n9_ := aM ((by rw [hg]; exact Nat.ne_of_lt (bL (g := gb289) (o := .cells #[.int .i64 x290000_1, .slice Ao38 x290001_1.length co38] 41 (0, 0)) (by (with_reducible repeat (first | refine bN ?_ _ | refine bD ?_ | refine bA ?_ _)); exact BK289.out)) : gb289 ≠ gb298))
                have n10_ := aM ((by rw [hg]; exact Nat.ne_of_gt (bL (g := gb289) (o := .cells #[.int .i64 x290000_1, .slice Ao38 x290001_1.length co38] 41 (0, 0)) (by (with_reducible repeat (first | refine bN ?_ _ | refine bD ?_ | refine bA ?_ _)); exact BK289.out)) : gb298 ≠ gb289))
                clear HO_290001
                clear BK288
                clear BK289
                clear HB
                have HO_290001 := n0_
                have BK288 := n1_
                have BK289 := n2_
                have HB := n3_
                have BK298 := n4_
                have GW298 := n5_
                have GE298 := n6_
                have NB288_298 := n7_
                have NB298_288 := n8_
                have NB289_298 := n9_
                have NB298_289 := n10_
                clear n0_ n1_ n2_ n3_ n4_ n5_ n6_ n7_ n8_ n9_ n10_
                clear hb hbox hg
                refine hK.out _ _ ⟨(bC BK289.out 0).trans rfl, (bC BK289.out 1).trans rfl, ((HB.out.cell (wL w _ hw290_0)).trans hw290_0), ((HB.out.cell (wL w _ hw291_0)).trans hw291_0), ((HB.out.cell (wL w _ hw292_0)).trans hw292_0)⟩ (fun hHeld => ?_)
                clear hK K
                refine norm_ (a' := ?_) ?_ ?_
                rotate_left
                ·show Act.put _ (some 5) _ = _
                 simp only [Act.put, lS, lZ, lU, i64_w, i32_w]
                 rfl
                refine one_ (i := 24) (N := some 47) #[tt,tt,tt,tt,tt,tt,tt,tt,tt,tt,tt,tt,tt,tt,tt,tt,tt,tt,tt,tt,tt,tt,tt,tt,tt,ff,ff,ff,tt,ff,ff] rfl rfl (one_of HT_.out (by kernel_rfl)) (by decide) (fun K hK => ?_)
                refine goes_ Try.func50 (by kernel_rfl) rfl #[.agg #[.int .i64 x290000_1, .slice Ao38 x290001_1.length co38], .int .i64 ji16, .int .i64 (wrap64 ((Int.tmod (wrap64 ((wrap64 ((wrap64 (rd l0 (ji17))) * 256)) + (wrap64 (rd l0 (ji20))))) 512) * 32))] (by rfl) rfl rfl (by (try simp only [lM, lC, lN]); first | done | (simp only [hji16, hji17, hji20]; rfl) | rfl | (simp only [lD, lT]; rfl)) ?_
                with_reducible refine (rickyardref13_Alloc.calls x290000_1 _ _ x290001_1 ji16 (wrap64 ((Int.tmod (wrap64 ((wrap64 ((wrap64 (rd l0 (ji17))) * 256)) + (wrap64 (rd l0 (ji20))))) 512) * 32)) t293 t294 false _ ?side1 ?side2 A23.out).mono ?_
                (case side1 => repeat (first|exact (Kd.R_reads' HO_290001.out).2.2|(with_reducible refine cA ?_ _)|(with_reducible refine cN ?_ _)|(with_reducible refine cD ?_)))
                (case side2 => exact (Kd.R_reads' HO_290001.out).2.1)
                rintro e w41 ⟨v295, rfl, ho0, hb⟩
                refine ⟨_, rfl, ?_⟩
                have n0_ := aM (Kd.R_elder' (by (with_reducible repeat (first | apply rA | apply rN | apply rD)); exact HO_290001.out) (Kd.R_base ho0) hb)
                have n1_ := aM (Kd.R_lower (Kd.R_new' ho0 (Kd.R_lt (by (with_reducible repeat (first | apply rA | apply rN | apply rD)); exact HO_290001.out))) (wZ (by repeat (first | (with_reducible first | exact HB.out | apply wA | apply wN_ | apply wD | refine wS ?_ GE288.out | refine wS ?_ GE289.out | refine wS ?_ GE298.out) | exact HB.out))))
                have n2_ := aM (bB (g := gb288) (o := .cells #[.int .i64 0, .slice none 0 0] 41 (0, 0)) (by (with_reducible repeat (first | refine bN ?_ _ | refine bD ?_ | refine bA ?_ _)); exact BK288.out) hb)
                have n3_ := aM (bB (g := gb289) (o := .cells #[.int .i64 x290000_1, .slice Ao38 x290001_1.length co38] 41 (0, 0)) (by (with_reducible repeat (first | refine bN ?_ _ | refine bD ?_ | refine bA ?_ _)); exact BK289.out) hb)
                have n4_ := aM (bB (g := gb298) (o := .cells #[.int .i64 0, .slice none 0 0] 41 (0, 0)) (by (with_reducible repeat (first | refine bN ?_ _ | refine bD ?_ | refine bA ?_ _)); exact BK298.out) hb)
                have n5_ := aM (wT (by repeat (first | (with_reducible first | exact HB.out | apply wA | apply wN_ | apply wD | refine wS ?_ GE288.out | refine wS ?_ GE289.out | refine wS ?_ GE298.out) | exact HB.out)) hb)
                clear HO_290001
                clear BK288
                clear BK289
                clear BK298
                clear HB
                have HO_290001 := n0_
                have HO296 := n1_
                have BK288 := n2_
                have BK289 := n3_
                have BK298 := n4_
                have HB := n5_
                clear n0_ n1_ n2_ n3_ n4_ n5_
                (try clear hb)
                (try clear hb2)
                (try clear hk)
                (try clear hi)
                (try clear ho0)
                refine hK.out _ _ ⟨(bC BK289.out 0).trans rfl, (bC BK289.out 1).trans rfl, ((HB.out.cell (wL w _ hw290_0)).trans hw290_0), ((HB.out.cell (wL w _ hw291_0)).trans hw291_0), ((HB.out.cell (wL w _ hw292_0)).trans hw292_0)⟩ (fun hHeld => ?_)
                clear hK K
                refine norm_ (a' := ?_) ?_ ?_
                rotate_left
                ·show Act.put _ (some 47) _ = _
                 simp only [Act.put, lS, lZ, lU, i64_w, i32_w]
                 rfl
                refine pure_ (i := 25) (N := some 22) (v := ?_) (a' := ?_) #[tt,tt,tt,tt,tt,tt,tt,tt,tt,tt,tt,tt,tt,tt,tt,tt,tt,tt,tt,tt,tt,tt,tt,tt,tt,tt,ff,ff,tt,ff,ff] rfl rfl (any_of HT_.out (by kernel_rfl)) (fun _ _ _ h => h) (Or.inl ⟨by rfl, ?_⟩) ?_ ?_
                rotate_left
                ·intro w'
                 go_simp
                 with_reducible rfl
                rotate_left
                ·simp only [Act.put, lS, lZ, lU, i64_w, i32_w]
                 rfl
                refine pure_ (i := 26) (N := some 48) (v := ?_) (a' := ?_) #[tt,tt,tt,tt,tt,tt,tt,tt,tt,tt,tt,tt,tt,tt,tt,tt,tt,tt,tt,tt,tt,tt,tt,tt,tt,tt,tt,ff,tt,ff,ff] rfl rfl (any_of HT_.out (by kernel_rfl)) (fun _ _ _ h => h) (Or.inl ⟨by rfl, ?_⟩) ?_ ?_
                rotate_left
                ·intro w'
                 go_simp
                 with_reducible rfl
                rotate_left
                ·simp only [Act.put, lS, lZ, lU, i64_w, i32_w]
                 rfl
                refine pure_ (i := 27) (N := some 49) (v := ?_) (a' := ?_) (msk 29 2) rfl rfl (any_of HT_.out (by kernel_rfl)) (fun _ _ _ h => h) (Or.inl ⟨by rfl, ?_⟩) ?_ ?_
                rotate_left
                ·intro w'
                 go_simp
                 with_reducible rfl
                rotate_left
                ·simp only [Act.put, lS, lZ, lU, i64_w, i32_w]
                 rfl
                exact norm_ (by simp only [putAll, Act.put, lS, lZ, lU]) (hCont (v295, gb298) _ ⟨hHeld, (by (with_reducible repeat (first | apply rA | apply rN | apply rD)); exact rM HO296.out (fun _ hk => hk.2)), (by (with_reducible repeat (first | apply rA | apply rN | apply rD)); exact rM HO_290001.out (fun _ hk => hk.2)), (by (with_reducible repeat (first | refine bN ?_ _ | refine bD ?_ | refine bA ?_ _)); exact BK288.out), (by (with_reducible repeat (first | refine bN ?_ _ | refine bD ?_ | refine bA ?_ _)); exact BK289.out), (by (with_reducible repeat (first | refine bN ?_ _ | refine bD ?_ | refine bA ?_ _)); exact BK298.out), GW298.out, GE298.out, NB288_298.out, NB298_288.out, NB289_298.out, NB298_289.out, (by repeat (first | (with_reducible first | exact HB.out | apply wA | apply wN_ | apply wD | refine wS ?_ GE288.out | refine wS ?_ GE289.out | refine wS ?_ GE298.out) | exact HB.out))⟩)
              rintro ⟨v295, gb298⟩ w42 ⟨hS_, h0_, h1_, h2_, h3_, h4_, h5_, h6_, h7_, h8_, h9_, h10_, h11_⟩
              have n0_ : Aside0 (Kd.R k48 48 w42 w.heap.size (fun k_ => some k_ ≠ (.slice Ao38 x290001_1.length co38 : Value).ownBlock) v295 t294) := ⟨h0_⟩
              have n1_ : Aside0 (Kd.R k48 48 w42 w.heap.size (fun k_ => some k_ ≠ (v295 : Value).ownBlock) (.slice Ao38 x290001_1.length co38) x290001_1) := ⟨h1_⟩
              have n2_ : Aside0 (w42.heap[gb288]? = some (.cells #[.int .i64 0, .slice none 0 0] 41 (0, 0))) := ⟨h2_⟩
              have n3_ : Aside0 (w42.heap[gb289]? = some (.cells #[.int .i64 x290000_1, .slice Ao38 x290001_1.length co38] 41 (0, 0))) := ⟨h3_⟩
              have n4_ : Aside0 (w42.heap[gb298]? = some (.cells #[.int .i64 0, .slice none 0 0] 41 (0, 0))) := ⟨h4_⟩
              have n5_ : Aside0 (w.heap.size ≤ gb298) := ⟨h5_⟩
              have n6_ : Aside0 (w.heap.size ≤ gb298) := ⟨h6_⟩
              have n7_ : Aside0 (gb288 ≠ gb298) := ⟨h7_⟩
              have n8_ : Aside0 (gb298 ≠ gb288) := ⟨h8_⟩
              have n9_ : Aside0 (gb289 ≠ gb298) := ⟨h9_⟩
              have n10_ : Aside0 (gb298 ≠ gb289) := ⟨h10_⟩
              have n11_ : Aside0 (Below w.heap.size w w42) := ⟨h11_⟩
              clear HO_290001
              clear BK288
              clear BK289
              clear HB
              clear h0_ h1_ h2_ h3_ h4_ h5_ h6_ h7_ h8_ h9_ h10_ h11_
              have HO296 := n0_
              have HO_290001 := n1_
              have BK288 := n2_
              have BK289 := n3_
              have BK298 := n4_
              have GW298 := n5_
              have GE298 := n6_
              have NB288_298 := n7_
              have NB298_288 := n8_
              have NB289_298 := n9_
              have NB298_289 := n10_
              have HB := n11_
              clear n0_ n1_ n2_ n3_ n4_ n5_ n6_ n7_ n8_ n9_ n10_ n11_
              have hHeld : w42.cell? ⟨gb289, 0, none⟩ = some (.int .i64 x290000_1) ∧ w42.cell? ⟨gb289, 1, none⟩ = some (.slice Ao38 x290001_1.length co38) ∧ w42.cell? (ad290.add (x4_1).toNat) = some (.int .u8 (rd l0 x4_1)) ∧ w42.cell? (ad290.add ((ji17)).toNat) = some (.int .u8 (rd l0 (ji17))) ∧ w42.cell? (ad290.add ((ji20)).toNat) = some (.int .u8 (rd l0 (ji20))) := hS_
              obtain ⟨Ao44, co44, eo44⟩ := Kd.R_slice HO296.out
              (first | subst eo44 | (injection eo44 with f1_ f2_ f3_; have f4_ := f1_.symm; have f5_ := f3_.symm; clear f1_ f2_ f3_; subst f4_; subst f5_))
              refine norm_ (a' := ?_) ?_ ?_
              rotate_left
              ·simp only [putAll, Act.put, lS, lZ, lU]
               rfl
              refine one_ (i := 29) (N := none) (msk 30 1) rfl rfl (one_of HT_.out (by kernel_rfl)) (by decide) (fun K hK => ?_)
              have hs43 : w42.cell? ⟨gb298, 0, none⟩ = some (.int .i64 0) := (bC BK298.out 0).trans rfl
              have hfs43 := bF BK298.out 0
              have hns43_0 := NB288_298.out
              have hns43_1 := NB289_298.out
              have hms43_0 := NB298_288.out
              have hms43_1 := NB298_289.out
              have hs45 : w42.cell? ⟨gb298, 1, none⟩ = some (.slice none 0 0) := (bC BK298.out 1).trans rfl
              have hfs45 := bF BK298.out 1
              have hns45_0 := NB288_298.out
              have hns45_1 := NB289_298.out
              have hms45_0 := NB298_288.out
              have hms45_1 := NB298_289.out
              refine skip_ (w1 := ?_) (by rfl) rfl ?_ ?_
              rotate_left
              ·go_simp
               rfl
              refine hK.out _ _ ⟨((cell_far (p := ⟨gb298, _, none⟩) NB289_298.out _).trans (((cell_far (p := ⟨gb298, _, none⟩) NB289_298.out _).trans (hHeld.1)))), ((cell_far (p := ⟨gb298, _, none⟩) NB289_298.out _).trans (((cell_far (p := ⟨gb298, _, none⟩) NB289_298.out _).trans (hHeld.2.1)))), ((cell_far (p := ⟨gb298, _, none⟩) (by first | exact Nat.ne_of_lt (Nat.lt_of_lt_of_le (by have := wL _ _ hw290_0; first | rwa [add_block] at this | exact this) GW298.out) | (rw [add_block]; exact Nat.ne_of_lt (Nat.lt_of_lt_of_le (by have := wL _ _ hw290_0; first | rwa [add_block] at this | exact this) GW298.out)) | (show (Addr.add _ _).block ≠ _; rw [add_block]; exact Nat.ne_of_lt (Nat.lt_of_lt_of_le (by have := wL _ _ hw290_0; first | rwa [add_block] at this | exact this) GW298.out)) | (dsimp only; exact Nat.ne_of_lt (Nat.lt_of_lt_of_le (by have := wL _ _ hw290_0; first | rwa [add_block] at this | exact this) GW298.out))) _).trans (((cell_far (p := ⟨gb298, _, none⟩) (by first | exact Nat.ne_of_lt (Nat.lt_of_lt_of_le (by have := wL _ _ hw290_0; first | rwa [add_block] at this | exact this) GW298.out) | (rw [add_block]; exact Nat.ne_of_lt (Nat.lt_of_lt_of_le (by have := wL _ _ hw290_0; first | rwa [add_block] at this | exact this) GW298.out)) | (show (Addr.add _ _).block ≠ _; rw [add_block]; exact Nat.ne_of_lt (Nat.lt_of_lt_of_le (by have := wL _ _ hw290_0; first | rwa [add_block] at this | exact this) GW298.out)) | (dsimp only; exact Nat.ne_of_lt (Nat.lt_of_lt_of_le (by have := wL _ _ hw290_0; first | rwa [add_block] at this | exact this) GW298.out))) _).trans (hHeld.2.2.1)))), ((cell_far (p := ⟨gb298, _, none⟩) (by first | exact Nat.ne_of_lt (Nat.lt_of_lt_of_le (by have := wL _ _ hw291_0; first | rwa [add_block] at this | exact this) GW298.out) | (rw [add_block]; exact Nat.ne_of_lt (Nat.lt_of_lt_of_le (by have := wL _ _ hw291_0; first | rwa [add_block] at this | exact this) GW298.out)) | (show (Addr.add _ _).block ≠ _; rw [add_block]; exact Nat.ne_of_lt (Nat.lt_of_lt_of_le (by have := wL _ _ hw291_0; first | rwa [add_block] at this | exact this) GW298.out)) | (dsimp only; exact Nat.ne_of_lt (Nat.lt_of_lt_of_le (by have := wL _ _ hw291_0; first | rwa [add_block] at this | exact this) GW298.out))) _).trans (((cell_far (p := ⟨gb298, _, none⟩) (by first | exact Nat.ne_of_lt (Nat.lt_of_lt_of_le (by have := wL _ _ hw291_0; first | rwa [add_block] at this | exact this) GW298.out) | (rw [add_block]; exact Nat.ne_of_lt (Nat.lt_of_lt_of_le (by have := wL _ _ hw291_0; first | rwa [add_block] at this | exact this) GW298.out)) | (show (Addr.add _ _).block ≠ _; rw [add_block]; exact Nat.ne_of_lt (Nat.lt_of_lt_of_le (by have := wL _ _ hw291_0; first | rwa [add_block] at this | exact this) GW298.out)) | (dsimp only; exact Nat.ne_of_lt (Nat.lt_of_lt_of_le (by have := wL _ _ hw291_0; first | rwa [add_block] at this | exact this) GW298.out))) _).trans (hHeld.2.2.2.1)))), ((cell_far (p := ⟨gb298, _, none⟩) (by first | exact Nat.ne_of_lt (Nat.lt_of_lt_of_le (by have := wL _ _ hw292_0; first | rwa [add_block] at this | exact this) GW298.out) | (rw [add_block]; exact Nat.ne_of_lt (Nat.lt_of_lt_of_le (by have := wL _ _ hw292_0; first | rwa [add_block] at this | exact this) GW298.out)) | (show (Addr.add _ _).block ≠ _; rw [add_block]; exact Nat.ne_of_lt (Nat.lt_of_lt_of_le (by have := wL _ _ hw292_0; first | rwa [add_block] at this | exact this) GW298.out)) | (dsimp only; exact Nat.ne_of_lt (Nat.lt_of_lt_of_le (by have := wL _ _ hw292_0; first | rwa [add_block] at this | exact this) GW298.out))) _).trans (((cell_far (p := ⟨gb298, _, none⟩) (by first | exact Nat.ne_of_lt (Nat.lt_of_lt_of_le (by have := wL _ _ hw292_0; first | rwa [add_block] at this | exact this) GW298.out) | (rw [add_block]; exact Nat.ne_of_lt (Nat.lt_of_lt_of_le (by have := wL _ _ hw292_0; first | rwa [add_block] at this | exact this) GW298.out)) | (show (Addr.add _ _).block ≠ _; rw [add_block]; exact Nat.ne_of_lt (Nat.lt_of_lt_of_le (by have := wL _ _ hw292_0; first | rwa [add_block] at this | exact this) GW298.out)) | (dsimp only; exact Nat.ne_of_lt (Nat.lt_of_lt_of_le (by have := wL _ _ hw292_0; first | rwa [add_block] at this | exact this) GW298.out))) _).trans (hHeld.2.2.2.2))))⟩ (fun hHeld => ?_)
              clear hK K
              refine pure_ (i := 30) (N := some 6) (v := ?_) (a' := ?_) (msk 31 0) rfl rfl (any_of HT_.out (by kernel_rfl)) (fun _ _ _ h => h) (Or.inl ⟨by rfl, ?_⟩) ?_ ?_
              rotate_left
              ·intro w'
               go_simp
               with_reducible rfl
              rotate_left
              ·simp only [Act.put, lS, lZ, lU, i64_w, i32_w]
               rfl
              refine done_ (done_of HT_.out (by kernel_rfl)) ?_
              try go_wp2
              go_roundg kj5
              case measure => have:=HK1.out;have:=HJ5.out;omega
              case rel => exact ⟨(wrap64 (x4_1 + 3)),(x290000_1),(x290001_1),(.slice Ao38 x290001_1.length co38),(by first|rfl|(simp;done)|(simp [*];done)),H',⟨by have:=HK1.out;have:=HJ5.out;omega⟩,⟨by (with_reducible repeat (first|apply rA|apply rN|apply rD));exact rM (rF_ (p:=⟨gb298,1,none⟩) (rF_ (p:=⟨gb298,0,none⟩) (Kd.R_types HO_290001.out BK298.out (by decide)) (fun _ hk => hk.2) (.int .i64 t293)) (fun _ hk => hk.2) (.slice Ao44 t294.length co44)) (fun _ hk => trivial)⟩,⟨by (with_reducible repeat (first|refine bN ?_ _|refine bD ?_|refine bA ?_ _));refine bR ?_ NB288_298.out _;(with_reducible repeat (first|refine bN ?_ _|refine bD ?_|refine bA ?_ _));refine bR ?_ NB288_298.out _;(with_reducible repeat (first|refine bN ?_ _|refine bD ?_|refine bA ?_ _));exact BK288.out⟩,⟨by (with_reducible repeat (first|refine bN ?_ _|refine bD ?_|refine bA ?_ _));refine bR ?_ NB289_298.out _;(with_reducible repeat (first|refine bN ?_ _|refine bD ?_|refine bA ?_ _));refine bR ?_ NB289_298.out _;(with_reducible repeat (first|refine bN ?_ _|refine bD ?_|refine bA ?_ _));exact BK289.out⟩,⟨by repeat (first|(with_reducible first|exact HB.out|apply wA|apply wN_|apply wD|refine wS ?_ GE288.out|refine wS ?_ GE289.out|refine wS ?_ GE298.out)|exact HB.out)⟩⟩
            ·rw [if_neg c22] at H
             exact absurd H (by simp)
           ·rw [if_neg c21] at H
            exact absurd H (by simp)
          ·rw [if_neg c19] at H
           exact absurd H (by simp)
         ·rw [if_neg c18] at H
          exact absurd H (by simp)
        ·rw [if_neg c15] at H
         exact absurd H (by simp)
       ·rw [if_neg c13] at H
        exact absurd H (by simp)
      ·rw [if_neg c12] at H
       exact absurd H (by simp)
     ·replace c11 := Bool.eq_false_iff.mpr c11
      subst c11
      have H1 : (rickyardlaw13_Made.l1 kj5 l0 0 x290000_1 x290001_1) = some (r1, r2) := by rw [if_neg (show ¬ (false = true) by decide)] at H; exact H
      clear H
      have H := H1
      clear H1
      have H' := aM H
      clear H
      go_wp2
      go_loopg [7] kj5 (fun kq v7 w' => ∃ (x7_3 : Int) (x290001_3 : List (S48)) (u290001 : Value), v7 = .int .i64 x7_3 ∧ Aside0 (rickyardlaw13_Made.l1 kq l0 x7_3 x290000_1 x290001_3 = some (r1, r2)) ∧ Aside0 (kq ≤ kj5) ∧ Aside0 (Kd.R k48 48 w' w.heap.size (fun _ => True) u290001 x290001_3) ∧ Aside0 (w'.heap[gb288]? = some (.cells #[.int .i64 0, (.slice none 0 0)] 41 (0, 0))) ∧ Aside0 (w'.heap[gb289]? = some (.cells #[.int .i64 x290000_1, u290001] 41 (0, 0))) ∧ Aside0 (Below w.heap.size w w'))
      case atStart => exact ⟨(0),(x290001_1),(u290001),(by first|rfl|(simp;done)|(simp [*];done)),H',⟨Nat.le_refl _⟩,⟨by (with_reducible repeat (first|apply rA|apply rN|apply rD));exact HO_290001.out⟩,⟨by (with_reducible repeat (first|refine bN ?_ _|refine bD ?_|refine bA ?_ _));exact BK288.out⟩,⟨by (with_reducible repeat (first|refine bN ?_ _|refine bD ?_|refine bA ?_ _));exact BK289.out⟩,⟨by repeat (first|(with_reducible first|exact HB.out|apply wA|apply wN_|apply wD|refine wS ?_ GE288.out|refine wS ?_ GE289.out)|exact HB.out)⟩⟩
      case round =>
       clear H'
       try clear c1
       try clear c2
       try clear p2
       try clear q2
       try clear hx2
       try clear c3
       try clear c5
       try clear p6
       try clear c11
       try clear c12
       try clear c13
       try clear c15
       try clear c18
       try clear c19
       try clear c21
       try clear c22
       try clear c24
       try clear p29
       try clear q29
       try clear hx29
       try clear c33
       try clear c34
       try clear c36
       try clear hcz35_0
       try clear hcz35_1
       try clear hcz37_0
       try clear hcz37_1
       try clear hfz35_0
       try clear hfz35_1
       try clear hfz37_0
       try clear hfz37_1
       try clear hx290_0
       try clear hx291_0
       try clear hx292_0
       try clear p290
       try clear p291
       try clear p292
       try clear q290
       try clear q291
       try clear q292
       obtain ⟨x7_3, x290001_3, u290001, rfl, HA, HK3, HO_290001, BK288, BK289, HB⟩ := hrel
       cases gk with
       | zero => exact absurd HA.out (by simp [rickyardlaw13_Made.l1])
       | succ k3 =>
        have H := HA.out
        clear HA
        simp only [rickyardlaw13_Made.l1] at H
        by_cases c46 : x7_3 < (x290001_3.length : Int)
        ·rw [if_pos c46] at H
         have c46b0 : decide (x7_3 < (x290001_3.length : Int)) = true := decide_eq_true c46
         clear c46
         by_cases c47 : x7_3 < (l0.length : Int)
         ·rw [if_pos c47] at H
          have c47b0 : decide (x7_3 < (l0.length : Int)) = true := decide_eq_true c47
          clear c47
          by_cases c48 : 0 ≤ x7_3
          ·rw [if_pos c48] at H
           have c48b0 : decide (0 ≤ x7_3) = true := decide_eq_true c48
           clear c48
           obtain ⟨y300, hy300⟩ : ∃ y_ : List (S48), y_ = (x290001_3.set (x7_3 : Int).toNat (⟨(rd_T48 x290001_3 x7_3).f0, (rd_T48 x290001_3 x7_3).f1, wrap64 ((Int.tmod (wrap64 (rd l0 x7_3)) 4) - 1)⟩ : S48)) := ⟨_, rfl⟩
           replace H : (rickyardlaw13_Made.l1 k3 l0 (wrap64 (x7_3 + 1)) x290000_1 y300) = some (r1, r2) := by first | (rw [hy300]; with_reducible exact H) | (have H2_ := (Option.bind_some _ _).symm.trans H; rw [hy300]; with_reducible exact H2_) | (have H2_ := (Option.bind_some _ _).symm.trans H; with_reducible exact H2_) | with_reducible exact H | (rw [hy300]; exact H) | exact H
           have Ny300 := aM hy300
           clear hy300
           have H' := aM H
           clear H
           have hnb50 := NB289_288.out
           have hnc50 := NB288_289.out
           have hcz51_0 : wr.cell? ⟨gb289, 0, none⟩ = some (.int .i64 x290000_1) := (bC BK289.out 0).trans rfl
           have hcz51_1 : wr.cell? ⟨gb289, 1, none⟩ = some (u290001) := (bC BK289.out 1).trans rfl
           have hfz51_0 := bF BK289.out 0
           have hfz51_1 := bF BK289.out 1
           obtain ⟨Ao52, co52, eo52⟩ := Kd.R_slice HO_290001.out
           subst eo52
           try go_wp2
           have n0_ := aM (rD HO_290001.out)
           have n1_ := aM (bD BK288.out)
           have n2_ := aM (bD BK289.out)
           have n3_ := aM (wD HB.out)
           clear HO_290001
           clear BK288
           clear BK289
           clear HB
           have HO_290001 := n0_
           have BK288 := n1_
           have BK289 := n2_
           have HB := n3_
           clear n0_ n1_ n2_ n3_
           have p299 : 0 ≤ (x7_3 : Int) := oD (by first | (with_reducible assumption) | assumption)
           have q299 : x7_3 < (l0.length : Int) := oD (by first | (with_reducible assumption) | assumption)
           obtain ⟨ad299, e299, hx299_0⟩ := Kd.at_int HR0.out x7_3 p299 q299
           have hw299_0 := hx299_0
           cases e299
           replace hx299_0 := (HB.out.cell (wL w _ hx299_0)).trans hx299_0
           replace p299 := eq_true p299
           replace q299 := eq_true q299
           have p49 : 0 ≤ (x7_3 : Int) := oD (by first | (with_reducible assumption) | assumption)
           have q49 : (x7_3 : Int) < ((x290001_3.length : Int) : Int) := oD (by first | (with_reducible assumption) | assumption)
           obtain ⟨go49, co49, eo49, gb49, gl49, cl49, HG49⟩ := Kd.R_form HO_290001.out (by omega)
           (first | cases eo49 | (injection eo49 with ea_ en_ ec_; (first | subst ea_ | (injection ea_ with ea_; subst ea_)); subst ec_; clear en_))
           have GB49 := aM gb49
           have GG49 := aM HG49
           clear gb49 gl49 HG49
           obtain ⟨ce49, hcl49, hM49, hcc49, hfr49⟩ := Kd.R_elem HO_290001.out z48 (x7_3 : Int) p49 q49
           obtain rfl := k48_openM hM49
           have hx49_0 : World.cell? _ ⟨go49, (x7_3 : Int).toNat * 3, none⟩ = some (.int .i64 ((rd_T48 x290001_3 x7_3).f0)) := hcc49 0 _ rfl
           have hx49_1 : World.cell? _ ⟨go49, (x7_3 : Int).toNat * 3 + 1, none⟩ = some (.int .i64 ((rd_T48 x290001_3 x7_3).f1)) := hcc49 1 _ rfl
           have hx49_2 : World.cell? _ ⟨go49, (x7_3 : Int).toNat * 3 + 2, none⟩ = some (.int .i64 ((rd_T48 x290001_3 x7_3).f2)) := hcc49 2 _ rfl
           have hf49_0 : World.frozen? _ ⟨go49, (x7_3 : Int).toNat * 3, none⟩ = false := hfr49 0
           have hf49_1 : World.frozen? _ ⟨go49, (x7_3 : Int).toNat * 3 + 1, none⟩ = false := hfr49 1
           have hf49_2 : World.frozen? _ ⟨go49, (x7_3 : Int).toNat * 3 + 2, none⟩ = false := hfr49 2
           clear hcl49 hcc49 hfr49 hM49
           replace p49 := eq_true p49
           replace q49 := eq_true q49
           obtain ⟨ce54, hcl54, hM54, hcc54, hfr54⟩ := Kd.R_elem HO_290001.out z48 (x7_3 : Int) (oD (by first | (with_reducible assumption) | assumption)) (by have h_ : (x7_3 : Int) < ((x290001_3.length : Int) : Int) := oD (by first | (with_reducible assumption) | assumption); first | exact h_ | (have e_ := (Kd.R_reads' HO_290001.out).1; omega) | simpa using h_)
           obtain rfl := k48_openM hM54
           have HP54 := (Kd.R_seg HO_290001.out (x7_3 : Int) (oD (by first | (with_reducible assumption) | assumption)) (by have h_ : (x7_3 : Int) < ((x290001_3.length : Int) : Int) := oD (by first | (with_reducible assumption) | assumption); first | exact h_ | (have e_ := (Kd.R_reads' HO_290001.out).1; omega) | simpa using h_) (seg := [.int .i64 (wrap64 ((Int.tmod (wrap64 (rd l0 x7_3)) 4) - 1))]) (j := 2) hcl54 hcc54 (show 3 ≤ 3 from by decide) (x' := (⟨(rd_T48 x290001_3 x7_3).f0, (rd_T48 x290001_3 x7_3).f1, wrap64 ((Int.tmod (wrap64 (rd l0 x7_3)) 4) - 1)⟩ : S48)) (k48_mkM _ _ _ (⟨(rd_T48 x290001_3 x7_3).f0, (rd_T48 x290001_3 x7_3).f1, wrap64 ((Int.tmod (wrap64 (rd l0 x7_3)) 4) - 1)⟩ : S48) ) (fun _ hk => hk)).1
           rw [← Ny300.out] at HP54
           have HQ54 := aM HP54
           clear hcl54 hcc54 hfr54 hM54 HP54
           refine start_ (n := 13) (S := fun w' => w'.cell? ⟨gb289, 0, none⟩ = some (.int .i64 x290000_1) ∧ w'.cell? ⟨gb289, 1, none⟩ = some (.slice (some ⟨go49, 0, none⟩) x290001_3.length co52) ∧ w'.cell? (ad299.add (x7_3).toNat) = some (.int .u8 (rd l0 x7_3))) (ds := [12]) #[false, false, false, false, false, false, false, false, false, false, false, false, false] (by kernel_rfl) rfl rfl ⟨(bC BK289.out 0).trans rfl, (bC BK289.out 1).trans rfl, ((HB.out.cell (wL w _ hw299_0)).trans hw299_0)⟩ (fun hHeld => ?_); refine with_tabW rickyardlaw13_Made.tab11 rickyardlaw13_Made.bits11 (fun HT_ HW_ => ?_)
           generalize wr.drew = w53 at HO_290001 BK288 BK289 HB GG49 HQ54 hf49_0 hf49_1 hf49_2 hx299_0 hx49_0 hx49_1 hx49_2 hHeld ⊢
           refine pure_ (i := 0) (N := some 65) (v := ?_) (a' := ?_) #[true, false, false, false, false, false, false, false, false, false, false, false, false] rfl rfl (any_of HT_.out (by kernel_rfl)) (fun _ _ _ h => h) (Or.inl ⟨by rfl, ?_⟩) ?_ ?_
           rotate_left
           ·intro w'
            go_simp
            with_reducible rfl
           rotate_left
           ·simp only [Act.put, lS, lZ, lU, i64_w, i32_w]
            rfl
           refine pure_ (i := 2) (N := some 67) (v := ?_) (a' := ?_) #[true, false, true, false, false, false, false, false, false, false, false, false, false] rfl rfl (any_of HT_.out (by kernel_rfl)) (fun _ _ _ h => h) (Or.inl ⟨by rfl, ?_⟩) ?_ ?_
           rotate_left
           ·intro w'
            go_simp
            with_reducible rfl
           rotate_left
           ·simp only [Act.put, lS, lZ, lU, i64_w, i32_w]
            rfl
           refine pure_ (i := 3) (N := some 68) (v := ?_) (a' := ?_) #[true, false, true, true, false, false, false, false, false, false, false, false, false] rfl rfl (any_of HT_.out (by kernel_rfl)) (fun _ _ _ h => h) (Or.inl ⟨by rfl, ?_⟩) ?_ ?_
           rotate_left
           ·intro w'
            go_simp
            with_reducible rfl
           rotate_left
           ·simp only [Act.put, lS, lZ, lU, i64_w, i32_w]
            rfl
           refine pure_ (i := 4) (N := some 69) (v := ?_) (a' := ?_) #[true, false, true, true, true, false, false, false, false, false, false, false, false] rfl rfl (any_of HT_.out (by kernel_rfl)) (fun _ _ _ h => h) (Or.inl ⟨by rfl, ?_⟩) ?_ ?_
           rotate_left
           ·intro w'
            go_simp
            with_reducible rfl
           rotate_left
           ·simp only [Act.put, lS, lZ, lU, i64_w, i32_w]
            rfl
           refine pure_ (i := 5) (N := some 70) (v := ?_) (a' := ?_) #[true, false, true, true, true, true, false, false, false, false, false, false, false] rfl rfl (any_of HT_.out (by kernel_rfl)) (fun _ _ _ h => h) (Or.inl ⟨by rfl, ?_⟩) ?_ ?_
           rotate_left
           ·intro w'
            go_simp
            with_reducible rfl
           rotate_left
           ·simp only [Act.put, lS, lZ, lU, i64_w, i32_w]
            rfl
           refine take_ (i := 1) (N := some 66) (v := ?_) (a' := ?_) #[true, true, true, true, true, true, false, false, false, false, false, false, false] rfl rfl (take_ofW HT_.out HW_.out (by kernel_rfl)) (fun _ _ _ h => h) (Or.inl ⟨by rfl, ?_⟩) hHeld ?_ ?_
           rotate_left
           ·rintro w' ⟨s0, s1, s2⟩
            go_simp
            with_reducible rfl
           rotate_left
           ·simp only [Act.put, lS, lZ, lU, i64_w, i32_w]
            rfl
           refine take_ (i := 6) (N := some 71) (v := ?_) (a' := ?_) #[true, true, true, true, true, true, true, false, false, false, false, false, false] rfl rfl (take_ofW HT_.out HW_.out (by kernel_rfl)) (fun _ _ _ h => h) (Or.inl ⟨by rfl, ?_⟩) hHeld ?_ ?_
           rotate_left
           ·rintro w' ⟨s0, s1, s2⟩
            go_simp
            with_reducible rfl
           rotate_left
           ·simp only [Act.put, lS, lZ, lU, i64_w, i32_w]
            rfl
           refine pure_ (i := 7) (N := some 72) (v := ?_) (a' := ?_) #[true, true, true, true, true, true, true, true, false, false, false, false, false] rfl rfl (any_of HT_.out (by kernel_rfl)) (fun _ _ _ h => h) (Or.inl ⟨by rfl, ?_⟩) ?_ ?_
           rotate_left
           ·intro w'
            go_simp
            with_reducible rfl
           rotate_left
           ·simp only [Act.put, lS, lZ, lU, i64_w, i32_w]
            rfl
           refine pure_ (i := 8) (N := some 73) (v := ?_) (a' := ?_) #[true, true, true, true, true, true, true, true, true, false, false, false, false] rfl rfl (any_of HT_.out (by kernel_rfl)) (fun _ _ _ h => h) (Or.inl ⟨by rfl, ?_⟩) ?_ ?_
           rotate_left
           ·intro w'
            go_simp
            with_reducible rfl
           rotate_left
           ·simp only [Act.put, lS, lZ, lU, i64_w, i32_w]
            rfl
           refine pure_ (i := 9) (N := some 74) (v := ?_) (a' := ?_) #[true, true, true, true, true, true, true, true, true, true, false, false, false] rfl rfl (any_of HT_.out (by kernel_rfl)) (fun _ _ _ h => h) (Or.inl ⟨by rfl, ?_⟩) ?_ ?_
           rotate_left
           ·intro w'
            go_simp
            with_reducible rfl
           rotate_left
           ·simp only [Act.put, lS, lZ, lU, i64_w, i32_w]
            rfl
           refine pure_ (i := 10) (N := some 75) (v := ?_) (a' := ?_) #[true, true, true, true, true, true, true, true, true, true, true, false, false] rfl rfl (any_of HT_.out (by kernel_rfl)) (fun _ _ _ h => h) (Or.inl ⟨by rfl, ?_⟩) ?_ ?_
           rotate_left
           ·intro w'
            go_simp
            with_reducible rfl
           rotate_left
           ·simp only [Act.put, lS, lZ, lU, i64_w, i32_w]
            rfl
           refine pure_ (i := 11) (N := some 76) (v := ?_) (a' := ?_) #[true, true, true, true, true, true, true, true, true, true, true, true, false] rfl rfl (any_of HT_.out (by kernel_rfl)) (fun _ _ _ h => h) (Or.inl ⟨by rfl, ?_⟩) ?_ ?_
           rotate_left
           ·intro w'
            go_simp
            with_reducible rfl
           rotate_left
           ·simp only [Act.put, lS, lZ, lU, i64_w, i32_w]
            rfl
           refine last_ (i := 12) (N := none) #[true, true, true, true, true, true, true, true, true, true, true, true, true] rfl rfl (one_of HT_.out (by kernel_rfl)) (by decide) (fun K hK => ?_)
           refine skip_ (w1 := ?_) (by rfl) rfl ?_ ?_
           rotate_left
           ·go_simp
            rfl
           refine hK.out _ _ ?_
           clear hK K
           refine done_ (done_of HT_.out (by kernel_rfl)) ?_
           try go_wp2
           go_roundg k3
           case measure => have:=HK1.out;have:=HJ5.out;have:=HK3.out;omega
           case rel => exact ⟨(wrap64 (x7_3 + 1)),(y300),(.slice (some ⟨go49,0,none⟩) x290001_3.length co52),(by first|rfl|(simp;done)|(simp [*];done)),H',⟨by have:=HK1.out;have:=HJ5.out;have:=HK3.out;omega⟩,⟨by (with_reducible repeat (first|apply rA|apply rN|apply rD));exact HQ54.out⟩,⟨by (with_reducible repeat (first|refine bN ?_ _|refine bD ?_|refine bA ?_ _));refine bR ?_ (by have h_:=Kd.R_ne HO_290001.out BK288.out (by decide);intro e_;exact h_ (by rw [e_];rfl)) _;(with_reducible repeat (first|refine bN ?_ _|refine bD ?_|refine bA ?_ _));exact BK288.out⟩,⟨by (with_reducible repeat (first|refine bN ?_ _|refine bD ?_|refine bA ?_ _));refine bR ?_ (by have h_:=Kd.R_ne HO_290001.out BK289.out (by decide);intro e_;exact h_ (by rw [e_];rfl)) _;(with_reducible repeat (first|refine bN ?_ _|refine bD ?_|refine bA ?_ _));exact BK289.out⟩,⟨by repeat (first|(with_reducible first|exact HB.out|apply wA|apply wN_|apply wD|refine wS ?_ GB49.out|refine wS ?_ GE288.out|refine wS ?_ GE289.out)|exact HB.out)⟩⟩
          ·rw [if_neg c48] at H
           exact absurd H (by simp)
         ·rw [if_neg c47] at H
          have c47b0 : decide (x7_3 < (l0.length : Int)) = false := decide_eq_false c47
          clear c47
          simp only [Option.some.injEq, Prod.mk.injEq] at H
          obtain ⟨rfl, rfl⟩ := H
          have hnb55 := NB289_288.out
          have hnc55 := NB288_289.out
          have hcz56_0 : wr.cell? ⟨gb289, 0, none⟩ = some (.int .i64 x290000_1) := (bC BK289.out 0).trans rfl
          have hcz56_1 : wr.cell? ⟨gb289, 1, none⟩ = some (u290001) := (bC BK289.out 1).trans rfl
          have hfz56_0 := bF BK289.out 0
          have hfz56_1 := bF BK289.out 1
          obtain ⟨Ao57, co57, eo57⟩ := Kd.R_slice HO_290001.out
          subst eo57
          have hcz58_0 : wr.cell? ⟨gb288, 0, none⟩ = some (.int .i64 0) := (bC BK288.out 0).trans rfl
          have hcz58_1 : wr.cell? ⟨gb288, 1, none⟩ = some (.slice none 0 0) := (bC BK288.out 1).trans rfl
          have hfz58_0 := bF BK288.out 0
          have hfz58_1 := bF BK288.out 1
          go_wp2
          refine bodyPost_ret (results_cell_row rfl _ _ gb288 41 #[.int .i64 x290000_1, .slice Ao57 x290001_3.length co57] (0, 0) _ rfl (by (with_reducible repeat (first | refine bN ?_ _ | refine bD ?_ | refine bA ?_ _)); refine bP (cs := #[.int .i64 x290000_1, .slice none 0 0]) ?_ 1 _ rfl; (with_reducible repeat (first | refine bN ?_ _ | refine bD ?_ | refine bA ?_ _)); refine bP (cs := #[.int .i64 0, .slice none 0 0]) ?_ 0 _ rfl; (with_reducible repeat (first | refine bN ?_ _ | refine bD ?_ | refine bA ?_ _)); exact BK288.out) Try.underlying41 rfl (by kernel_rfl)) rfl ?_
          exact ⟨_, by first | rfl | (simp [errW_none, errW_some] <;> rfl) | (simp [*, errW_none, errW_some] <;> rfl), by (with_reducible repeat (first | apply rA | apply rN | apply rD)); exact rM (rF_ (p := ⟨gb288, 1, none⟩) (rF_ (p := ⟨gb288, 0, none⟩) (Kd.R_types HO_290001.out BK288.out (by decide)) (fun _ hk => hk.2) (.int .i64 x290000_1)) (fun _ hk => hk.2) (.slice Ao57 x290001_3.length co57)) (fun _ hk => trivial), by repeat (first | (with_reducible first | exact HB.out | apply wA | apply wN_ | apply wD | refine wS ?_ GE288.out | refine wS ?_ GE289.out) | exact HB.out)⟩
        ·rw [if_neg c46] at H
         have c46b0 : decide (x7_3 < (x290001_3.length : Int)) = false := decide_eq_false c46
         clear c46
         simp only [Option.some.injEq, Prod.mk.injEq] at H
         obtain ⟨rfl, rfl⟩ := H
         have hnb59 := NB289_288.out
         have hnc59 := NB288_289.out
         have hcz60_0 : wr.cell? ⟨gb289, 0, none⟩ = some (.int .i64 x290000_1) := (bC BK289.out 0).trans rfl
         have hcz60_1 : wr.cell? ⟨gb289, 1, none⟩ = some (u290001) := (bC BK289.out 1).trans rfl
         have hfz60_0 := bF BK289.out 0
         have hfz60_1 := bF BK289.out 1
         obtain ⟨Ao61, co61, eo61⟩ := Kd.R_slice HO_290001.out
         subst eo61
         have hcz62_0 : wr.cell? ⟨gb288, 0, none⟩ = some (.int .i64 0) := (bC BK288.out 0).trans rfl
         have hcz62_1 : wr.cell? ⟨gb288, 1, none⟩ = some (.slice none 0 0) := (bC BK288.out 1).trans rfl
         have hfz62_0 := bF BK288.out 0
         have hfz62_1 := bF BK288.out 1
         go_wp2
         refine bodyPost_ret (results_cell_row rfl _ _ gb288 41 #[.int .i64 x290000_1, .slice Ao61 x290001_3.length co61] (0, 0) _ rfl (by (with_reducible repeat (first | refine bN ?_ _ | refine bD ?_ | refine bA ?_ _)); refine bP (cs := #[.int .i64 x290000_1, .slice none 0 0]) ?_ 1 _ rfl; (with_reducible repeat (first | refine bN ?_ _ | refine bD ?_ | refine bA ?_ _)); refine bP (cs := #[.int .i64 0, .slice none 0 0]) ?_ 0 _ rfl; (with_reducible repeat (first | refine bN ?_ _ | refine bD ?_ | refine bA ?_ _)); exact BK288.out) Try.underlying41 rfl (by kernel_rfl)) rfl ?_
         exact ⟨_, by first | rfl | (simp [errW_none, errW_some] <;> rfl) | (simp [*, errW_none, errW_some] <;> rfl), by (with_reducible repeat (first | apply rA | apply rN | apply rD)); exact rM (rF_ (p := ⟨gb288, 1, none⟩) (rF_ (p := ⟨gb288, 0, none⟩) (Kd.R_types HO_290001.out BK288.out (by decide)) (fun _ hk => hk.2) (.int .i64 x290000_1)) (fun _ hk => hk.2) (.slice Ao61 x290001_3.length co61)) (fun _ hk => trivial), by repeat (first | (with_reducible first | exact HB.out | apply wA | apply wN_ | apply wD | refine wS ?_ GE288.out | refine wS ?_ GE289.out) | exact HB.out)⟩

end Go.Proofs.Ytflhbakjlbmfbaa.Pr
